/-
  Printed by gen.py (my own tool): for each Go function a plain Lean function and the proof that a call of it does what that function says.
-/
import Derived.Test.YtcbagmeglbleaaaProg
import Derived.Test.YtcbagmeglbleaaaGG
set_option linter.unusedVariables false
set_option linter.unusedSimpArgs false
set_option maxRecDepth 100000
namespace Go.Proofs.Ytcbagmeglbleaaa
open Go Go.Gol
theorem E22 : ElemInfo Try.prog 22 5 1 1 := ElemInfo.mk' (.int .u8 0) (by kernel_rfl) (by kernel_rfl) rfl
theorem E36 : ElemInfo Try.prog 36 22 1 24 := ElemInfo.mk' (.slice none 0 0) (by kernel_rfl) (by kernel_rfl) rfl
/-! ### 15 colophon/crc.next -/
noncomputable abbrev C15 : Code := Try.f15.body.getD .skip
def crc_next.l1 : Nat → Int → Int → Option Int
  | 0, _, _ => none
  | k + 1, x0_l1, x5_l1 => (if decide (x5_l1 < 8) then (if ((iand .u32 x0_l1 1) == 1) then crc_next.l1 k (ixor .u32 (ishr .u32 x0_l1 1) 3988292384) (wi (x5_l1 + 1)) else crc_next.l1 k (ishr .u32 x0_l1 1) (wi (x5_l1 + 1))) else some x0_l1)
def crc_next.f (a0 : Int) (a1 : Int) : Option Int := ((crc_next.l1 FU (ixor .u32 a0 (IntKind.wrap .u32 a1)) 0).bind fun o3 => some o3)
def crc_next.post (w : World) (r : Int) (v : Value) (w' : World) : Prop := v = .int .u32 r ∧ Sat w' (rf w) []
theorem crc_next.l1_ok {Q} (w0 : World) (out : Int) (hn0 : ∀ (w : World), Sat w (rf w0) [] → At Q (.exit 0) 23 [(0, .int .u32 out)] w) :
    ∀ (k : Nat) (x0_l1 : Int) (x5_l1 : Int) (w : World), Sat w (rf w0) [] → crc_next.l1 k x0_l1 x5_l1 = some out → WL Try.prog (cbody (cbody (cr (cl (cr (cr C15)))))) Q 23 [(0, .int .u32 x0_l1), (5, .int .i64 x5_l1)] w := by
  intro k
  induction k with
  | zero => intro x0_l1 x5_l1 w hS H; exact absurd (show none = some out from H) (by simp)
  | succ k ih =>
    intro x0_l1 x5_l1 w hS H
    unfold crc_next.l1 at H
    refine WL.round ?_
    refine WC.seq (by kernel_rfl) ?_
    refine WC.seq (by kernel_rfl) ?_
    refine WC.reg [0, 1] (by kernel_rfl) (by kernel_rfl) ?_
    refine WR.runk [0, 1] [] [0, 5, 11] (L' := [(0, .int .u32 x0_l1), (5, .int .i64 x5_l1), (11, .bool (decide (x5_l1 < 8)))]) (w' := w) (by kernel_rfl) ?_
    refine WR.nil ?_
    refine At.go ?_
    refine WC.cond (by kernel_rfl) (decide (x5_l1 < 8)) (by kernel_rfl) (by kernel_rfl) (fun hb1 => ?_) (fun hb1 => ?_)
    · replace H := ite_t H hb1
      refine WC.skip (by kernel_rfl) ?_
      refine At.go ?_
      refine WC.seq (by kernel_rfl) ?_
      refine WC.block (by kernel_rfl) ?_
      refine WC.seq (by kernel_rfl) ?_
      refine WC.reg [0, 1, 2] (by kernel_rfl) (by kernel_rfl) ?_
      refine WR.runk [0, 1, 2] [] [0, 5, 16] (L' := [(0, .int .u32 x0_l1), (5, .int .i64 x5_l1), (16, .bool ((iand .u32 x0_l1 1) == 1))]) (w' := w) (by kernel_rfl) ?_
      refine WR.nil ?_
      refine At.go ?_
      refine WC.cond (by kernel_rfl) ((iand .u32 x0_l1 1) == 1) (by kernel_rfl) (by kernel_rfl) (fun hb2 => ?_) (fun hb2 => ?_)
      · replace H := ite_t H hb2
        refine WC.reg [0, 1, 2, 3] (by kernel_rfl) (by kernel_rfl) ?_
        refine WR.runk [0, 1, 2, 3] [] [0, 5] (L' := [(0, .int .u32 (ixor .u32 (ishr .u32 x0_l1 1) 3988292384)), (5, .int .i64 x5_l1)]) (w' := w) (by kernel_rfl) ?_
        refine WR.nil ?_
        refine At.blockNormal ?_
        refine At.go ?_
        refine WC.reg [0, 1, 2] (by kernel_rfl) (by kernel_rfl) ?_
        refine WR.runk [0, 1, 2] [] [0, 5] (L' := [(0, .int .u32 (ixor .u32 (ishr .u32 x0_l1 1) 3988292384)), (5, .int .i64 (wi (x5_l1 + 1)))]) (w' := w) (by kernel_rfl) ?_
        refine WR.nil ?_
        have hS : Sat w (rf w0) [] := hS.sel [] (by kernel_rfl)
        refine At.again ?_
        refine WL.weaken [0, 5] (L' := [(0, .int .u32 (ixor .u32 (ishr .u32 x0_l1 1) 3988292384)), (5, .int .i64 (wi (x5_l1 + 1)))]) (by kernel_rfl) ?_
        exact ih (ixor .u32 (ishr .u32 x0_l1 1) 3988292384) (wi (x5_l1 + 1)) _ hS H
      · replace H := ite_f H hb2
        refine WC.reg [0, 1, 2] (by kernel_rfl) (by kernel_rfl) ?_
        refine WR.runk [0, 1, 2] [] [0, 5] (L' := [(0, .int .u32 (ishr .u32 x0_l1 1)), (5, .int .i64 x5_l1)]) (w' := w) (by kernel_rfl) ?_
        refine WR.nil ?_
        refine At.blockNormal ?_
        refine At.go ?_
        refine WC.reg [0, 1, 2] (by kernel_rfl) (by kernel_rfl) ?_
        refine WR.runk [0, 1, 2] [] [0, 5] (L' := [(0, .int .u32 (ishr .u32 x0_l1 1)), (5, .int .i64 (wi (x5_l1 + 1)))]) (w' := w) (by kernel_rfl) ?_
        refine WR.nil ?_
        have hS : Sat w (rf w0) [] := hS.sel [] (by kernel_rfl)
        refine At.again ?_
        refine WL.weaken [0, 5] (L' := [(0, .int .u32 (ishr .u32 x0_l1 1)), (5, .int .i64 (wi (x5_l1 + 1)))]) (by kernel_rfl) ?_
        exact ih (ishr .u32 x0_l1 1) (wi (x5_l1 + 1)) _ hS H
    · replace H := ite_f H hb1
      refine WC.exit (by kernel_rfl) ?_
      refine At.thenExit ?_
      refine At.thenExit ?_
      obtain rfl := Option.some.inj H
      have hS : Sat w (rf w0) [] := hS.sel [] (by kernel_rfl)
      refine At.weaken [0] (L' := [(0, .int .u32 x0_l1)]) (by kernel_rfl) ?_
      exact hn0 _ hS
theorem crc_next.calls (w0 : World) (a0 : Int) (a1 : Int) (r : Int) (H : crc_next.f a0 a1 = some r) :
    Calls Try.prog 15 #[.int .u32 a0, .int .u8 a1] w0 (fun e w' => ∃ v, e = .returned v ∧ crc_next.post w0 r v w') := by
  have hS : Sat w0 (rf w0) [] := Sat.start w0
  unfold crc_next.f at H
  refine calls_of_WC (vs := [.int .u32 a0, .int .u8 a1]) Try.func15 (c := C15) (n := 23) (by kernel_rfl) (by kernel_rfl) (by kernel_rfl) ?_
  refine WC.seq (by kernel_rfl) ?_
  refine WC.reg [0] (by kernel_rfl) (by kernel_rfl) ?_
  refine WR.runk [0] [] [0, 1] (L' := [(0, .int .u32 a0), (1, .int .u8 a1)]) (w' := w0) (by kernel_rfl) ?_
  refine WR.nil ?_
  refine At.go ?_
  refine WC.seq (by kernel_rfl) ?_
  refine WC.reg [0, 1, 2, 3, 4] (by kernel_rfl) (by kernel_rfl) ?_
  refine WR.runk [0, 1, 2, 3, 4] [] [0] (L' := [(0, .int .u32 (ixor .u32 a0 (IntKind.wrap .u32 a1)))]) (w' := w0) (by kernel_rfl) ?_
  refine WR.nil ?_
  refine At.go ?_
  refine WC.seq (by kernel_rfl) ?_
  refine WC.seq (by kernel_rfl) ?_
  refine WC.reg [0] (by kernel_rfl) (by kernel_rfl) ?_
  refine WR.runk [0] [] [0, 5] (L' := [(0, .int .u32 (ixor .u32 a0 (IntKind.wrap .u32 a1))), (5, .int .i64 0)]) (w' := w0) (by kernel_rfl) ?_
  refine WR.nil ?_
  refine At.go ?_
  refine WC.block (by kernel_rfl) ?_
  have hS : Sat w0 (rf w0) [] := hS.sel [] (by kernel_rfl)
  obtain ⟨o3, e4, H⟩ := bind_ex H
  refine WC.loop (by kernel_rfl) ?_
  refine WL.weaken [0, 5] (L' := [(0, .int .u32 (ixor .u32 a0 (IntKind.wrap .u32 a1))), (5, .int .i64 0)]) (by kernel_rfl) ?_
  refine crc_next.l1_ok w0 o3 (fun w6 hS => ?_) FU (ixor .u32 a0 (IntKind.wrap .u32 a1)) 0 _ hS e4
  refine At.hit ?_
  refine At.go ?_
  refine WC.seq (by kernel_rfl) ?_
  refine WC.reg [0, 1] (by kernel_rfl) (by kernel_rfl) ?_
  refine WR.runk [0, 1] [] [4] (L' := [(4, .int .u32 o3)]) (w' := w6) (by kernel_rfl) ?_
  refine WR.nil ?_
  refine At.go ?_
  refine WC.ret (by kernel_rfl) ?_
  obtain rfl := Option.some.inj H
  have hS : Sat w6 (rf w0) [] := hS.sel [] (by kernel_rfl)
  exact At.body [.int .u32 o3] (by kernel_rfl) ⟨_, rfl, rfl, hS⟩
/-! ### 11 colophon/colophonref04.Sum -/
noncomputable abbrev C11 : Code := Try.f11.body.getD .skip
def colophonref04_Sum.l1 (l0 : List Int) : Nat → Int → Int → Option Int
  | 0, _, _ => none
  | k + 1, x3_l1, x4_l1 => (if decide (x4_l1 < wi (8 * (l0.length : Int))) then ((at? l0 (wi (Int.tdiv x4_l1 8))).bind fun v2 => (if (((Int.tmod x3_l1 2) == 1) != ((iand .u8 (ishr .u8 v2 (IntKind.wrap .u64 (Int.tmod x4_l1 8))) 1) == 1)) then colophonref04_Sum.l1 l0 k (ixor .u32 (IntKind.wrap .u32 (Int.tdiv x3_l1 2)) 3988292384) (wi (x4_l1 + 1)) else colophonref04_Sum.l1 l0 k (IntKind.wrap .u32 (Int.tdiv x3_l1 2)) (wi (x4_l1 + 1)))) else some x3_l1)
def colophonref04_Sum.f (l0 : List Int) : Option Int := ((colophonref04_Sum.l1 l0 FU 4294967295 0).bind fun o5 => some (IntKind.wrap .u32 (4294967295 - o5)))
def colophonref04_Sum.post (w : World) (r : Int) (v : Value) (w' : World) : Prop := v = .int .u32 r ∧ Sat w' (rf w) []
theorem colophonref04_Sum.l1_ok {Q} (w0 : World) (A0 : Option Addr) (c0 : Nat) (l0 : List Int) (R0 : rdS (r0 (.int .u8)) 1 (hp w0) A0 c0 l0) (out : Int) (hn0 : ∀ (w : World), Sat w (rf w0) [] → At Q (.exit 0) 37 [(3, .int .u32 out)] w) :
    ∀ (k : Nat) (x3_l1 : Int) (x4_l1 : Int) (w : World), Sat w (rf w0) [] → colophonref04_Sum.l1 l0 k x3_l1 x4_l1 = some out → WL Try.prog (cbody (cbody (cr (cl (cr (cr C11)))))) Q 37 [(0, .slice A0 l0.length c0), (3, .int .u32 x3_l1), (4, .int .i64 x4_l1)] w := by
  intro k
  induction k with
  | zero => intro x3_l1 x4_l1 w hS H; exact absurd (show none = some out from H) (by simp)
  | succ k ih =>
    intro x3_l1 x4_l1 w hS H
    unfold colophonref04_Sum.l1 at H
    refine WL.round ?_
    refine WC.seq (by kernel_rfl) ?_
    refine WC.seq (by kernel_rfl) ?_
    refine WC.reg [0, 1, 2, 3, 4] (by kernel_rfl) (by kernel_rfl) ?_
    refine WR.runk [0, 1, 2, 3, 4] [] [0, 3, 4, 11] (L' := [(0, .slice A0 l0.length c0), (3, .int .u32 x3_l1), (4, .int .i64 x4_l1), (11, .bool (decide (x4_l1 < wi (8 * (l0.length : Int)))))]) (w' := w) (by kernel_rfl) ?_
    refine WR.nil ?_
    refine At.go ?_
    refine WC.cond (by kernel_rfl) (decide (x4_l1 < wi (8 * (l0.length : Int)))) (by kernel_rfl) (by kernel_rfl) (fun hb1 => ?_) (fun hb1 => ?_)
    · replace H := ite_t H hb1
      refine WC.skip (by kernel_rfl) ?_
      refine At.go ?_
      refine WC.seq (by kernel_rfl) ?_
      refine WC.block (by kernel_rfl) ?_
      refine WC.seq (by kernel_rfl) ?_
      refine WC.reg [0, 1, 2, 3] (by kernel_rfl) (by kernel_rfl) ?_
      refine WR.runk [0, 1, 2, 3] [] [0, 3, 4, 5] (L' := [(0, .slice A0 l0.length c0), (3, .int .u32 x3_l1), (4, .int .i64 x4_l1), (5, .bool ((Int.tmod x3_l1 2) == 1))]) (w' := w) (by kernel_rfl) ?_
      refine WR.nil ?_
      refine At.go ?_
      refine WC.seq (by kernel_rfl) ?_
      refine WC.reg [0, 1, 2, 3, 4, 5, 6, 7, 8, 9, 10, 11] (by kernel_rfl) (by kernel_rfl) ?_
      refine WR.runk [0, 1, 2] [3, 4, 5, 6, 7, 8, 9, 10, 11] [0, 3, 4, 5, 17, 19] (L' := [(0, .slice A0 l0.length c0), (3, .int .u32 x3_l1), (4, .int .i64 x4_l1), (5, .bool ((Int.tmod x3_l1 2) == 1)), (17, .slice A0 l0.length c0), (19, .int .i64 (wi (Int.tdiv x4_l1 8)))]) (w' := w) (by kernel_rfl) ?_
      obtain ⟨v2, e3, H⟩ := bind_ex H
      refine WR.st (St.ofP (PSt.idx (k := .i64) (.tmp 17) (.tmp 19) (by kernel_rfl) (by kernel_rfl) E22 (by kernel_rfl) (by kernel_rfl) (rdS.up R0 hS.sub0) e3 ?_))
      refine WR.runk [] [4, 5, 6, 7, 8, 9, 10, 11] [0, 3, 4, 5, 20] (L' := [(0, .slice A0 l0.length c0), (3, .int .u32 x3_l1), (4, .int .i64 x4_l1), (5, .bool ((Int.tmod x3_l1 2) == 1)), (20, .pointer (some (adr A0 (wi (Int.tdiv x4_l1 8)).toNat 1)))]) (w' := w) (by kernel_rfl) ?_
      refine WR.st (St.ofR (RSt.loadInt (t := 5) (.tmp 20) (by kernel_rfl) (by kernel_rfl) (by kernel_rfl) (by kernel_rfl) (rdS.up R0 hS.sub0) e3 ?_))
      refine WR.runk [5, 6, 7] [8, 9, 10, 11] [0, 3, 4, 5, 21, 24] (L' := [(0, .slice A0 l0.length c0), (3, .int .u32 x3_l1), (4, .int .i64 x4_l1), (5, .bool ((Int.tmod x3_l1 2) == 1)), (21, .int .u8 v2), (24, .int .u64 (IntKind.wrap .u64 (Int.tmod x4_l1 8)))]) (w' := w) (by kernel_rfl) ?_
      refine WR.st (St.ofP (PSt.shift (k := .u8) (k2 := .u64) (t := 5) (t2 := 24) (a := v2) (b := (IntKind.wrap .u64 (Int.tmod x4_l1 8))) .shr (by decide) (.tmp 21) (.tmp 24) (by kernel_rfl) (by kernel_rfl) (by kernel_rfl) (by kernel_rfl) (wrap_u64_nonneg _) ?_))
      refine WR.runk [9, 10, 11] [] [0, 3, 4, 5, 6] (L' := [(0, .slice A0 l0.length c0), (3, .int .u32 x3_l1), (4, .int .i64 x4_l1), (5, .bool ((Int.tmod x3_l1 2) == 1)), (6, .bool ((iand .u8 (ishr .u8 v2 (IntKind.wrap .u64 (Int.tmod x4_l1 8))) 1) == 1))]) (w' := w) (by kernel_rfl) ?_
      refine WR.nil ?_
      refine At.go ?_
      refine WC.seq (by kernel_rfl) ?_
      refine WC.reg [0, 1, 2] (by kernel_rfl) (by kernel_rfl) ?_
      refine WR.runk [0, 1, 2] [] [0, 3, 4, 5, 6] (L' := [(0, .slice A0 l0.length c0), (3, .int .u32 (IntKind.wrap .u32 (Int.tdiv x3_l1 2))), (4, .int .i64 x4_l1), (5, .bool ((Int.tmod x3_l1 2) == 1)), (6, .bool ((iand .u8 (ishr .u8 v2 (IntKind.wrap .u64 (Int.tmod x4_l1 8))) 1) == 1))]) (w' := w) (by kernel_rfl) ?_
      refine WR.nil ?_
      refine At.go ?_
      refine WC.seq (by kernel_rfl) ?_
      refine WC.reg [0, 1, 2] (by kernel_rfl) (by kernel_rfl) ?_
      refine WR.runk [0, 1, 2] [] [0, 3, 4, 32] (L' := [(0, .slice A0 l0.length c0), (3, .int .u32 (IntKind.wrap .u32 (Int.tdiv x3_l1 2))), (4, .int .i64 x4_l1), (32, .bool (((Int.tmod x3_l1 2) == 1) != ((iand .u8 (ishr .u8 v2 (IntKind.wrap .u64 (Int.tmod x4_l1 8))) 1) == 1)))]) (w' := w) (by kernel_rfl) ?_
      refine WR.nil ?_
      refine At.go ?_
      refine WC.cond (by kernel_rfl) (((Int.tmod x3_l1 2) == 1) != ((iand .u8 (ishr .u8 v2 (IntKind.wrap .u64 (Int.tmod x4_l1 8))) 1) == 1)) (by kernel_rfl) (by kernel_rfl) (fun hb4 => ?_) (fun hb4 => ?_)
      · replace H := ite_t H hb4
        refine WC.reg [0, 1, 2] (by kernel_rfl) (by kernel_rfl) ?_
        refine WR.runk [0, 1, 2] [] [0, 3, 4] (L' := [(0, .slice A0 l0.length c0), (3, .int .u32 (ixor .u32 (IntKind.wrap .u32 (Int.tdiv x3_l1 2)) 3988292384)), (4, .int .i64 x4_l1)]) (w' := w) (by kernel_rfl) ?_
        refine WR.nil ?_
        refine At.blockNormal ?_
        refine At.go ?_
        refine WC.reg [0, 1, 2] (by kernel_rfl) (by kernel_rfl) ?_
        refine WR.runk [0, 1, 2] [] [0, 3, 4] (L' := [(0, .slice A0 l0.length c0), (3, .int .u32 (ixor .u32 (IntKind.wrap .u32 (Int.tdiv x3_l1 2)) 3988292384)), (4, .int .i64 (wi (x4_l1 + 1)))]) (w' := w) (by kernel_rfl) ?_
        refine WR.nil ?_
        have hS : Sat w (rf w0) [] := hS.sel [] (by kernel_rfl)
        refine At.again ?_
        refine WL.weaken [0, 3, 4] (L' := [(0, .slice A0 l0.length c0), (3, .int .u32 (ixor .u32 (IntKind.wrap .u32 (Int.tdiv x3_l1 2)) 3988292384)), (4, .int .i64 (wi (x4_l1 + 1)))]) (by kernel_rfl) ?_
        exact ih (ixor .u32 (IntKind.wrap .u32 (Int.tdiv x3_l1 2)) 3988292384) (wi (x4_l1 + 1)) _ hS H
      · replace H := ite_f H hb4
        refine WC.skip (by kernel_rfl) ?_
        refine At.blockNormal ?_
        refine At.go ?_
        refine WC.reg [0, 1, 2] (by kernel_rfl) (by kernel_rfl) ?_
        refine WR.runk [0, 1, 2] [] [0, 3, 4] (L' := [(0, .slice A0 l0.length c0), (3, .int .u32 (IntKind.wrap .u32 (Int.tdiv x3_l1 2))), (4, .int .i64 (wi (x4_l1 + 1)))]) (w' := w) (by kernel_rfl) ?_
        refine WR.nil ?_
        have hS : Sat w (rf w0) [] := hS.sel [] (by kernel_rfl)
        refine At.again ?_
        refine WL.weaken [0, 3, 4] (L' := [(0, .slice A0 l0.length c0), (3, .int .u32 (IntKind.wrap .u32 (Int.tdiv x3_l1 2))), (4, .int .i64 (wi (x4_l1 + 1)))]) (by kernel_rfl) ?_
        exact ih (IntKind.wrap .u32 (Int.tdiv x3_l1 2)) (wi (x4_l1 + 1)) _ hS H
    · replace H := ite_f H hb1
      refine WC.exit (by kernel_rfl) ?_
      refine At.thenExit ?_
      refine At.thenExit ?_
      obtain rfl := Option.some.inj H
      have hS : Sat w (rf w0) [] := hS.sel [] (by kernel_rfl)
      refine At.weaken [3] (L' := [(3, .int .u32 x3_l1)]) (by kernel_rfl) ?_
      exact hn0 _ hS
theorem colophonref04_Sum.calls (w0 : World) (A0 : Option Addr) (c0 : Nat) (l0 : List Int) (R0 : rdS (r0 (.int .u8)) 1 (hp w0) A0 c0 l0) (r : Int) (H : colophonref04_Sum.f l0 = some r) :
    Calls Try.prog 11 #[.slice A0 l0.length c0] w0 (fun e w' => ∃ v, e = .returned v ∧ colophonref04_Sum.post w0 r v w') := by
  have hS : Sat w0 (rf w0) [] := Sat.start w0
  unfold colophonref04_Sum.f at H
  refine calls_of_WC (vs := [.slice A0 l0.length c0]) Try.func11 (c := C11) (n := 37) (by kernel_rfl) (by kernel_rfl) (by kernel_rfl) ?_
  refine WC.seq (by kernel_rfl) ?_
  refine WC.reg [0] (by kernel_rfl) (by kernel_rfl) ?_
  refine WR.runk [0] [] [0] (L' := [(0, .slice A0 l0.length c0)]) (w' := w0) (by kernel_rfl) ?_
  refine WR.nil ?_
  refine At.go ?_
  refine WC.seq (by kernel_rfl) ?_
  refine WC.reg [0] (by kernel_rfl) (by kernel_rfl) ?_
  refine WR.runk [0] [] [0, 3] (L' := [(0, .slice A0 l0.length c0), (3, .int .u32 4294967295)]) (w' := w0) (by kernel_rfl) ?_
  refine WR.nil ?_
  refine At.go ?_
  refine WC.seq (by kernel_rfl) ?_
  refine WC.seq (by kernel_rfl) ?_
  refine WC.reg [0] (by kernel_rfl) (by kernel_rfl) ?_
  refine WR.runk [0] [] [0, 3, 4] (L' := [(0, .slice A0 l0.length c0), (3, .int .u32 4294967295), (4, .int .i64 0)]) (w' := w0) (by kernel_rfl) ?_
  refine WR.nil ?_
  refine At.go ?_
  refine WC.block (by kernel_rfl) ?_
  have hS : Sat w0 (rf w0) [] := hS.sel [] (by kernel_rfl)
  obtain ⟨o5, e6, H⟩ := bind_ex H
  refine WC.loop (by kernel_rfl) ?_
  refine WL.weaken [0, 3, 4] (L' := [(0, .slice A0 l0.length c0), (3, .int .u32 4294967295), (4, .int .i64 0)]) (by kernel_rfl) ?_
  refine colophonref04_Sum.l1_ok w0 A0 c0 l0 R0 o5 (fun w8 hS => ?_) FU 4294967295 0 _ hS e6
  refine At.hit ?_
  refine At.go ?_
  refine WC.seq (by kernel_rfl) ?_
  refine WC.reg [0, 1, 2] (by kernel_rfl) (by kernel_rfl) ?_
  refine WR.runk [0, 1, 2] [] [2] (L' := [(2, .int .u32 (IntKind.wrap .u32 (4294967295 - o5)))]) (w' := w8) (by kernel_rfl) ?_
  refine WR.nil ?_
  refine At.go ?_
  refine WC.ret (by kernel_rfl) ?_
  obtain rfl := Option.some.inj H
  have hS : Sat w8 (rf w0) [] := hS.sel [] (by kernel_rfl)
  exact At.body [.int .u32 (IntKind.wrap .u32 (4294967295 - o5))] (by kernel_rfl) ⟨_, rfl, rfl, hS⟩
/-! ### 16 slices.Equal[[]byte,byte] -/
noncomputable abbrev C16 : Code := Try.f16.body.getD .skip
def slices_Equal.l1 (l0 : List Int) (l1 : List Int) : Nat → Int → Option (Sum Bool Unit)
  | 0, _ => none
  | k + 1, x13_l1 => (if decide (x13_l1 < (l0.length : Int)) then ((at? l0 x13_l1).bind fun v5 => ((at? l1 x13_l1).bind fun v7 => (if (v5 != v7) then some (.inl false) else slices_Equal.l1 l0 l1 k (wi (x13_l1 + 1))))) else some (.inr ()))
def slices_Equal.f (l0 : List Int) (l1 : List Int) : Option Bool := (if ((l0.length : Int) != (l1.length : Int)) then some false else ((slices_Equal.l1 l0 l1 FU 0).bind fun o10 => (match o10 with | .inl o12 => some o12 | .inr o16 => some true)))
def slices_Equal.post (w : World) (r : Bool) (v : Value) (w' : World) : Prop := v = .bool r ∧ Sat w' (rf w) []
theorem slices_Equal.l1_ok {Q} (w0 : World) (A0 : Option Addr) (c0 : Nat) (l0 : List Int) (A1 : Option Addr) (c1 : Nat) (l1 : List Int) (R0 : rdS (r0 (.int .u8)) 1 (hp w0) A0 c0 l0) (R1 : rdS (r0 (.int .u8)) 1 (hp w0) A1 c1 l1) (out : Sum Bool Unit) (hn0 : ∀ (o0 : Bool) (w : World), out = (.inl o0) → Sat w (rf w0) [] → At Q .ret 26 [(4, .bool o0)] w) (hn1 : ∀ (o1 : Unit) (w : World), out = (.inr o1) → Sat w (rf w0) [] → At Q (.exit 0) 26 [] w) :
    ∀ (k : Nat) (x13_l1 : Int) (w : World), Sat w (rf w0) [] → slices_Equal.l1 l0 l1 k x13_l1 = some out → WL Try.prog (cbody (cbody (cr (cl (cr (cr C16)))))) Q 26 [(0, .slice A0 l0.length c0), (1, .slice A1 l1.length c1), (12, .int .i64 (l0.length : Int)), (13, .int .i64 x13_l1)] w := by
  intro k
  induction k with
  | zero => intro x13_l1 w hS H; exact absurd (show none = some out from H) (by simp)
  | succ k ih =>
    intro x13_l1 w hS H
    unfold slices_Equal.l1 at H
    refine WL.round ?_
    refine WC.seq (by kernel_rfl) ?_
    refine WC.reg [0] (by kernel_rfl) (by kernel_rfl) ?_
    refine WR.runk [0] [] [0, 1, 12, 13, 14] (L' := [(0, .slice A0 l0.length c0), (1, .slice A1 l1.length c1), (12, .int .i64 (l0.length : Int)), (13, .int .i64 x13_l1), (14, .bool (decide (x13_l1 < (l0.length : Int))))]) (w' := w) (by kernel_rfl) ?_
    refine WR.nil ?_
    refine At.go ?_
    refine WC.seq (by kernel_rfl) ?_
    refine WC.cond (by kernel_rfl) (decide (x13_l1 < (l0.length : Int))) (by kernel_rfl) (by kernel_rfl) (fun hb2 => ?_) (fun hb2 => ?_)
    · replace H := ite_t H hb2
      refine WC.skip (by kernel_rfl) ?_
      refine At.go ?_
      refine WC.seq (by kernel_rfl) ?_
      refine WC.block (by kernel_rfl) ?_
      refine WC.seq (by kernel_rfl) ?_
      refine WC.reg [0, 1] (by kernel_rfl) (by kernel_rfl) ?_
      refine WR.runk [0, 1] [] [0, 1, 5, 12, 13] (L' := [(0, .slice A0 l0.length c0), (1, .slice A1 l1.length c1), (5, .int .i64 x13_l1), (12, .int .i64 (l0.length : Int)), (13, .int .i64 x13_l1)]) (w' := w) (by kernel_rfl) ?_
      refine WR.nil ?_
      refine At.go ?_
      refine WC.seq (by kernel_rfl) ?_
      refine WC.drawn (by kernel_rfl) (by kernel_rfl) 9 (by kernel_rfl) (fun w3 hw4 => ?_)
      have hS := hS.heap hw4.1 hw4.2
      refine WD.weaken [0, 1, 5, 12, 13] (L' := [(0, .slice A0 l0.length c0), (1, .slice A1 l1.length c1), (5, .int .i64 x13_l1), (12, .int .i64 (l0.length : Int)), (13, .int .i64 x13_l1)]) (by kernel_rfl) ?_
      refine WD.pure (i := 0) (v := .slice A0 l0.length c0) (by kernel_rfl) (by kernel_rfl) (fun _ => by kernel_rfl) ?_
      refine WD.weaken [0, 1, 5, 12, 13, 16] (L' := [(0, .slice A0 l0.length c0), (1, .slice A1 l1.length c1), (5, .int .i64 x13_l1), (12, .int .i64 (l0.length : Int)), (13, .int .i64 x13_l1), (16, .slice A0 l0.length c0)]) (by kernel_rfl) ?_
      refine WD.pure (i := 1) (v := .int .i64 x13_l1) (by kernel_rfl) (by kernel_rfl) (fun _ => by kernel_rfl) ?_
      refine WD.weaken [0, 1, 5, 12, 13, 16, 17] (L' := [(0, .slice A0 l0.length c0), (1, .slice A1 l1.length c1), (5, .int .i64 x13_l1), (12, .int .i64 (l0.length : Int)), (13, .int .i64 x13_l1), (16, .slice A0 l0.length c0), (17, .int .i64 x13_l1)]) (by kernel_rfl) ?_
      obtain ⟨v5, e6, H⟩ := bind_ex H
      refine WD.ofP (i := 2) (by kernel_rfl) (PSt.idx (k := .i64) (.tmp 16) (.tmp 17) (by kernel_rfl) (by kernel_rfl) E22 (by kernel_rfl) (by kernel_rfl) (rdS.up R0 hS.sub0) e6 ?_)
      refine WD.weaken [0, 1, 5, 12, 13, 18] (L' := [(0, .slice A0 l0.length c0), (1, .slice A1 l1.length c1), (5, .int .i64 x13_l1), (12, .int .i64 (l0.length : Int)), (13, .int .i64 x13_l1), (18, .pointer (some (adr A0 x13_l1.toNat 1)))]) (by kernel_rfl) ?_
      refine WD.ofR (i := 3) (by kernel_rfl) (RSt.loadInt (t := 5) (.tmp 18) (by kernel_rfl) (by kernel_rfl) (by kernel_rfl) (by kernel_rfl) (rdS.up R0 hS.sub0) e6 ?_)
      refine WD.weaken [0, 1, 5, 12, 13, 19] (L' := [(0, .slice A0 l0.length c0), (1, .slice A1 l1.length c1), (5, .int .i64 x13_l1), (12, .int .i64 (l0.length : Int)), (13, .int .i64 x13_l1), (19, .int .u8 v5)]) (by kernel_rfl) ?_
      refine WD.pure (i := 4) (v := .slice A1 l1.length c1) (by kernel_rfl) (by kernel_rfl) (fun _ => by kernel_rfl) ?_
      refine WD.weaken [0, 1, 5, 12, 13, 19, 20] (L' := [(0, .slice A0 l0.length c0), (1, .slice A1 l1.length c1), (5, .int .i64 x13_l1), (12, .int .i64 (l0.length : Int)), (13, .int .i64 x13_l1), (19, .int .u8 v5), (20, .slice A1 l1.length c1)]) (by kernel_rfl) ?_
      refine WD.pure (i := 5) (v := .int .i64 x13_l1) (by kernel_rfl) (by kernel_rfl) (fun _ => by kernel_rfl) ?_
      refine WD.weaken [0, 1, 12, 13, 19, 20, 21] (L' := [(0, .slice A0 l0.length c0), (1, .slice A1 l1.length c1), (12, .int .i64 (l0.length : Int)), (13, .int .i64 x13_l1), (19, .int .u8 v5), (20, .slice A1 l1.length c1), (21, .int .i64 x13_l1)]) (by kernel_rfl) ?_
      obtain ⟨v7, e8, H⟩ := bind_ex H
      refine WD.ofP (i := 6) (by kernel_rfl) (PSt.idx (k := .i64) (.tmp 20) (.tmp 21) (by kernel_rfl) (by kernel_rfl) E22 (by kernel_rfl) (by kernel_rfl) (rdS.up R1 hS.sub0) e8 ?_)
      refine WD.weaken [0, 1, 12, 13, 19, 22] (L' := [(0, .slice A0 l0.length c0), (1, .slice A1 l1.length c1), (12, .int .i64 (l0.length : Int)), (13, .int .i64 x13_l1), (19, .int .u8 v5), (22, .pointer (some (adr A1 x13_l1.toNat 1)))]) (by kernel_rfl) ?_
      refine WD.ofR (i := 7) (by kernel_rfl) (RSt.loadInt (t := 5) (.tmp 22) (by kernel_rfl) (by kernel_rfl) (by kernel_rfl) (by kernel_rfl) (rdS.up R1 hS.sub0) e8 ?_)
      refine WD.weaken [0, 1, 12, 13, 19, 23] (L' := [(0, .slice A0 l0.length c0), (1, .slice A1 l1.length c1), (12, .int .i64 (l0.length : Int)), (13, .int .i64 x13_l1), (19, .int .u8 v5), (23, .int .u8 v7)]) (by kernel_rfl) ?_
      refine WD.pure (i := 8) (v := .bool (v5 != v7)) (by kernel_rfl) (by kernel_rfl) (fun _ => by kernel_rfl) ?_
      refine WD.weaken [0, 1, 12, 13, 24] (L' := [(0, .slice A0 l0.length c0), (1, .slice A1 l1.length c1), (12, .int .i64 (l0.length : Int)), (13, .int .i64 x13_l1), (24, .bool (v5 != v7))]) (by kernel_rfl) ?_
      refine WD.nil (by kernel_rfl) ?_
      refine At.go ?_
      refine WC.cond (by kernel_rfl) (v5 != v7) (by kernel_rfl) (by kernel_rfl) (fun hb9 => ?_) (fun hb9 => ?_)
      · replace H := ite_t H hb9
        refine WC.seq (by kernel_rfl) ?_
        refine WC.reg [0] (by kernel_rfl) (by kernel_rfl) ?_
        refine WR.runk [0] [] [4] (L' := [(4, .bool false)]) (w' := w3) (by kernel_rfl) ?_
        refine WR.nil ?_
        refine At.go ?_
        refine WC.ret (by kernel_rfl) ?_
        refine At.blockRet ?_
        refine At.thenRet ?_
        refine At.thenRet ?_
        obtain rfl := Option.some.inj H
        have hS : Sat w3 (rf w0) [] := hS.sel [] (by kernel_rfl)
        refine At.weaken [4] (L' := [(4, .bool false)]) (by kernel_rfl) ?_
        exact hn0 false _ rfl hS
      · replace H := ite_f H hb9
        refine WC.skip (by kernel_rfl) ?_
        refine At.blockNormal ?_
        refine At.go ?_
        refine WC.reg [0, 1] (by kernel_rfl) (by kernel_rfl) ?_
        refine WR.runk [0, 1] [] [0, 1, 12, 13] (L' := [(0, .slice A0 l0.length c0), (1, .slice A1 l1.length c1), (12, .int .i64 (l0.length : Int)), (13, .int .i64 (wi (x13_l1 + 1)))]) (w' := w3) (by kernel_rfl) ?_
        refine WR.nil ?_
        have hS : Sat w3 (rf w0) [] := hS.sel [] (by kernel_rfl)
        refine At.again ?_
        refine WL.weaken [0, 1, 12, 13] (L' := [(0, .slice A0 l0.length c0), (1, .slice A1 l1.length c1), (12, .int .i64 (l0.length : Int)), (13, .int .i64 (wi (x13_l1 + 1)))]) (by kernel_rfl) ?_
        exact ih (wi (x13_l1 + 1)) _ hS H
    · replace H := ite_f H hb2
      refine WC.exit (by kernel_rfl) ?_
      refine At.thenExit ?_
      refine At.thenExit ?_
      obtain rfl := Option.some.inj H
      have hS : Sat w (rf w0) [] := hS.sel [] (by kernel_rfl)
      refine At.weaken [] (L' := []) (by kernel_rfl) ?_
      exact hn1 () _ rfl hS
theorem slices_Equal.calls (w0 : World) (A0 : Option Addr) (c0 : Nat) (l0 : List Int) (R0 : rdS (r0 (.int .u8)) 1 (hp w0) A0 c0 l0) (A1 : Option Addr) (c1 : Nat) (l1 : List Int) (R1 : rdS (r0 (.int .u8)) 1 (hp w0) A1 c1 l1) (r : Bool) (H : slices_Equal.f l0 l1 = some r) :
    Calls Try.prog 16 #[.slice A0 l0.length c0, .slice A1 l1.length c1] w0 (fun e w' => ∃ v, e = .returned v ∧ slices_Equal.post w0 r v w') := by
  have hS : Sat w0 (rf w0) [] := Sat.start w0
  unfold slices_Equal.f at H
  refine calls_of_WC (vs := [.slice A0 l0.length c0, .slice A1 l1.length c1]) Try.func16 (c := C16) (n := 26) (by kernel_rfl) (by kernel_rfl) (by kernel_rfl) ?_
  refine WC.seq (by kernel_rfl) ?_
  refine WC.reg [0] (by kernel_rfl) (by kernel_rfl) ?_
  refine WR.runk [0] [] [0, 1] (L' := [(0, .slice A0 l0.length c0), (1, .slice A1 l1.length c1)]) (w' := w0) (by kernel_rfl) ?_
  refine WR.nil ?_
  refine At.go ?_
  refine WC.seq (by kernel_rfl) ?_
  refine WC.seq (by kernel_rfl) ?_
  refine WC.reg [0, 1, 2, 3, 4] (by kernel_rfl) (by kernel_rfl) ?_
  refine WR.runk [0, 1, 2, 3, 4] [] [0, 1, 10] (L' := [(0, .slice A0 l0.length c0), (1, .slice A1 l1.length c1), (10, .bool ((l0.length : Int) != (l1.length : Int)))]) (w' := w0) (by kernel_rfl) ?_
  refine WR.nil ?_
  refine At.go ?_
  refine WC.cond (by kernel_rfl) ((l0.length : Int) != (l1.length : Int)) (by kernel_rfl) (by kernel_rfl) (fun hb1 => ?_) (fun hb1 => ?_)
  · replace H := ite_t H hb1
    refine WC.seq (by kernel_rfl) ?_
    refine WC.reg [0] (by kernel_rfl) (by kernel_rfl) ?_
    refine WR.runk [0] [] [4] (L' := [(4, .bool false)]) (w' := w0) (by kernel_rfl) ?_
    refine WR.nil ?_
    refine At.go ?_
    refine WC.ret (by kernel_rfl) ?_
    refine At.thenRet ?_
    obtain rfl := Option.some.inj H
    have hS : Sat w0 (rf w0) [] := hS.sel [] (by kernel_rfl)
    exact At.body [.bool false] (by kernel_rfl) ⟨_, rfl, rfl, hS⟩
  · replace H := ite_f H hb1
    refine WC.skip (by kernel_rfl) ?_
    refine At.go ?_
    refine WC.seq (by kernel_rfl) ?_
    refine WC.seq (by kernel_rfl) ?_
    refine WC.reg [0, 1, 2] (by kernel_rfl) (by kernel_rfl) ?_
    refine WR.runk [0, 1, 2] [] [0, 1, 12, 13] (L' := [(0, .slice A0 l0.length c0), (1, .slice A1 l1.length c1), (12, .int .i64 (l0.length : Int)), (13, .int .i64 0)]) (w' := w0) (by kernel_rfl) ?_
    refine WR.nil ?_
    refine At.go ?_
    refine WC.block (by kernel_rfl) ?_
    have hS : Sat w0 (rf w0) [] := hS.sel [] (by kernel_rfl)
    obtain ⟨o10, e11, H⟩ := bind_ex H
    refine WC.loop (by kernel_rfl) ?_
    refine WL.weaken [0, 1, 12, 13] (L' := [(0, .slice A0 l0.length c0), (1, .slice A1 l1.length c1), (12, .int .i64 (l0.length : Int)), (13, .int .i64 0)]) (by kernel_rfl) ?_
    refine slices_Equal.l1_ok w0 A0 c0 l0 A1 c1 l1 R0 R1 o10 (fun o12 w14 ho15 hS => ?_) (fun o16 w18 ho19 hS => ?_) FU 0 _ hS e11
    · subst ho15
      dsimp only at H
      refine At.blockRet ?_
      refine At.thenRet ?_
      obtain rfl := Option.some.inj H
      have hS : Sat w14 (rf w0) [] := hS.sel [] (by kernel_rfl)
      exact At.body [.bool o12] (by kernel_rfl) ⟨_, rfl, rfl, hS⟩
    · subst ho19
      dsimp only at H
      refine At.hit ?_
      refine At.go ?_
      refine WC.seq (by kernel_rfl) ?_
      refine WC.reg [0] (by kernel_rfl) (by kernel_rfl) ?_
      refine WR.runk [0] [] [4] (L' := [(4, .bool true)]) (w' := w18) (by kernel_rfl) ?_
      refine WR.nil ?_
      refine At.go ?_
      refine WC.ret (by kernel_rfl) ?_
      obtain rfl := Option.some.inj H
      have hS : Sat w18 (rf w0) [] := hS.sel [] (by kernel_rfl)
      exact At.body [.bool true] (by kernel_rfl) ⟨_, rfl, rfl, hS⟩
/-! ### 10 colophon/crc.Sum -/
noncomputable abbrev C10 : Code := Try.f10.body.getD .skip
def crc_Sum.l2 (v2 : List Int) : Nat → Int → Int → Option Int
  | 0, _, _ => none
  | k + 1, x3_l2, x16_l2 => (if decide (x16_l2 < (v2.length : Int)) then ((at? v2 x16_l2).bind fun v8 => ((crc_next.f x3_l2 v8).bind fun r10 => crc_Sum.l2 v2 k r10 (wi (x16_l2 + 1)))) else some x3_l2)
def crc_Sum.l1 (l0 : List (List Int)) : Nat → Int → Int → Option Int
  | 0, _, _ => none
  | k + 1, x3_l1, x10_l1 => (if decide (x10_l1 < (l0.length : Int)) then ((at? l0 x10_l1).bind fun v2 => ((crc_Sum.l2 v2 FU x3_l1 0).bind fun o14 => crc_Sum.l1 l0 k o14 (wi (x10_l1 + 1)))) else some x3_l1)
def crc_Sum.f (l0 : List (List Int)) : Option Int := ((crc_Sum.l1 l0 FU 4294967295 0).bind fun o19 => some (ixor .u32 4294967295 o19))
def crc_Sum.post (w : World) (r : Int) (v : Value) (w' : World) : Prop := v = .int .u32 r ∧ Sat w' (rf w) []
theorem crc_Sum.l2_ok {Q} (w0 : World) (A0 : Option Addr) (c0 : Nat) (l0 : List (List Int)) (x10_l1 : Int) (v2 : List Int) (A4 : Option Addr) (c5 : Nat) (R6 : rdS (r0 (.int .u8)) 1 (hp w0) A4 c5 v2) (out : Int) (hn0 : ∀ (w : World), Sat w (rf w0) [] → At Q (.exit 2) 27 [(3, .int .u32 out), (8, .slice A0 l0.length c0), (9, .int .i64 (l0.length : Int)), (10, .int .i64 x10_l1)] w) :
    ∀ (k : Nat) (x3_l2 : Int) (x16_l2 : Int) (w : World), Sat w (rf w0) [] → crc_Sum.l2 v2 k x3_l2 x16_l2 = some out → WL Try.prog (cbody (cbody (cr (cr (cbody (cl (cr (cr (cbody (cbody (cr (cl (cr (cr C10)))))))))))))) Q 27 [(3, .int .u32 x3_l2), (8, .slice A0 l0.length c0), (9, .int .i64 (l0.length : Int)), (10, .int .i64 x10_l1), (14, .slice A4 v2.length c5), (15, .int .i64 (v2.length : Int)), (16, .int .i64 x16_l2)] w := by
  intro k
  induction k with
  | zero => intro x3_l2 x16_l2 w hS H; exact absurd (show none = some out from H) (by simp)
  | succ k ih =>
    intro x3_l2 x16_l2 w hS H
    unfold crc_Sum.l2 at H
    refine WL.round ?_
    refine WC.seq (by kernel_rfl) ?_
    refine WC.reg [0] (by kernel_rfl) (by kernel_rfl) ?_
    refine WR.runk [0] [] [3, 8, 9, 10, 14, 15, 16, 17] (L' := [(3, .int .u32 x3_l2), (8, .slice A0 l0.length c0), (9, .int .i64 (l0.length : Int)), (10, .int .i64 x10_l1), (14, .slice A4 v2.length c5), (15, .int .i64 (v2.length : Int)), (16, .int .i64 x16_l2), (17, .bool (decide (x16_l2 < (v2.length : Int))))]) (w' := w) (by kernel_rfl) ?_
    refine WR.nil ?_
    refine At.go ?_
    refine WC.seq (by kernel_rfl) ?_
    refine WC.cond (by kernel_rfl) (decide (x16_l2 < (v2.length : Int))) (by kernel_rfl) (by kernel_rfl) (fun hb7 => ?_) (fun hb7 => ?_)
    · replace H := ite_t H hb7
      refine WC.skip (by kernel_rfl) ?_
      refine At.go ?_
      refine WC.seq (by kernel_rfl) ?_
      refine WC.block (by kernel_rfl) ?_
      refine WC.seq (by kernel_rfl) ?_
      refine WC.reg [0, 1, 2] (by kernel_rfl) (by kernel_rfl) ?_
      refine WR.runk [] [0, 1, 2] [3, 8, 9, 10, 14, 15, 16] (L' := [(3, .int .u32 x3_l2), (8, .slice A0 l0.length c0), (9, .int .i64 (l0.length : Int)), (10, .int .i64 x10_l1), (14, .slice A4 v2.length c5), (15, .int .i64 (v2.length : Int)), (16, .int .i64 x16_l2)]) (w' := w) (by kernel_rfl) ?_
      obtain ⟨v8, e9, H⟩ := bind_ex H
      refine WR.st (St.ofP (PSt.idx (k := .i64) (.tmp 14) (.tmp 16) (by kernel_rfl) (by kernel_rfl) E22 (by kernel_rfl) (by kernel_rfl) (rdS.up R6 hS.sub0) e9 ?_))
      refine WR.runk [] [1, 2] [3, 8, 9, 10, 14, 15, 16, 18] (L' := [(3, .int .u32 x3_l2), (8, .slice A0 l0.length c0), (9, .int .i64 (l0.length : Int)), (10, .int .i64 x10_l1), (14, .slice A4 v2.length c5), (15, .int .i64 (v2.length : Int)), (16, .int .i64 x16_l2), (18, .pointer (some (adr A4 x16_l2.toNat 1)))]) (w' := w) (by kernel_rfl) ?_
      refine WR.st (St.ofR (RSt.loadInt (t := 5) (.tmp 18) (by kernel_rfl) (by kernel_rfl) (by kernel_rfl) (by kernel_rfl) (rdS.up R6 hS.sub0) e9 ?_))
      refine WR.runk [2] [] [3, 7, 8, 9, 10, 14, 15, 16] (L' := [(3, .int .u32 x3_l2), (7, .int .u8 v8), (8, .slice A0 l0.length c0), (9, .int .i64 (l0.length : Int)), (10, .int .i64 x10_l1), (14, .slice A4 v2.length c5), (15, .int .i64 (v2.length : Int)), (16, .int .i64 x16_l2)]) (w' := w) (by kernel_rfl) ?_
      refine WR.nil ?_
      refine At.go ?_
      refine WC.reg [0, 1, 2, 3] (by kernel_rfl) (by kernel_rfl) ?_
      refine WR.runk [0, 1] [2, 3] [3, 8, 9, 10, 14, 15, 16, 20, 21] (L' := [(3, .int .u32 x3_l2), (8, .slice A0 l0.length c0), (9, .int .i64 (l0.length : Int)), (10, .int .i64 x10_l1), (14, .slice A4 v2.length c5), (15, .int .i64 (v2.length : Int)), (16, .int .i64 x16_l2), (20, .int .u32 x3_l2), (21, .int .u8 v8)]) (w' := w) (by kernel_rfl) ?_
      obtain ⟨r10, e11, H⟩ := bind_ex H
      refine WR.st (St.call (by kernel_rfl) (f := 15) (args := #[.int .u32 x3_l2, .int .u8 v8]) (by kernel_rfl) (crc_next.calls w x3_l2 v8 r10 e11) ?_)
      rintro _ w12 ⟨rfl, hS13⟩
      have hS : Sat w12 (rf w0) [] := hS.ext hS13
      refine WR.runk [3] [] [3, 8, 9, 10, 14, 15, 16] (L' := [(3, .int .u32 r10), (8, .slice A0 l0.length c0), (9, .int .i64 (l0.length : Int)), (10, .int .i64 x10_l1), (14, .slice A4 v2.length c5), (15, .int .i64 (v2.length : Int)), (16, .int .i64 x16_l2)]) (w' := w12) (by kernel_rfl) ?_
      refine WR.nil ?_
      refine At.blockNormal ?_
      refine At.go ?_
      refine WC.reg [0, 1] (by kernel_rfl) (by kernel_rfl) ?_
      refine WR.runk [0, 1] [] [3, 8, 9, 10, 14, 15, 16] (L' := [(3, .int .u32 r10), (8, .slice A0 l0.length c0), (9, .int .i64 (l0.length : Int)), (10, .int .i64 x10_l1), (14, .slice A4 v2.length c5), (15, .int .i64 (v2.length : Int)), (16, .int .i64 (wi (x16_l2 + 1)))]) (w' := w12) (by kernel_rfl) ?_
      refine WR.nil ?_
      have hS : Sat w12 (rf w0) [] := hS.sel [] (by kernel_rfl)
      refine At.again ?_
      refine WL.weaken [3, 8, 9, 10, 14, 15, 16] (L' := [(3, .int .u32 r10), (8, .slice A0 l0.length c0), (9, .int .i64 (l0.length : Int)), (10, .int .i64 x10_l1), (14, .slice A4 v2.length c5), (15, .int .i64 (v2.length : Int)), (16, .int .i64 (wi (x16_l2 + 1)))]) (by kernel_rfl) ?_
      exact ih r10 (wi (x16_l2 + 1)) _ hS H
    · replace H := ite_f H hb7
      refine WC.exit (by kernel_rfl) ?_
      refine At.thenExit ?_
      refine At.thenExit ?_
      obtain rfl := Option.some.inj H
      have hS : Sat w (rf w0) [] := hS.sel [] (by kernel_rfl)
      refine At.weaken [3, 8, 9, 10] (L' := [(3, .int .u32 x3_l2), (8, .slice A0 l0.length c0), (9, .int .i64 (l0.length : Int)), (10, .int .i64 x10_l1)]) (by kernel_rfl) ?_
      exact hn0 _ hS
theorem crc_Sum.l1_ok {Q} (w0 : World) (A0 : Option Addr) (c0 : Nat) (l0 : List (List Int)) (R0 : rdS (rd (hp w0) (.slice 5 (.int .u8))) 1 (hp w0) A0 c0 l0) (out : Int) (hn0 : ∀ (w : World), Sat w (rf w0) [] → At Q (.exit 0) 27 [(3, .int .u32 out)] w) :
    ∀ (k : Nat) (x3_l1 : Int) (x10_l1 : Int) (w : World), Sat w (rf w0) [] → crc_Sum.l1 l0 k x3_l1 x10_l1 = some out → WL Try.prog (cbody (cbody (cr (cl (cr (cr C10)))))) Q 27 [(3, .int .u32 x3_l1), (8, .slice A0 l0.length c0), (9, .int .i64 (l0.length : Int)), (10, .int .i64 x10_l1)] w := by
  intro k
  induction k with
  | zero => intro x3_l1 x10_l1 w hS H; exact absurd (show none = some out from H) (by simp)
  | succ k ih =>
    intro x3_l1 x10_l1 w hS H
    unfold crc_Sum.l1 at H
    refine WL.round ?_
    refine WC.seq (by kernel_rfl) ?_
    refine WC.reg [0] (by kernel_rfl) (by kernel_rfl) ?_
    refine WR.runk [0] [] [3, 8, 9, 10, 11] (L' := [(3, .int .u32 x3_l1), (8, .slice A0 l0.length c0), (9, .int .i64 (l0.length : Int)), (10, .int .i64 x10_l1), (11, .bool (decide (x10_l1 < (l0.length : Int))))]) (w' := w) (by kernel_rfl) ?_
    refine WR.nil ?_
    refine At.go ?_
    refine WC.seq (by kernel_rfl) ?_
    refine WC.cond (by kernel_rfl) (decide (x10_l1 < (l0.length : Int))) (by kernel_rfl) (by kernel_rfl) (fun hb1 => ?_) (fun hb1 => ?_)
    · replace H := ite_t H hb1
      refine WC.skip (by kernel_rfl) ?_
      refine At.go ?_
      refine WC.seq (by kernel_rfl) ?_
      refine WC.block (by kernel_rfl) ?_
      refine WC.seq (by kernel_rfl) ?_
      refine WC.reg [0, 1, 2] (by kernel_rfl) (by kernel_rfl) ?_
      refine WR.runk [] [0, 1, 2] [3, 8, 9, 10] (L' := [(3, .int .u32 x3_l1), (8, .slice A0 l0.length c0), (9, .int .i64 (l0.length : Int)), (10, .int .i64 x10_l1)]) (w' := w) (by kernel_rfl) ?_
      obtain ⟨v2, e3, H⟩ := bind_ex H
      refine WR.st (St.ofP (PSt.idx (k := .i64) (.tmp 8) (.tmp 10) (by kernel_rfl) (by kernel_rfl) E36 (by kernel_rfl) (by kernel_rfl) (rdS.up R0 hS.sub0) e3 ?_))
      refine WR.runk [] [1, 2] [3, 8, 9, 10, 12] (L' := [(3, .int .u32 x3_l1), (8, .slice A0 l0.length c0), (9, .int .i64 (l0.length : Int)), (10, .int .i64 x10_l1), (12, .pointer (some (adr A0 x10_l1.toNat 1)))]) (w' := w) (by kernel_rfl) ?_
      refine WR.st (St.ofR (RSt.loadSl (t := 22) (.tmp 12) (by kernel_rfl) (by kernel_rfl) (by kernel_rfl) (by kernel_rfl) R0 e3 hS.sub0 (fun A4 c5 R6 => ?_)))
      replace R6 : rdS (r0 (.int .u8)) 1 (hp w0) A4 c5 v2 := R6
      refine WR.runk [2] [] [3, 5, 8, 9, 10] (L' := [(3, .int .u32 x3_l1), (5, .slice A4 v2.length c5), (8, .slice A0 l0.length c0), (9, .int .i64 (l0.length : Int)), (10, .int .i64 x10_l1)]) (w' := w) (by kernel_rfl) ?_
      refine WR.nil ?_
      refine At.go ?_
      refine WC.seq (by kernel_rfl) ?_
      refine WC.reg [0, 1, 2] (by kernel_rfl) (by kernel_rfl) ?_
      refine WR.runk [0, 1, 2] [] [3, 8, 9, 10, 14, 15, 16] (L' := [(3, .int .u32 x3_l1), (8, .slice A0 l0.length c0), (9, .int .i64 (l0.length : Int)), (10, .int .i64 x10_l1), (14, .slice A4 v2.length c5), (15, .int .i64 (v2.length : Int)), (16, .int .i64 0)]) (w' := w) (by kernel_rfl) ?_
      refine WR.nil ?_
      refine At.go ?_
      refine WC.block (by kernel_rfl) ?_
      have hS : Sat w (rf w0) [] := hS.sel [] (by kernel_rfl)
      obtain ⟨o14, e15, H⟩ := bind_ex H
      refine WC.loop (by kernel_rfl) ?_
      refine WL.weaken [3, 8, 9, 10, 14, 15, 16] (L' := [(3, .int .u32 x3_l1), (8, .slice A0 l0.length c0), (9, .int .i64 (l0.length : Int)), (10, .int .i64 x10_l1), (14, .slice A4 v2.length c5), (15, .int .i64 (v2.length : Int)), (16, .int .i64 0)]) (by kernel_rfl) ?_
      refine crc_Sum.l2_ok w0 A0 c0 l0 x10_l1 v2 A4 c5 R6 o14 (fun w17 hS => ?_) FU x3_l1 0 _ hS e15
      refine At.hit ?_
      refine At.blockNormal ?_
      refine At.go ?_
      refine WC.reg [0, 1] (by kernel_rfl) (by kernel_rfl) ?_
      refine WR.runk [0, 1] [] [3, 8, 9, 10] (L' := [(3, .int .u32 o14), (8, .slice A0 l0.length c0), (9, .int .i64 (l0.length : Int)), (10, .int .i64 (wi (x10_l1 + 1)))]) (w' := w17) (by kernel_rfl) ?_
      refine WR.nil ?_
      have hS : Sat w17 (rf w0) [] := hS.sel [] (by kernel_rfl)
      refine At.again ?_
      refine WL.weaken [3, 8, 9, 10] (L' := [(3, .int .u32 o14), (8, .slice A0 l0.length c0), (9, .int .i64 (l0.length : Int)), (10, .int .i64 (wi (x10_l1 + 1)))]) (by kernel_rfl) ?_
      exact ih o14 (wi (x10_l1 + 1)) _ hS H
    · replace H := ite_f H hb1
      refine WC.exit (by kernel_rfl) ?_
      refine At.thenExit ?_
      refine At.thenExit ?_
      obtain rfl := Option.some.inj H
      have hS : Sat w (rf w0) [] := hS.sel [] (by kernel_rfl)
      refine At.weaken [3] (L' := [(3, .int .u32 x3_l1)]) (by kernel_rfl) ?_
      exact hn0 _ hS
theorem crc_Sum.calls (w0 : World) (A0 : Option Addr) (c0 : Nat) (l0 : List (List Int)) (R0 : rdS (rd (hp w0) (.slice 5 (.int .u8))) 1 (hp w0) A0 c0 l0) (r : Int) (H : crc_Sum.f l0 = some r) :
    Calls Try.prog 10 #[.slice A0 l0.length c0] w0 (fun e w' => ∃ v, e = .returned v ∧ crc_Sum.post w0 r v w') := by
  have hS : Sat w0 (rf w0) [] := Sat.start w0
  unfold crc_Sum.f at H
  refine calls_of_WC (vs := [.slice A0 l0.length c0]) Try.func10 (c := C10) (n := 27) (by kernel_rfl) (by kernel_rfl) (by kernel_rfl) ?_
  refine WC.seq (by kernel_rfl) ?_
  refine WC.reg [0] (by kernel_rfl) (by kernel_rfl) ?_
  refine WR.runk [0] [] [0] (L' := [(0, .slice A0 l0.length c0)]) (w' := w0) (by kernel_rfl) ?_
  refine WR.nil ?_
  refine At.go ?_
  refine WC.seq (by kernel_rfl) ?_
  refine WC.reg [0] (by kernel_rfl) (by kernel_rfl) ?_
  refine WR.runk [0] [] [0, 3] (L' := [(0, .slice A0 l0.length c0), (3, .int .u32 4294967295)]) (w' := w0) (by kernel_rfl) ?_
  refine WR.nil ?_
  refine At.go ?_
  refine WC.seq (by kernel_rfl) ?_
  refine WC.seq (by kernel_rfl) ?_
  refine WC.reg [0, 1, 2] (by kernel_rfl) (by kernel_rfl) ?_
  refine WR.runk [0, 1, 2] [] [3, 8, 9, 10] (L' := [(3, .int .u32 4294967295), (8, .slice A0 l0.length c0), (9, .int .i64 (l0.length : Int)), (10, .int .i64 0)]) (w' := w0) (by kernel_rfl) ?_
  refine WR.nil ?_
  refine At.go ?_
  refine WC.block (by kernel_rfl) ?_
  have hS : Sat w0 (rf w0) [] := hS.sel [] (by kernel_rfl)
  obtain ⟨o19, e20, H⟩ := bind_ex H
  refine WC.loop (by kernel_rfl) ?_
  refine WL.weaken [3, 8, 9, 10] (L' := [(3, .int .u32 4294967295), (8, .slice A0 l0.length c0), (9, .int .i64 (l0.length : Int)), (10, .int .i64 0)]) (by kernel_rfl) ?_
  refine crc_Sum.l1_ok w0 A0 c0 l0 R0 o19 (fun w22 hS => ?_) FU 4294967295 0 _ hS e20
  refine At.hit ?_
  refine At.go ?_
  refine WC.seq (by kernel_rfl) ?_
  refine WC.reg [0, 1, 2] (by kernel_rfl) (by kernel_rfl) ?_
  refine WR.runk [0, 1, 2] [] [2] (L' := [(2, .int .u32 (ixor .u32 4294967295 o19))]) (w' := w22) (by kernel_rfl) ?_
  refine WR.nil ?_
  refine At.go ?_
  refine WC.ret (by kernel_rfl) ?_
  obtain rfl := Option.some.inj H
  have hS : Sat w22 (rf w0) [] := hS.sel [] (by kernel_rfl)
  exact At.body [.int .u32 (ixor .u32 4294967295 o19)] (by kernel_rfl) ⟨_, rfl, rfl, hS⟩
/-! ### 12 colophon/colophonref04.Put -/
noncomputable abbrev C12 : Code := Try.f12.body.getD .skip
def colophonref04_Put.l1 : Nat → (List Int) → Int → Int → Option (List Int)
  | 0, _, _, _ => none
  | k + 1, x3_l1, x4_l1, x5_l1 => (if decide (x5_l1 < 4) then ((app? 140737488355328 x3_l1 ([IntKind.wrap .u8 (Int.tmod x4_l1 256)] : List Int)).bind fun y16 => colophonref04_Put.l1 k y16 (IntKind.wrap .u32 (Int.tdiv x4_l1 256)) (wi (x5_l1 + 1))) else some x3_l1)
def colophonref04_Put.f (l0 : List Int) : Option (List Int) := ((app? 140737488355328 (([] : List Int) : List Int) l0).bind fun y4 => ((colophonref04_Sum.f l0).bind fun r8 => ((colophonref04_Put.l1 FU y4 r8 0).bind fun o20 => some o20)))
def colophonref04_Put.post (w : World) (r : (List Int)) (v : Value) (w' : World) : Prop := ∃ (A0 : Option Addr) (c0 : Nat), v = .slice A0 r.length c0 ∧ Sat w' (rf w) [osl 5 (r0 (.int .u8)) 1 A0 c0 r]
theorem colophonref04_Put.l1_ok {Q} (w0 : World) (out : (List Int)) (hn0 : ∀ (A3_q : Option Addr) (c3_q : Nat) (w : World), Sat w (rf w0) [osl 5 (r0 (.int .u8)) 1 A3_q c3_q out] → At Q (.exit 0) 24 [(3, .slice A3_q out.length c3_q)] w) :
    ∀ (k : Nat) (x3_l1 : List Int) (x4_l1 : Int) (x5_l1 : Int) (A3_l1 : Option Addr) (c3_l1 : Nat) (w : World), Sat w (rf w0) [osl 5 (r0 (.int .u8)) 1 A3_l1 c3_l1 x3_l1] → colophonref04_Put.l1 k x3_l1 x4_l1 x5_l1 = some out → WL Try.prog (cbody (cbody (cr (cl (cr (cr (cr C12))))))) Q 24 [(3, .slice A3_l1 x3_l1.length c3_l1), (4, .int .u32 x4_l1), (5, .int .i64 x5_l1)] w := by
  intro k
  induction k with
  | zero => intro x3_l1 x4_l1 x5_l1 A3_l1 c3_l1 w hS H; exact absurd (show none = some out from H) (by simp)
  | succ k ih =>
    intro x3_l1 x4_l1 x5_l1 A3_l1 c3_l1 w hS H
    unfold colophonref04_Put.l1 at H
    refine WL.round ?_
    refine WC.seq (by kernel_rfl) ?_
    refine WC.seq (by kernel_rfl) ?_
    refine WC.reg [0, 1] (by kernel_rfl) (by kernel_rfl) ?_
    refine WR.runk [0, 1] [] [3, 4, 5, 12] (L' := [(3, .slice A3_l1 x3_l1.length c3_l1), (4, .int .u32 x4_l1), (5, .int .i64 x5_l1), (12, .bool (decide (x5_l1 < 4)))]) (w' := w) (by kernel_rfl) ?_
    refine WR.nil ?_
    refine At.go ?_
    refine WC.cond (by kernel_rfl) (decide (x5_l1 < 4)) (by kernel_rfl) (by kernel_rfl) (fun hb12 => ?_) (fun hb12 => ?_)
    · replace H := ite_t H hb12
      refine WC.skip (by kernel_rfl) ?_
      refine At.go ?_
      refine WC.seq (by kernel_rfl) ?_
      refine WC.block (by kernel_rfl) ?_
      refine WC.seq (by kernel_rfl) ?_
      refine WC.reg [0, 1, 2, 3, 4, 5, 6] (by kernel_rfl) (by kernel_rfl) ?_
      refine WR.runk [0, 1, 2, 3] [4, 5, 6] [3, 4, 5, 15, 18] (L' := [(3, .slice A3_l1 x3_l1.length c3_l1), (4, .int .u32 x4_l1), (5, .int .i64 x5_l1), (15, .slice A3_l1 x3_l1.length c3_l1), (18, .int .u8 (IntKind.wrap .u8 (Int.tmod x4_l1 256)))]) (w' := w) (by kernel_rfl) ?_
      refine WR.st (St.box hS (by kernel_rfl) (.cells #[.int .u8 (IntKind.wrap .u8 (Int.tmod x4_l1 256))] 5) (fun b13 => .slice (some ⟨b13, 0, none⟩) 1 1) (fun _ => by kernel_rfl) (fun b13 w14 hS => ?_))
      refine WR.runk [] [5, 6] [3, 4, 5, 15, 19] (L' := [(3, .slice A3_l1 x3_l1.length c3_l1), (4, .int .u32 x4_l1), (5, .int .i64 x5_l1), (15, .slice A3_l1 x3_l1.length c3_l1), (19, .slice (some ⟨b13, 0, none⟩) 1 1)]) (w' := w14) (by kernel_rfl) ?_
      have hS : Sat w14 (rf w0) [osl 5 (r0 (.int .u8)) 1 A3_l1 c3_l1 x3_l1, pts b13 (.cells #[.int .u8 (IntKind.wrap .u8 (Int.tmod x4_l1 256))] 5 (0, 0))] := hS.sel [1, 0] (by kernel_rfl)
      obtain ⟨y16, e15, H⟩ := bind_ex H
      refine WR.st (St.append' (.tmp 15) (.tmp 19) (by kernel_rfl) (by kernel_rfl) E22 (r0_one _) hS (by kernel_rfl) (by kernel_rfl) (Sat.ptsAt 1 (r0 (.int .u8)) 1 ([IntKind.wrap .u8 (Int.tmod x4_l1 256)] : List Int) hS rfl rfl (rdL.cons1 rfl (rdL.nil _ _))) 140737488355328 (by kernel_rfl) (by kernel_rfl) e15 (fun A17 c18 w19 hS => ?_))
      refine WR.runk [6] [] [3, 4, 5] (L' := [(3, .slice A17 y16.length c18), (4, .int .u32 x4_l1), (5, .int .i64 x5_l1)]) (w' := w19) (by kernel_rfl) ?_
      refine WR.nil ?_
      refine At.go ?_
      refine WC.reg [0, 1, 2] (by kernel_rfl) (by kernel_rfl) ?_
      refine WR.runk [0, 1, 2] [] [3, 4, 5] (L' := [(3, .slice A17 y16.length c18), (4, .int .u32 (IntKind.wrap .u32 (Int.tdiv x4_l1 256))), (5, .int .i64 x5_l1)]) (w' := w19) (by kernel_rfl) ?_
      refine WR.nil ?_
      refine At.blockNormal ?_
      refine At.go ?_
      refine WC.reg [0, 1, 2] (by kernel_rfl) (by kernel_rfl) ?_
      refine WR.runk [0, 1, 2] [] [3, 4, 5] (L' := [(3, .slice A17 y16.length c18), (4, .int .u32 (IntKind.wrap .u32 (Int.tdiv x4_l1 256))), (5, .int .i64 (wi (x5_l1 + 1)))]) (w' := w19) (by kernel_rfl) ?_
      refine WR.nil ?_
      have hS : Sat w19 (rf w0) [osl 5 (r0 (.int .u8)) 1 A17 c18 y16] := hS.sel [0] (by kernel_rfl)
      refine At.again ?_
      refine WL.weaken [3, 4, 5] (L' := [(3, .slice A17 y16.length c18), (4, .int .u32 (IntKind.wrap .u32 (Int.tdiv x4_l1 256))), (5, .int .i64 (wi (x5_l1 + 1)))]) (by kernel_rfl) ?_
      exact ih y16 (IntKind.wrap .u32 (Int.tdiv x4_l1 256)) (wi (x5_l1 + 1)) A17 c18 _ hS H
    · replace H := ite_f H hb12
      refine WC.exit (by kernel_rfl) ?_
      refine At.thenExit ?_
      refine At.thenExit ?_
      obtain rfl := Option.some.inj H
      have hS : Sat w (rf w0) [osl 5 (r0 (.int .u8)) 1 A3_l1 c3_l1 x3_l1] := hS.sel [0] (by kernel_rfl)
      refine At.weaken [3] (L' := [(3, .slice A3_l1 x3_l1.length c3_l1)]) (by kernel_rfl) ?_
      exact hn0 A3_l1 c3_l1 _ hS
theorem colophonref04_Put.calls (w0 : World) (A0 : Option Addr) (c0 : Nat) (l0 : List Int) (R0 : rdS (r0 (.int .u8)) 1 (hp w0) A0 c0 l0) (r : (List Int)) (H : colophonref04_Put.f l0 = some r) :
    Calls Try.prog 12 #[.slice A0 l0.length c0] w0 (fun e w' => ∃ v, e = .returned v ∧ colophonref04_Put.post w0 r v w') := by
  have hS : Sat w0 (rf w0) [] := Sat.start w0
  unfold colophonref04_Put.f at H
  refine calls_of_WC (vs := [.slice A0 l0.length c0]) Try.func12 (c := C12) (n := 24) (by kernel_rfl) (by kernel_rfl) (by kernel_rfl) ?_
  refine WC.seq (by kernel_rfl) ?_
  refine WC.reg [0] (by kernel_rfl) (by kernel_rfl) ?_
  refine WR.runk [0] [] [0] (L' := [(0, .slice A0 l0.length c0)]) (w' := w0) (by kernel_rfl) ?_
  refine WR.nil ?_
  refine At.go ?_
  refine WC.seq (by kernel_rfl) ?_
  refine WC.reg [0, 1, 2, 3] (by kernel_rfl) (by kernel_rfl) ?_
  refine WR.st (St.box hS (by kernel_rfl) (.cells #[] 5) (fun b1 => .slice (some ⟨b1, 0, none⟩) 0 0) (fun _ => by kernel_rfl) (fun b1 w2 hS => ?_))
  refine WR.runk [1] [2, 3] [0, 6, 7] (L' := [(0, .slice A0 l0.length c0), (6, .slice (some ⟨b1, 0, none⟩) 0 0), (7, .slice A0 l0.length c0)]) (w' := w2) (by kernel_rfl) ?_
  have hS : Sat w2 (rf w0) [osl 5 (r0 (.int .u8)) 1 (some ⟨b1, 0, none⟩) (([] : List Int) : List Int).length (([] : List Int) : List Int)] := Sat.toOsl' (r0 (.int .u8)) 1 (([] : List Int) : List Int) hS rfl (rdL.nil _ _)
  obtain ⟨y4, e3, H⟩ := bind_ex H
  refine WR.st (St.append' (.tmp 6) (.tmp 7) (by kernel_rfl) (by kernel_rfl) E22 (r0_one _) hS (by kernel_rfl) (by kernel_rfl) (rdS.up R0 hS.sub0) 140737488355328 (by kernel_rfl) (by kernel_rfl) e3 (fun A5 c6 w7 hS => ?_))
  refine WR.runk [3] [] [0, 3] (L' := [(0, .slice A0 l0.length c0), (3, .slice A5 y4.length c6)]) (w' := w7) (by kernel_rfl) ?_
  refine WR.nil ?_
  refine At.go ?_
  refine WC.seq (by kernel_rfl) ?_
  refine WC.reg [0, 1, 2] (by kernel_rfl) (by kernel_rfl) ?_
  refine WR.runk [0] [1, 2] [3, 9] (L' := [(3, .slice A5 y4.length c6), (9, .slice A0 l0.length c0)]) (w' := w7) (by kernel_rfl) ?_
  obtain ⟨r8, e9, H⟩ := bind_ex H
  refine WR.st (St.call (by kernel_rfl) (f := 11) (args := #[.slice A0 l0.length c0]) (by kernel_rfl) (colophonref04_Sum.calls w7 A0 c0 l0 (rdS.up R0 hS.sub0) r8 e9) ?_)
  rintro _ w10 ⟨rfl, hS11⟩
  have hS : Sat w10 (rf w0) [osl 5 (r0 (.int .u8)) 1 A5 c6 y4] := hS.ext hS11
  refine WR.runk [2] [] [3, 4] (L' := [(3, .slice A5 y4.length c6), (4, .int .u32 r8)]) (w' := w10) (by kernel_rfl) ?_
  refine WR.nil ?_
  refine At.go ?_
  refine WC.seq (by kernel_rfl) ?_
  refine WC.seq (by kernel_rfl) ?_
  refine WC.reg [0] (by kernel_rfl) (by kernel_rfl) ?_
  refine WR.runk [0] [] [3, 4, 5] (L' := [(3, .slice A5 y4.length c6), (4, .int .u32 r8), (5, .int .i64 0)]) (w' := w10) (by kernel_rfl) ?_
  refine WR.nil ?_
  refine At.go ?_
  refine WC.block (by kernel_rfl) ?_
  have hS : Sat w10 (rf w0) [osl 5 (r0 (.int .u8)) 1 A5 c6 y4] := hS.sel [0] (by kernel_rfl)
  obtain ⟨o20, e21, H⟩ := bind_ex H
  refine WC.loop (by kernel_rfl) ?_
  refine WL.weaken [3, 4, 5] (L' := [(3, .slice A5 y4.length c6), (4, .int .u32 r8), (5, .int .i64 0)]) (by kernel_rfl) ?_
  refine colophonref04_Put.l1_ok w0 o20 (fun A3_q22 c3_q22 w23 hS => ?_) FU y4 r8 0 A5 c6 _ hS e21
  refine At.hit ?_
  refine At.go ?_
  refine WC.seq (by kernel_rfl) ?_
  refine WC.reg [0, 1] (by kernel_rfl) (by kernel_rfl) ?_
  refine WR.runk [0, 1] [] [2] (L' := [(2, .slice A3_q22 o20.length c3_q22)]) (w' := w23) (by kernel_rfl) ?_
  refine WR.nil ?_
  refine At.go ?_
  refine WC.ret (by kernel_rfl) ?_
  obtain rfl := Option.some.inj H
  have hS : Sat w23 (rf w0) [osl 5 (r0 (.int .u8)) 1 A3_q22 c3_q22 o20] := hS.sel [0] (by kernel_rfl)
  exact At.body [.slice A3_q22 o20.length c3_q22] (by kernel_rfl) ⟨_, rfl, _, _, rfl, hS⟩
/-! ### 14 slices.Clone[[]byte,byte] -/
noncomputable abbrev C14 : Code := Try.f14.body.getD .skip
def slices_Clone.f (l0 : List Int) : Option (List Int) := ((app? 140737488355328 (([] : List Int) : List Int) l0).bind fun y5 => some y5)
def slices_Clone.post (w : World) (r : (List Int)) (v : Value) (w' : World) : Prop := ∃ (A0 : Option Addr) (c0 : Nat), v = .slice A0 r.length c0 ∧ Sat w' (rf w) [osl 5 (r0 (.int .u8)) 1 A0 c0 r]
theorem slices_Clone.calls (w0 : World) (A0 : Option Addr) (c0 : Nat) (l0 : List Int) (R0 : rdS (r0 (.int .u8)) 1 (hp w0) A0 c0 l0) (r : (List Int)) (H : slices_Clone.f l0 = some r) :
    Calls Try.prog 14 #[.slice A0 l0.length c0] w0 (fun e w' => ∃ v, e = .returned v ∧ slices_Clone.post w0 r v w') := by
  have hS : Sat w0 (rf w0) [] := Sat.start w0
  unfold slices_Clone.f at H
  refine calls_of_WC (vs := [.slice A0 l0.length c0]) Try.func14 (c := C14) (n := 8) (by kernel_rfl) (by kernel_rfl) (by kernel_rfl) ?_
  refine WC.seq (by kernel_rfl) ?_
  refine WC.reg [0] (by kernel_rfl) (by kernel_rfl) ?_
  refine WR.runk [0] [] [0] (L' := [(0, .slice A0 l0.length c0)]) (w' := w0) (by kernel_rfl) ?_
  refine WR.nil ?_
  refine At.go ?_
  refine WC.seq (by kernel_rfl) ?_
  refine WC.seq (by kernel_rfl) ?_
  refine WC.reg [0, 1] (by kernel_rfl) (by kernel_rfl) ?_
  refine WR.runk [0] [1] [0, 3] (L' := [(0, .slice A0 l0.length c0), (3, .slice A0 l0.length c0)]) (w' := w0) (by kernel_rfl) ?_
  refine WR.st (St.ofP (PSt.eqNil (t := 22) (t2 := 22) (e := 5) (A := A0) (m := l0.length) (c := c0) .eql (by decide) (.tmp 3) (by kernel_rfl) (by kernel_rfl) (by kernel_rfl) (by kernel_rfl) ?_))
  refine WR.runk [] [] [0, 4] (L' := [(0, .slice A0 l0.length c0), (4, .bool A0.isNone)]) (w' := w0) (by kernel_rfl) ?_
  refine WR.nil ?_
  refine At.go ?_
  refine WC.cond (by kernel_rfl) A0.isNone (by kernel_rfl) (by kernel_rfl) (fun hb1 => ?_) (fun hb1 => ?_)
  · have hnl := rdS.isNone (rdS.up R0 hS.sub0) (by simpa using hb1)
    rw [hnl] at H
    refine WC.seq (by kernel_rfl) ?_
    refine WC.reg [0] (by kernel_rfl) (by kernel_rfl) ?_
    refine WR.runk [0] [] [2] (L' := [(2, .slice none 0 0)]) (w' := w0) (by kernel_rfl) ?_
    refine WR.nil ?_
    refine At.go ?_
    refine WC.ret (by kernel_rfl) ?_
    refine At.thenRet ?_
    obtain rfl := Option.some.inj (show some ([] : List Int) = some r from H)
    have hS := hS.addNil 5 (r0 (.int .u8)) 1
    have hS : Sat w0 (rf w0) [osl 5 (r0 (.int .u8)) 1 none 0 []] := hS.sel [0] (by kernel_rfl)
    exact At.body [.slice none 0 0] (by kernel_rfl) ⟨_, rfl, _, _, rfl, hS⟩
  · refine WC.skip (by kernel_rfl) ?_
    refine At.go ?_
    refine WC.seq (by kernel_rfl) ?_
    refine WC.reg [0, 1, 2, 3] (by kernel_rfl) (by kernel_rfl) ?_
    refine WR.runk [] [0, 1, 2, 3] [0] (L' := [(0, .slice A0 l0.length c0)]) (w' := w0) (by kernel_rfl) ?_
    refine WR.st (St.box hS (by kernel_rfl) (.cells #[] 5) (fun b2 => .slice (some ⟨b2, 0, none⟩) 0 0) (fun _ => by kernel_rfl) (fun b2 w3 hS => ?_))
    refine WR.runk [1] [2, 3] [5, 6] (L' := [(5, .slice (some ⟨b2, 0, none⟩) 0 0), (6, .slice A0 l0.length c0)]) (w' := w3) (by kernel_rfl) ?_
    have hS : Sat w3 (rf w0) [osl 5 (r0 (.int .u8)) 1 (some ⟨b2, 0, none⟩) (([] : List Int) : List Int).length (([] : List Int) : List Int)] := Sat.toOsl' (r0 (.int .u8)) 1 (([] : List Int) : List Int) hS rfl (rdL.nil _ _)
    obtain ⟨y5, e4, H⟩ := bind_ex H
    refine WR.st (St.append' (.tmp 5) (.tmp 6) (by kernel_rfl) (by kernel_rfl) E22 (r0_one _) hS (by kernel_rfl) (by kernel_rfl) (rdS.up R0 hS.sub0) 140737488355328 (by kernel_rfl) (by kernel_rfl) e4 (fun A6 c7 w8 hS => ?_))
    refine WR.runk [3] [] [2] (L' := [(2, .slice A6 y5.length c7)]) (w' := w8) (by kernel_rfl) ?_
    refine WR.nil ?_
    refine At.go ?_
    refine WC.ret (by kernel_rfl) ?_
    obtain rfl := Option.some.inj H
    have hS : Sat w8 (rf w0) [osl 5 (r0 (.int .u8)) 1 A6 c7 y5] := hS.sel [0] (by kernel_rfl)
    exact At.body [.slice A6 y5.length c7] (by kernel_rfl) ⟨_, rfl, _, _, rfl, hS⟩
/-! ### 9 colophon/crc.Put -/
noncomputable abbrev C9 : Code := Try.f9.body.getD .skip
def crc_Put.f (l0 : List Int) : Option (List Int) := ((crc_Sum.f ([l0] : List (List Int))).bind fun r3 => ((slices_Clone.f l0).bind fun r7 => ((app? 140737488355328 r7 ([IntKind.wrap .u8 r3, IntKind.wrap .u8 (ishr .u32 r3 8), IntKind.wrap .u8 (ishr .u32 r3 16), IntKind.wrap .u8 (ishr .u32 r3 24)] : List Int)).bind fun y16 => some y16)))
def crc_Put.post (w : World) (r : (List Int)) (v : Value) (w' : World) : Prop := ∃ (A0 : Option Addr) (c0 : Nat), v = .slice A0 r.length c0 ∧ Sat w' (rf w) [osl 5 (r0 (.int .u8)) 1 A0 c0 r]
theorem crc_Put.calls (w0 : World) (A0 : Option Addr) (c0 : Nat) (l0 : List Int) (R0 : rdS (r0 (.int .u8)) 1 (hp w0) A0 c0 l0) (r : (List Int)) (H : crc_Put.f l0 = some r) :
    Calls Try.prog 9 #[.slice A0 l0.length c0] w0 (fun e w' => ∃ v, e = .returned v ∧ crc_Put.post w0 r v w') := by
  have hS : Sat w0 (rf w0) [] := Sat.start w0
  unfold crc_Put.f at H
  refine calls_of_WC (vs := [.slice A0 l0.length c0]) Try.func9 (c := C9) (n := 22) (by kernel_rfl) (by kernel_rfl) (by kernel_rfl) ?_
  refine WC.seq (by kernel_rfl) ?_
  refine WC.reg [0] (by kernel_rfl) (by kernel_rfl) ?_
  refine WR.runk [0] [] [0] (L' := [(0, .slice A0 l0.length c0)]) (w' := w0) (by kernel_rfl) ?_
  refine WR.nil ?_
  refine At.go ?_
  refine WC.seq (by kernel_rfl) ?_
  refine WC.reg [0, 1, 2, 3] (by kernel_rfl) (by kernel_rfl) ?_
  refine WR.runk [0] [1, 2, 3] [0, 4] (L' := [(0, .slice A0 l0.length c0), (4, .slice A0 l0.length c0)]) (w' := w0) (by kernel_rfl) ?_
  refine WR.st (St.box hS (by kernel_rfl) (.cells #[.slice A0 l0.length c0] 22) (fun b1 => .slice (some ⟨b1, 0, none⟩) 1 1) (fun _ => by kernel_rfl) (fun b1 w2 hS => ?_))
  refine WR.runk [] [2, 3] [0, 5] (L' := [(0, .slice A0 l0.length c0), (5, .slice (some ⟨b1, 0, none⟩) 1 1)]) (w' := w2) (by kernel_rfl) ?_
  obtain ⟨r3, e4, H⟩ := bind_ex H
  refine WR.st (St.call (by kernel_rfl) (f := 10) (args := #[.slice (some ⟨b1, 0, none⟩) 1 1]) (by kernel_rfl) (crc_Sum.calls w2 (some ⟨b1, 0, none⟩) 1 ([l0] : List (List Int)) (Sat.ptsAt 0 (rd (hp w2) (.slice 5 (.int .u8))) 1 ([l0] : List (List Int)) hS rfl rfl (rdL.cons1 ⟨_, _, rfl, (rdS.r0up (rdS.up R0 hS.sub0))⟩ (rdL.nil _ _))) r3 e4) ?_)
  rintro _ w5 ⟨rfl, hS6⟩
  have hS : Sat w5 (rf w0) [pts b1 (.cells #[.slice A0 l0.length c0] 22 (0, 0))] := hS.ext hS6
  refine WR.runk [3] [] [0, 3] (L' := [(0, .slice A0 l0.length c0), (3, .int .u32 r3)]) (w' := w5) (by kernel_rfl) ?_
  refine WR.nil ?_
  refine At.go ?_
  refine WC.seq (by kernel_rfl) ?_
  refine WC.reg [0, 1, 2, 3, 4, 5, 6, 7, 8, 9, 10, 11, 12, 13, 14, 15] (by kernel_rfl) (by kernel_rfl) ?_
  refine WR.runk [0] [1, 2, 3, 4, 5, 6, 7, 8, 9, 10, 11, 12, 13, 14, 15] [3, 7] (L' := [(3, .int .u32 r3), (7, .slice A0 l0.length c0)]) (w' := w5) (by kernel_rfl) ?_
  obtain ⟨r7, e8, H⟩ := bind_ex H
  refine WR.st (St.call (by kernel_rfl) (f := 14) (args := #[.slice A0 l0.length c0]) (by kernel_rfl) (slices_Clone.calls w5 A0 c0 l0 (rdS.up R0 hS.sub0) r7 e8) ?_)
  rintro _ w9 ⟨A11, c12, rfl, hS10⟩
  have hS : Sat w9 (rf w0) [osl 5 (r0 (.int .u8)) 1 A11 c12 r7, pts b1 (.cells #[.slice A0 l0.length c0] 22 (0, 0))] := hS.ext hS10
  refine WR.runk [2, 3, 4, 5, 6, 7, 8, 9, 10, 11, 12] [13, 14, 15] [8, 10, 13, 16, 19] (L' := [(8, .slice A11 r7.length c12), (10, .int .u8 (IntKind.wrap .u8 r3)), (13, .int .u8 (IntKind.wrap .u8 (ishr .u32 r3 8))), (16, .int .u8 (IntKind.wrap .u8 (ishr .u32 r3 16))), (19, .int .u8 (IntKind.wrap .u8 (ishr .u32 r3 24)))]) (w' := w9) (by kernel_rfl) ?_
  refine WR.st (St.box hS (by kernel_rfl) (.cells #[.int .u8 (IntKind.wrap .u8 r3), .int .u8 (IntKind.wrap .u8 (ishr .u32 r3 8)), .int .u8 (IntKind.wrap .u8 (ishr .u32 r3 16)), .int .u8 (IntKind.wrap .u8 (ishr .u32 r3 24))] 5) (fun b13 => .slice (some ⟨b13, 0, none⟩) 4 4) (fun _ => by kernel_rfl) (fun b13 w14 hS => ?_))
  refine WR.runk [] [14, 15] [8, 20] (L' := [(8, .slice A11 r7.length c12), (20, .slice (some ⟨b13, 0, none⟩) 4 4)]) (w' := w14) (by kernel_rfl) ?_
  have hS : Sat w14 (rf w0) [osl 5 (r0 (.int .u8)) 1 A11 c12 r7, pts b13 (.cells #[.int .u8 (IntKind.wrap .u8 r3), .int .u8 (IntKind.wrap .u8 (ishr .u32 r3 8)), .int .u8 (IntKind.wrap .u8 (ishr .u32 r3 16)), .int .u8 (IntKind.wrap .u8 (ishr .u32 r3 24))] 5 (0, 0)), pts b1 (.cells #[.slice A0 l0.length c0] 22 (0, 0))] := hS.sel [1, 0, 2] (by kernel_rfl)
  obtain ⟨y16, e15, H⟩ := bind_ex H
  refine WR.st (St.append' (.tmp 8) (.tmp 20) (by kernel_rfl) (by kernel_rfl) E22 (r0_one _) hS (by kernel_rfl) (by kernel_rfl) (Sat.ptsAt 1 (r0 (.int .u8)) 1 ([IntKind.wrap .u8 r3, IntKind.wrap .u8 (ishr .u32 r3 8), IntKind.wrap .u8 (ishr .u32 r3 16), IntKind.wrap .u8 (ishr .u32 r3 24)] : List Int) hS rfl rfl (rdL.cons1 rfl (rdL.cons1 rfl (rdL.cons1 rfl (rdL.cons1 rfl (rdL.nil _ _)))))) 140737488355328 (by kernel_rfl) (by kernel_rfl) e15 (fun A17 c18 w19 hS => ?_))
  refine WR.runk [15] [] [2] (L' := [(2, .slice A17 y16.length c18)]) (w' := w19) (by kernel_rfl) ?_
  refine WR.nil ?_
  refine At.go ?_
  refine WC.ret (by kernel_rfl) ?_
  obtain rfl := Option.some.inj H
  have hS : Sat w19 (rf w0) [osl 5 (r0 (.int .u8)) 1 A17 c18 y16] := hS.sel [0] (by kernel_rfl)
  exact At.body [.slice A17 y16.length c18] (by kernel_rfl) ⟨_, rfl, _, _, rfl, hS⟩
/-! ### 13 colophon/crc.Cut -/
noncomputable abbrev C13 : Code := Try.f13.body.getD .skip
def crc_Cut.f (l0 : List Int) : Option ((List Int) × Int) := (if decide ((l0.length : Int) < 4) then some (([] : List Int), 50) else ((sub? l0 0 (wi ((l0.length : Int) - 4))).bind fun y2 => ((slices_Clone.f y2).bind fun r7 => ((crc_Put.f r7).bind fun r13 => ((slices_Equal.f r13 l0).bind fun r19 => (if (!r19) then some (([] : List Int), 40) else some (r7, 0)))))))
def crc_Cut.post (w : World) (r : (List Int) × Int) (v : Value) (w' : World) : Prop := ∃ (A0 : Option Addr) (c0 : Nat), v = .tuple #[.slice A0 r.1.length c0, .int .i64 r.2] ∧ Sat w' (rf w) [osl 5 (r0 (.int .u8)) 1 A0 c0 r.1]
theorem crc_Cut.calls (w0 : World) (A0 : Option Addr) (c0 : Nat) (l0 : List Int) (R0 : rdS (r0 (.int .u8)) 1 (hp w0) A0 c0 l0) (r : (List Int) × Int) (H : crc_Cut.f l0 = some r) :
    Calls Try.prog 13 #[.slice A0 l0.length c0] w0 (fun e w' => ∃ v, e = .returned v ∧ crc_Cut.post w0 r v w') := by
  have hS : Sat w0 (rf w0) [] := Sat.start w0
  unfold crc_Cut.f at H
  refine calls_of_WC (vs := [.slice A0 l0.length c0]) Try.func13 (c := C13) (n := 20) (by kernel_rfl) (by kernel_rfl) (by kernel_rfl) ?_
  refine WC.seq (by kernel_rfl) ?_
  refine WC.reg [0, 1] (by kernel_rfl) (by kernel_rfl) ?_
  refine WR.runk [0, 1] [] [0] (L' := [(0, .slice A0 l0.length c0)]) (w' := w0) (by kernel_rfl) ?_
  refine WR.nil ?_
  refine At.go ?_
  refine WC.seq (by kernel_rfl) ?_
  refine WC.seq (by kernel_rfl) ?_
  refine WC.reg [0, 1, 2] (by kernel_rfl) (by kernel_rfl) ?_
  refine WR.runk [0, 1, 2] [] [0, 7] (L' := [(0, .slice A0 l0.length c0), (7, .bool (decide ((l0.length : Int) < 4)))]) (w' := w0) (by kernel_rfl) ?_
  refine WR.nil ?_
  refine At.go ?_
  refine WC.cond (by kernel_rfl) (decide ((l0.length : Int) < 4)) (by kernel_rfl) (by kernel_rfl) (fun hb1 => ?_) (fun hb1 => ?_)
  · replace H := ite_t H hb1
    refine WC.seq (by kernel_rfl) ?_
    refine WC.reg [0, 1] (by kernel_rfl) (by kernel_rfl) ?_
    refine WR.runk [0, 1] [] [2, 3] (L' := [(2, .slice none 0 0), (3, .int .i64 50)]) (w' := w0) (by kernel_rfl) ?_
    refine WR.nil ?_
    refine At.go ?_
    refine WC.ret (by kernel_rfl) ?_
    refine At.thenRet ?_
    obtain rfl := Option.some.inj H
    have hS := hS.addNil 5 (r0 (.int .u8)) 1
    have hS : Sat w0 (rf w0) [osl 5 (r0 (.int .u8)) 1 none 0 []] := hS.sel [0] (by kernel_rfl)
    exact At.body [.slice none 0 0, .int .i64 50] (by kernel_rfl) ⟨_, rfl, _, _, rfl, hS⟩
  · replace H := ite_f H hb1
    refine WC.skip (by kernel_rfl) ?_
    refine At.go ?_
    refine WC.seq (by kernel_rfl) ?_
    refine WC.reg [0, 1, 2, 3, 4, 5, 6] (by kernel_rfl) (by kernel_rfl) ?_
    refine WR.runk [0, 1, 2, 3] [4, 5, 6] [0, 8, 11] (L' := [(0, .slice A0 l0.length c0), (8, .slice A0 l0.length c0), (11, .int .i64 (wi ((l0.length : Int) - 4)))]) (w' := w0) (by kernel_rfl) ?_
    obtain ⟨y2, e3, H⟩ := bind_ex H
    refine WR.st (St.ofP (PSt.sub (A := A0) (c := c0) (.tmp 8) none (some (.tmp 11)) none (by kernel_rfl) (by kernel_rfl) E22 (by kernel_rfl) (rdS.up R0 hS.sub0).1 e3 rfl (Exists.intro IntKind.i64 (by kernel_rfl)) trivial (fun A4 c5 T6 => ?_)))
    refine WR.runk [] [5, 6] [0, 12] (L' := [(0, .slice A0 l0.length c0), (12, .slice A4 y2.length c5)]) (w' := w0) (by kernel_rfl) ?_
    obtain ⟨r7, e8, H⟩ := bind_ex H
    refine WR.st (St.call (by kernel_rfl) (f := 14) (args := #[.slice A4 y2.length c5]) (by kernel_rfl) (slices_Clone.calls w0 A4 c5 y2 (T6.rd _ _ (rdS.up R0 hS.sub0)) r7 e8) ?_)
    rintro _ w9 ⟨A11, c12, rfl, hS10⟩
    have hS : Sat w9 (rf w0) [osl 5 (r0 (.int .u8)) 1 A11 c12 r7] := hS.ext hS10
    refine WR.runk [6] [] [0, 4] (L' := [(0, .slice A0 l0.length c0), (4, .slice A11 r7.length c12)]) (w' := w9) (by kernel_rfl) ?_
    refine WR.nil ?_
    refine At.go ?_
    refine WC.seq (by kernel_rfl) ?_
    refine WC.seq (by kernel_rfl) ?_
    refine WC.reg [0, 1, 2, 3, 4] (by kernel_rfl) (by kernel_rfl) ?_
    refine WR.runk [0] [1, 2, 3, 4] [0, 4, 14] (L' := [(0, .slice A0 l0.length c0), (4, .slice A11 r7.length c12), (14, .slice A11 r7.length c12)]) (w' := w9) (by kernel_rfl) ?_
    obtain ⟨r13, e14, H⟩ := bind_ex H
    refine WR.st (St.call (by kernel_rfl) (f := 9) (args := #[.slice A11 r7.length c12]) (by kernel_rfl) (crc_Put.calls w9 A11 c12 r7 (Sat.rdAt 0 hS rfl) r13 e14) ?_)
    rintro _ w15 ⟨A17, c18, rfl, hS16⟩
    have hS : Sat w15 (rf w0) [osl 5 (r0 (.int .u8)) 1 A17 c18 r13, osl 5 (r0 (.int .u8)) 1 A11 c12 r7] := hS.ext hS16
    refine WR.runk [2] [3, 4] [4, 15, 16] (L' := [(4, .slice A11 r7.length c12), (15, .slice A17 r13.length c18), (16, .slice A0 l0.length c0)]) (w' := w15) (by kernel_rfl) ?_
    obtain ⟨r19, e20, H⟩ := bind_ex H
    refine WR.st (St.call (by kernel_rfl) (f := 16) (args := #[.slice A17 r13.length c18, .slice A0 l0.length c0]) (by kernel_rfl) (slices_Equal.calls w15 A17 c18 r13 (Sat.rdAt 0 hS rfl) A0 c0 l0 (rdS.up R0 hS.sub0) r19 e20) ?_)
    rintro _ w21 ⟨rfl, hS22⟩
    have hS : Sat w21 (rf w0) [osl 5 (r0 (.int .u8)) 1 A17 c18 r13, osl 5 (r0 (.int .u8)) 1 A11 c12 r7] := hS.ext hS22
    refine WR.runk [4] [] [4, 18] (L' := [(4, .slice A11 r7.length c12), (18, .bool (!r19))]) (w' := w21) (by kernel_rfl) ?_
    refine WR.nil ?_
    refine At.go ?_
    refine WC.cond (by kernel_rfl) (!r19) (by kernel_rfl) (by kernel_rfl) (fun hb23 => ?_) (fun hb23 => ?_)
    · replace H := ite_t H hb23
      refine WC.seq (by kernel_rfl) ?_
      refine WC.reg [0, 1] (by kernel_rfl) (by kernel_rfl) ?_
      refine WR.runk [0, 1] [] [2, 3] (L' := [(2, .slice none 0 0), (3, .int .i64 40)]) (w' := w21) (by kernel_rfl) ?_
      refine WR.nil ?_
      refine At.go ?_
      refine WC.ret (by kernel_rfl) ?_
      refine At.thenRet ?_
      obtain rfl := Option.some.inj H
      have hS := hS.addNil 5 (r0 (.int .u8)) 1
      have hS : Sat w21 (rf w0) [osl 5 (r0 (.int .u8)) 1 none 0 []] := hS.sel [0] (by kernel_rfl)
      exact At.body [.slice none 0 0, .int .i64 40] (by kernel_rfl) ⟨_, rfl, _, _, rfl, hS⟩
    · replace H := ite_f H hb23
      refine WC.skip (by kernel_rfl) ?_
      refine At.go ?_
      refine WC.seq (by kernel_rfl) ?_
      refine WC.reg [0, 1, 2] (by kernel_rfl) (by kernel_rfl) ?_
      refine WR.runk [0, 1, 2] [] [2, 3] (L' := [(2, .slice A11 r7.length c12), (3, .int .i64 0)]) (w' := w21) (by kernel_rfl) ?_
      refine WR.nil ?_
      refine At.go ?_
      refine WC.ret (by kernel_rfl) ?_
      obtain rfl := Option.some.inj H
      have hS : Sat w21 (rf w0) [osl 5 (r0 (.int .u8)) 1 A11 c12 r7] := hS.sel [1] (by kernel_rfl)
      exact At.body [.slice A11 r7.length c12, .int .i64 0] (by kernel_rfl) ⟨_, rfl, _, _, rfl, hS⟩
/-! ### 8 colophon/colophonlaw04.first -/
noncomputable abbrev C8 : Code := Try.f8.body.getD .skip
def colophonlaw04_first.f : Option Bool := ((crc_Put.f ([97, 98] : List Int)).bind fun r4 => ((crc_Cut.f r4).bind fun r10 => ((crc_Cut.f ([97, 98, 99, 100, 101, 102] : List Int)).bind fun r19 => ((crc_Sum.f ([([49, 50, 51, 52] : List Int), ([53, 54, 55, 56, 57] : List Int)] : List (List Int))).bind fun r33 => (if (r33 == 3421780262) then (if (r10.2 == 0) then (if ((bs r10.1).toList == (⟨#[97, 98]⟩ : ByteArray).toList) then some (r19.2 == 40) else some false) else some false) else some false)))))
def colophonlaw04_first.post (w : World) (r : Bool) (v : Value) (w' : World) : Prop := v = .bool r ∧ Sat w' (rf w) []
theorem colophonlaw04_first.calls (w0 : World) (r : Bool) (H : colophonlaw04_first.f = some r) :
    Calls Try.prog 8 #[] w0 (fun e w' => ∃ v, e = .returned v ∧ colophonlaw04_first.post w0 r v w') := by
  have hS : Sat w0 (rf w0) [] := Sat.start w0
  unfold colophonlaw04_first.f at H
  refine calls_of_WC (vs := []) Try.func8 (c := C8) (n := 38) (by kernel_rfl) (by kernel_rfl) (by kernel_rfl) ?_
  refine WC.seq (by kernel_rfl) ?_
  refine WC.reg [0] (by kernel_rfl) (by kernel_rfl) ?_
  refine WR.runk [0] [] [] (L' := []) (w' := w0) (by kernel_rfl) ?_
  refine WR.nil ?_
  refine At.go ?_
  refine WC.seq (by kernel_rfl) ?_
  refine WC.reg [0, 1, 2, 3, 4, 5, 6, 7, 8] (by kernel_rfl) (by kernel_rfl) ?_
  refine WR.st (St.box hS (by kernel_rfl) (.cells #[.int .u8 97, .int .u8 98] 5) (fun b1 => .slice (some ⟨b1, 0, none⟩) 2 2) (fun _ => by kernel_rfl) (fun b1 w2 hS => ?_))
  refine WR.runk [] [1, 2, 3, 4, 5, 6, 7, 8] [6] (L' := [(6, .slice (some ⟨b1, 0, none⟩) 2 2)]) (w' := w2) (by kernel_rfl) ?_
  refine WR.st (St.mark (t := 22) (e := 5) (m := 2) (cp := 2) (.tmp 6) (by kernel_rfl) (by kernel_rfl) (by kernel_rfl) (by kernel_rfl) hS (by kernel_rfl) (fun w3 hS => ?_))
  refine WR.runk [] [2, 3, 4, 5, 6, 7, 8] [7] (L' := [(7, .slice (some ⟨b1, 0, none⟩) 2 2)]) (w' := w3) (by kernel_rfl) ?_
  obtain ⟨r4, e5, H⟩ := bind_ex H
  refine WR.st (St.call (by kernel_rfl) (f := 9) (args := #[.slice (some ⟨b1, 0, none⟩) 2 2]) (by kernel_rfl) (crc_Put.calls w3 (some ⟨b1, 0, none⟩) 2 ([97, 98] : List Int) (Sat.ptsAt 0 (r0 (.int .u8)) 1 ([97, 98] : List Int) hS rfl rfl (rdL.cons1 rfl (rdL.cons1 rfl (rdL.nil _ _)))) r4 e5) ?_)
  rintro _ w6 ⟨A8, c9, rfl, hS7⟩
  have hS : Sat w6 (rf w0) [osl 5 (r0 (.int .u8)) 1 A8 c9 r4, pts b1 (.cells #[.int .u8 97, .int .u8 98] 5 (2, 3))] := hS.ext hS7
  refine WR.runk [] [3, 4, 5, 6, 7, 8] [8] (L' := [(8, .slice A8 r4.length c9)]) (w' := w6) (by kernel_rfl) ?_
  obtain ⟨r10, e11, H⟩ := bind_ex H
  refine WR.st (St.call (by kernel_rfl) (f := 13) (args := #[.slice A8 r4.length c9]) (by kernel_rfl) (crc_Cut.calls w6 A8 c9 r4 (Sat.rdAt 0 hS rfl) r10 e11) ?_)
  rintro _ w12 ⟨A14, c15, rfl, hS13⟩
  have hS : Sat w12 (rf w0) [osl 5 (r0 (.int .u8)) 1 A14 c15 r10.1, osl 5 (r0 (.int .u8)) 1 A8 c9 r4, pts b1 (.cells #[.int .u8 97, .int .u8 98] 5 (2, 3))] := hS.ext hS13
  refine WR.runk [4, 5, 6, 7, 8] [] [1, 2] (L' := [(1, .slice A14 r10.1.length c15), (2, .int .i64 r10.2)]) (w' := w12) (by kernel_rfl) ?_
  refine WR.nil ?_
  refine At.go ?_
  refine WC.seq (by kernel_rfl) ?_
  refine WC.reg [0, 1, 2, 3, 4, 5, 6, 7] (by kernel_rfl) (by kernel_rfl) ?_
  refine WR.st (St.box hS (by kernel_rfl) (.cells #[.int .u8 97, .int .u8 98, .int .u8 99, .int .u8 100, .int .u8 101, .int .u8 102] 5) (fun b16 => .slice (some ⟨b16, 0, none⟩) 6 6) (fun _ => by kernel_rfl) (fun b16 w17 hS => ?_))
  refine WR.runk [] [1, 2, 3, 4, 5, 6, 7] [1, 2, 13] (L' := [(1, .slice A14 r10.1.length c15), (2, .int .i64 r10.2), (13, .slice (some ⟨b16, 0, none⟩) 6 6)]) (w' := w17) (by kernel_rfl) ?_
  refine WR.st (St.mark (t := 22) (e := 5) (m := 6) (cp := 6) (.tmp 13) (by kernel_rfl) (by kernel_rfl) (by kernel_rfl) (by kernel_rfl) hS (by kernel_rfl) (fun w18 hS => ?_))
  refine WR.runk [] [2, 3, 4, 5, 6, 7] [1, 2, 14] (L' := [(1, .slice A14 r10.1.length c15), (2, .int .i64 r10.2), (14, .slice (some ⟨b16, 0, none⟩) 6 6)]) (w' := w18) (by kernel_rfl) ?_
  obtain ⟨r19, e20, H⟩ := bind_ex H
  refine WR.st (St.call (by kernel_rfl) (f := 13) (args := #[.slice (some ⟨b16, 0, none⟩) 6 6]) (by kernel_rfl) (crc_Cut.calls w18 (some ⟨b16, 0, none⟩) 6 ([97, 98, 99, 100, 101, 102] : List Int) (Sat.ptsAt 0 (r0 (.int .u8)) 1 ([97, 98, 99, 100, 101, 102] : List Int) hS rfl rfl (rdL.cons1 rfl (rdL.cons1 rfl (rdL.cons1 rfl (rdL.cons1 rfl (rdL.cons1 rfl (rdL.cons1 rfl (rdL.nil _ _)))))))) r19 e20) ?_)
  rintro _ w21 ⟨A23, c24, rfl, hS22⟩
  have hS : Sat w21 (rf w0) [osl 5 (r0 (.int .u8)) 1 A23 c24 r19.1, pts b16 (.cells #[.int .u8 97, .int .u8 98, .int .u8 99, .int .u8 100, .int .u8 101, .int .u8 102] 5 (6, 7)), osl 5 (r0 (.int .u8)) 1 A14 c15 r10.1, osl 5 (r0 (.int .u8)) 1 A8 c9 r4, pts b1 (.cells #[.int .u8 97, .int .u8 98] 5 (2, 3))] := hS.ext hS22
  refine WR.runk [3, 4, 5, 6, 7] [] [1, 2, 4] (L' := [(1, .slice A14 r10.1.length c15), (2, .int .i64 r10.2), (4, .int .i64 r19.2)]) (w' := w21) (by kernel_rfl) ?_
  refine WR.nil ?_
  refine At.go ?_
  refine WC.seq (by kernel_rfl) ?_
  refine WC.reg [0, 1, 2, 3, 4, 5, 6, 7, 8, 9, 10, 11, 12, 13, 14, 15, 16, 17, 18, 19, 20] (by kernel_rfl) (by kernel_rfl) ?_
  refine WR.st (St.box hS (by kernel_rfl) (.cells #[.int .u8 49, .int .u8 50, .int .u8 51, .int .u8 52] 5) (fun b25 => .slice (some ⟨b25, 0, none⟩) 4 4) (fun _ => by kernel_rfl) (fun b25 w26 hS => ?_))
  refine WR.runk [] [1, 2, 3, 4, 5, 6, 7, 8, 9, 10, 11, 12, 13, 14, 15, 16, 17, 18, 19, 20] [1, 2, 4, 18] (L' := [(1, .slice A14 r10.1.length c15), (2, .int .i64 r10.2), (4, .int .i64 r19.2), (18, .slice (some ⟨b25, 0, none⟩) 4 4)]) (w' := w26) (by kernel_rfl) ?_
  refine WR.st (St.mark (t := 22) (e := 5) (m := 4) (cp := 4) (.tmp 18) (by kernel_rfl) (by kernel_rfl) (by kernel_rfl) (by kernel_rfl) hS (by kernel_rfl) (fun w27 hS => ?_))
  refine WR.runk [] [2, 3, 4, 5, 6, 7, 8, 9, 10, 11, 12, 13, 14, 15, 16, 17, 18, 19, 20] [1, 2, 4, 19] (L' := [(1, .slice A14 r10.1.length c15), (2, .int .i64 r10.2), (4, .int .i64 r19.2), (19, .slice (some ⟨b25, 0, none⟩) 4 4)]) (w' := w27) (by kernel_rfl) ?_
  refine WR.st (St.box hS (by kernel_rfl) (.cells #[.int .u8 53, .int .u8 54, .int .u8 55, .int .u8 56, .int .u8 57] 5) (fun b28 => .slice (some ⟨b28, 0, none⟩) 5 5) (fun _ => by kernel_rfl) (fun b28 w29 hS => ?_))
  refine WR.runk [] [3, 4, 5, 6, 7, 8, 9, 10, 11, 12, 13, 14, 15, 16, 17, 18, 19, 20] [1, 2, 4, 19, 20] (L' := [(1, .slice A14 r10.1.length c15), (2, .int .i64 r10.2), (4, .int .i64 r19.2), (19, .slice (some ⟨b25, 0, none⟩) 4 4), (20, .slice (some ⟨b28, 0, none⟩) 5 5)]) (w' := w29) (by kernel_rfl) ?_
  refine WR.st (St.mark (t := 22) (e := 5) (m := 5) (cp := 5) (.tmp 20) (by kernel_rfl) (by kernel_rfl) (by kernel_rfl) (by kernel_rfl) hS (by kernel_rfl) (fun w30 hS => ?_))
  refine WR.runk [] [4, 5, 6, 7, 8, 9, 10, 11, 12, 13, 14, 15, 16, 17, 18, 19, 20] [1, 2, 4, 19, 21] (L' := [(1, .slice A14 r10.1.length c15), (2, .int .i64 r10.2), (4, .int .i64 r19.2), (19, .slice (some ⟨b25, 0, none⟩) 4 4), (21, .slice (some ⟨b28, 0, none⟩) 5 5)]) (w' := w30) (by kernel_rfl) ?_
  refine WR.st (St.box hS (by kernel_rfl) (.cells #[.slice (some ⟨b25, 0, none⟩) 4 4, .slice (some ⟨b28, 0, none⟩) 5 5] 22) (fun b31 => .slice (some ⟨b31, 0, none⟩) 2 2) (fun _ => by kernel_rfl) (fun b31 w32 hS => ?_))
  refine WR.runk [] [5, 6, 7, 8, 9, 10, 11, 12, 13, 14, 15, 16, 17, 18, 19, 20] [1, 2, 4, 22] (L' := [(1, .slice A14 r10.1.length c15), (2, .int .i64 r10.2), (4, .int .i64 r19.2), (22, .slice (some ⟨b31, 0, none⟩) 2 2)]) (w' := w32) (by kernel_rfl) ?_
  obtain ⟨r33, e34, H⟩ := bind_ex H
  refine WR.st (St.call (by kernel_rfl) (f := 10) (args := #[.slice (some ⟨b31, 0, none⟩) 2 2]) (by kernel_rfl) (crc_Sum.calls w32 (some ⟨b31, 0, none⟩) 2 ([([49, 50, 51, 52] : List Int), ([53, 54, 55, 56, 57] : List Int)] : List (List Int)) (Sat.ptsAt 0 (rd (hp w32) (.slice 5 (.int .u8))) 1 ([([49, 50, 51, 52] : List Int), ([53, 54, 55, 56, 57] : List Int)] : List (List Int)) hS rfl rfl (rdL.cons1 ⟨_, _, rfl, (rdS.r0up (Sat.ptsAt 2 (r0 (.int .u8)) 1 ([49, 50, 51, 52] : List Int) hS rfl rfl (rdL.cons1 rfl (rdL.cons1 rfl (rdL.cons1 rfl (rdL.cons1 rfl (rdL.nil _ _)))))))⟩ (rdL.cons1 ⟨_, _, rfl, (rdS.r0up (Sat.ptsAt 1 (r0 (.int .u8)) 1 ([53, 54, 55, 56, 57] : List Int) hS rfl rfl (rdL.cons1 rfl (rdL.cons1 rfl (rdL.cons1 rfl (rdL.cons1 rfl (rdL.cons1 rfl (rdL.nil _ _))))))))⟩ (rdL.nil _ _)))) r33 e34) ?_)
  rintro _ w35 ⟨rfl, hS36⟩
  have hS : Sat w35 (rf w0) [pts b31 (.cells #[.slice (some ⟨b25, 0, none⟩) 4 4, .slice (some ⟨b28, 0, none⟩) 5 5] 22 (0, 0)), pts b28 (.cells #[.int .u8 53, .int .u8 54, .int .u8 55, .int .u8 56, .int .u8 57] 5 (5, 6)), pts b25 (.cells #[.int .u8 49, .int .u8 50, .int .u8 51, .int .u8 52] 5 (4, 5)), osl 5 (r0 (.int .u8)) 1 A23 c24 r19.1, pts b16 (.cells #[.int .u8 97, .int .u8 98, .int .u8 99, .int .u8 100, .int .u8 101, .int .u8 102] 5 (6, 7)), osl 5 (r0 (.int .u8)) 1 A14 c15 r10.1, osl 5 (r0 (.int .u8)) 1 A8 c9 r4, pts b1 (.cells #[.int .u8 97, .int .u8 98] 5 (2, 3))] := hS.ext hS36
  refine WR.runk [6, 7] [8, 9, 10, 11, 12, 13, 14, 15, 16, 17, 18, 19, 20] [1, 2, 4, 25] (L' := [(1, .slice A14 r10.1.length c15), (2, .int .i64 r10.2), (4, .int .i64 r19.2), (25, .bool (r33 == 3421780262))]) (w' := w35) (by kernel_rfl) ?_
  refine WR.split 25 (b := (r33 == 3421780262)) (by kernel_rfl) (fun hb37 => ?_) (fun hb37 => ?_)
  · replace H := ite_t H hb37
    refine WR.runk [8, 9, 10, 11] [12, 13, 14, 15, 16, 17, 18, 19, 20] [1, 4, 29] (L' := [(1, .slice A14 r10.1.length c15), (4, .int .i64 r19.2), (29, .bool (r10.2 == 0))]) (w' := w35) (by kernel_rfl) ?_
    refine WR.split 29 (b := (r10.2 == 0)) (by kernel_rfl) (fun hb38 => ?_) (fun hb38 => ?_)
    · replace H := ite_t H hb38
      refine WR.runk [12] [13, 14, 15, 16, 17, 18, 19, 20] [4, 29, 30] (L' := [(4, .int .i64 r19.2), (29, .bool true), (30, .slice A14 r10.1.length c15)]) (w' := w35) (by kernel_rfl) ?_
      refine WR.st (St.ofR (RSt.toStr (src := 22) (dst := 9) (e := 5) (.tmp 30) (by kernel_rfl) (by kernel_rfl) (by kernel_rfl) (by kernel_rfl) (by kernel_rfl) (by kernel_rfl) (Sat.rdAt 5 hS rfl) ?_))
      refine WR.runk [14, 15, 16] [17, 18, 19, 20] [4, 34] (L' := [(4, .int .i64 r19.2), (34, .bool ((bs r10.1).toList == (⟨#[97, 98]⟩ : ByteArray).toList))]) (w' := w35) (by kernel_rfl) ?_
      refine WR.split 34 (b := ((bs r10.1).toList == (⟨#[97, 98]⟩ : ByteArray).toList)) (by kernel_rfl) (fun hb39 => ?_) (fun hb39 => ?_)
      · replace H := ite_t H hb39
        refine WR.runk [17, 18, 19, 20] [] [0] (L' := [(0, .bool (r19.2 == 40))]) (w' := w35) (by kernel_rfl) ?_
        refine WR.nil ?_
        refine At.go ?_
        refine WC.ret (by kernel_rfl) ?_
        obtain rfl := Option.some.inj H
        have hS : Sat w35 (rf w0) [] := hS.sel [] (by kernel_rfl)
        exact At.body [.bool (r19.2 == 40)] (by kernel_rfl) ⟨_, rfl, rfl, hS⟩
      · replace H := ite_f H hb39
        refine WR.runk [17, 18, 19, 20] [] [0] (L' := [(0, .bool false)]) (w' := w35) (by kernel_rfl) ?_
        refine WR.nil ?_
        refine At.go ?_
        refine WC.ret (by kernel_rfl) ?_
        obtain rfl := Option.some.inj H
        have hS : Sat w35 (rf w0) [] := hS.sel [] (by kernel_rfl)
        exact At.body [.bool false] (by kernel_rfl) ⟨_, rfl, rfl, hS⟩
    · replace H := ite_f H hb38
      refine WR.runk [12, 13, 14, 15, 16, 17, 18, 19, 20] [] [0] (L' := [(0, .bool false)]) (w' := w35) (by kernel_rfl) ?_
      refine WR.nil ?_
      refine At.go ?_
      refine WC.ret (by kernel_rfl) ?_
      obtain rfl := Option.some.inj H
      have hS : Sat w35 (rf w0) [] := hS.sel [] (by kernel_rfl)
      exact At.body [.bool false] (by kernel_rfl) ⟨_, rfl, rfl, hS⟩
  · replace H := ite_f H hb37
    refine WR.runk [8, 9, 10, 11, 12, 13, 14, 15, 16, 17, 18, 19, 20] [] [0] (L' := [(0, .bool false)]) (w' := w35) (by kernel_rfl) ?_
    refine WR.nil ?_
    refine At.go ?_
    refine WC.ret (by kernel_rfl) ?_
    obtain rfl := Option.some.inj H
    have hS : Sat w35 (rf w0) [] := hS.sel [] (by kernel_rfl)
    exact At.body [.bool false] (by kernel_rfl) ⟨_, rfl, rfl, hS⟩
/-! ### 3 colophon/colophonlaw04.CrcPuts -/
noncomputable abbrev C3 : Code := Try.f3.body.getD .skip
def colophonlaw04_CrcPuts.f (l0 : List Int) (a1 : Int) : Option Bool := (colophonlaw04_first.f.bind fun r1 => (if (!r1) then some false else ((sub? l0 0 (imin (l0.length : Int) 3000)).bind fun y8 => ((app? 140737488355328 (([] : List Int) : List Int) y8).bind fun y14 => ((chk? (decide ((IntKind.wrap .u64 (wi ((y14.length : Int) + 1))) ≠ 0))).bind fun _ => ((crc_Put.f y14).bind fun r19 => ((sub? y14 0 (wi (Int.tmod (IntKind.wrap .u64 a1) (IntKind.wrap .u64 (wi ((y14.length : Int) + 1)))))).bind fun y27 => ((sub? y14 (wi (Int.tmod (IntKind.wrap .u64 a1) (IntKind.wrap .u64 (wi ((y14.length : Int) + 1))))) (y14.length : Int)).bind fun y32 => ((crc_Sum.f ([y27, ([] : List Int), y32] : List (List Int))).bind fun r39 => ((colophonref04_Sum.f y14).bind fun r43 => (if (r39 != r43) then some false else ((colophonref04_Put.f y14).bind fun r48 => (if (!((bs r19).toList == (bs r48).toList)) then some false else ((sub? l0 0 (y14.length : Int)).bind fun y55 => (if (!((bs y14).toList == (bs y55).toList)) then some false else ((crc_Cut.f r19).bind fun r61 => (if (r61.2 == 0) then some ((bs r61.1).toList == (bs y14).toList) else some false)))))))))))))))))
def colophonlaw04_CrcPuts.post (w : World) (r : Bool) (v : Value) (w' : World) : Prop := v = .bool r ∧ Sat w' (rf w) []
theorem colophonlaw04_CrcPuts.calls (w0 : World) (A0 : Option Addr) (c0 : Nat) (l0 : List Int) (R0 : rdS (r0 (.int .u8)) 1 (hp w0) A0 c0 l0) (a1 : Int) (r : Bool) (H : colophonlaw04_CrcPuts.f l0 a1 = some r) :
    Calls Try.prog 3 #[.slice A0 l0.length c0, .int .i64 a1] w0 (fun e w' => ∃ v, e = .returned v ∧ colophonlaw04_CrcPuts.post w0 r v w') := by
  have hS : Sat w0 (rf w0) [] := Sat.start w0
  unfold colophonlaw04_CrcPuts.f at H
  refine calls_of_WC (vs := [.slice A0 l0.length c0, .int .i64 a1]) Try.func3 (c := C3) (n := 72) (by kernel_rfl) (by kernel_rfl) (by kernel_rfl) ?_
  refine WC.seq (by kernel_rfl) ?_
  refine WC.reg [0] (by kernel_rfl) (by kernel_rfl) ?_
  refine WR.runk [0] [] [0, 1] (L' := [(0, .slice A0 l0.length c0), (1, .int .i64 a1)]) (w' := w0) (by kernel_rfl) ?_
  refine WR.nil ?_
  refine At.go ?_
  refine WC.seq (by kernel_rfl) ?_
  refine WC.seq (by kernel_rfl) ?_
  refine WC.reg [0, 1] (by kernel_rfl) (by kernel_rfl) ?_
  obtain ⟨r1, e2, H⟩ := bind_ex H
  refine WR.st (St.call (by kernel_rfl) (f := 8) (args := #[]) (by kernel_rfl) (colophonlaw04_first.calls w0  r1 e2) ?_)
  rintro _ w3 ⟨rfl, hS4⟩
  have hS : Sat w3 (rf w0) [] := hS.ext hS4
  refine WR.runk [1] [] [0, 1, 11] (L' := [(0, .slice A0 l0.length c0), (1, .int .i64 a1), (11, .bool (!r1))]) (w' := w3) (by kernel_rfl) ?_
  refine WR.nil ?_
  refine At.go ?_
  refine WC.cond (by kernel_rfl) (!r1) (by kernel_rfl) (by kernel_rfl) (fun hb5 => ?_) (fun hb5 => ?_)
  · replace H := ite_t H hb5
    refine WC.seq (by kernel_rfl) ?_
    refine WC.reg [0] (by kernel_rfl) (by kernel_rfl) ?_
    refine WR.runk [0] [] [4] (L' := [(4, .bool false)]) (w' := w3) (by kernel_rfl) ?_
    refine WR.nil ?_
    refine At.go ?_
    refine WC.ret (by kernel_rfl) ?_
    refine At.thenRet ?_
    obtain rfl := Option.some.inj H
    have hS : Sat w3 (rf w0) [] := hS.sel [] (by kernel_rfl)
    exact At.body [.bool false] (by kernel_rfl) ⟨_, rfl, rfl, hS⟩
  · replace H := ite_f H hb5
    refine WC.skip (by kernel_rfl) ?_
    refine At.go ?_
    refine WC.seq (by kernel_rfl) ?_
    refine WC.reg [0, 1, 2, 3, 4, 5, 6, 7] (by kernel_rfl) (by kernel_rfl) ?_
    refine WR.runk [] [0, 1, 2, 3, 4, 5, 6, 7] [0, 1] (L' := [(0, .slice A0 l0.length c0), (1, .int .i64 a1)]) (w' := w3) (by kernel_rfl) ?_
    refine WR.st (St.box hS (by kernel_rfl) (.cells #[] 5) (fun b6 => .slice (some ⟨b6, 0, none⟩) 0 0) (fun _ => by kernel_rfl) (fun b6 w7 hS => ?_))
    refine WR.runk [1, 2, 3, 4] [5, 6, 7] [0, 1, 12, 13, 16] (L' := [(0, .slice A0 l0.length c0), (1, .int .i64 a1), (12, .slice (some ⟨b6, 0, none⟩) 0 0), (13, .slice A0 l0.length c0), (16, .int .i64 (imin (l0.length : Int) 3000))]) (w' := w7) (by kernel_rfl) ?_
    obtain ⟨y8, e9, H⟩ := bind_ex H
    refine WR.st (St.ofP (PSt.sub (A := A0) (c := c0) (.tmp 13) none (some (.tmp 16)) none (by kernel_rfl) (by kernel_rfl) E22 (by kernel_rfl) (rdS.up R0 hS.sub0).1 e9 rfl (Exists.intro IntKind.i64 (by kernel_rfl)) trivial (fun A10 c11 T12 => ?_)))
    refine WR.runk [] [6, 7] [0, 1, 12, 17] (L' := [(0, .slice A0 l0.length c0), (1, .int .i64 a1), (12, .slice (some ⟨b6, 0, none⟩) 0 0), (17, .slice A10 y8.length c11)]) (w' := w7) (by kernel_rfl) ?_
    have hS : Sat w7 (rf w0) [osl 5 (r0 (.int .u8)) 1 (some ⟨b6, 0, none⟩) (([] : List Int) : List Int).length (([] : List Int) : List Int)] := Sat.toOsl' (r0 (.int .u8)) 1 (([] : List Int) : List Int) hS rfl (rdL.nil _ _)
    obtain ⟨y14, e13, H⟩ := bind_ex H
    refine WR.st (St.append' (.tmp 12) (.tmp 17) (by kernel_rfl) (by kernel_rfl) E22 (r0_one _) hS (by kernel_rfl) (by kernel_rfl) (T12.rd _ _ (rdS.up R0 hS.sub0)) 140737488355328 (by kernel_rfl) (by kernel_rfl) e13 (fun A15 c16 w17 hS => ?_))
    refine WR.runk [7] [] [0, 1, 5] (L' := [(0, .slice A0 l0.length c0), (1, .int .i64 a1), (5, .slice A15 y14.length c16)]) (w' := w17) (by kernel_rfl) ?_
    refine WR.nil ?_
    refine At.go ?_
    refine WC.seq (by kernel_rfl) ?_
    refine WC.reg [0, 1, 2, 3, 4, 5, 6, 7, 8] (by kernel_rfl) (by kernel_rfl) ?_
    refine WR.runk [0, 1, 2, 3, 4, 5] [6, 7, 8] [0, 5, 20, 24] (L' := [(0, .slice A0 l0.length c0), (5, .slice A15 y14.length c16), (20, .int .u64 (IntKind.wrap .u64 a1)), (24, .int .u64 (IntKind.wrap .u64 (wi ((y14.length : Int) + 1))))]) (w' := w17) (by kernel_rfl) ?_
    obtain ⟨_, e18, H⟩ := bind_ex H
    refine WR.st (St.ofP (PSt.div (k := .u64) (t := 24) (t2 := 24) (a := (IntKind.wrap .u64 a1)) (b := (IntKind.wrap .u64 (wi ((y14.length : Int) + 1)))) .rem (by decide) (.tmp 20) (.tmp 24) (by kernel_rfl) (by kernel_rfl) (by kernel_rfl) (by kernel_rfl) (of_decide_eq_true (chk?_some e18)) ?_))
    refine WR.runk [7, 8] [] [0, 5, 6] (L' := [(0, .slice A0 l0.length c0), (5, .slice A15 y14.length c16), (6, .int .i64 (wi (Int.tmod (IntKind.wrap .u64 a1) (IntKind.wrap .u64 (wi ((y14.length : Int) + 1))))))]) (w' := w17) (by kernel_rfl) ?_
    refine WR.nil ?_
    refine At.go ?_
    refine WC.seq (by kernel_rfl) ?_
    refine WC.reg [0, 1, 2] (by kernel_rfl) (by kernel_rfl) ?_
    refine WR.runk [0] [1, 2] [0, 5, 6, 27] (L' := [(0, .slice A0 l0.length c0), (5, .slice A15 y14.length c16), (6, .int .i64 (wi (Int.tmod (IntKind.wrap .u64 a1) (IntKind.wrap .u64 (wi ((y14.length : Int) + 1)))))), (27, .slice A15 y14.length c16)]) (w' := w17) (by kernel_rfl) ?_
    obtain ⟨r19, e20, H⟩ := bind_ex H
    refine WR.st (St.call (by kernel_rfl) (f := 9) (args := #[.slice A15 y14.length c16]) (by kernel_rfl) (crc_Put.calls w17 A15 c16 y14 (Sat.rdAt 0 hS rfl) r19 e20) ?_)
    rintro _ w21 ⟨A23, c24, rfl, hS22⟩
    have hS : Sat w21 (rf w0) [osl 5 (r0 (.int .u8)) 1 A23 c24 r19, osl 5 (r0 (.int .u8)) 1 A15 c16 y14] := hS.ext hS22
    refine WR.runk [2] [] [0, 5, 6, 7] (L' := [(0, .slice A0 l0.length c0), (5, .slice A15 y14.length c16), (6, .int .i64 (wi (Int.tmod (IntKind.wrap .u64 a1) (IntKind.wrap .u64 (wi ((y14.length : Int) + 1)))))), (7, .slice A23 r19.length c24)]) (w' := w21) (by kernel_rfl) ?_
    refine WR.nil ?_
    refine At.go ?_
    refine WC.seq (by kernel_rfl) ?_
    refine WC.seq (by kernel_rfl) ?_
    refine WC.drawn (by kernel_rfl) (by kernel_rfl) 29 (by kernel_rfl) (fun w25 hw26 => ?_)
    have hS := hS.heap hw26.1 hw26.2
    refine WD.weaken [0, 5, 6, 7] (L' := [(0, .slice A0 l0.length c0), (5, .slice A15 y14.length c16), (6, .int .i64 (wi (Int.tmod (IntKind.wrap .u64 a1) (IntKind.wrap .u64 (wi ((y14.length : Int) + 1)))))), (7, .slice A23 r19.length c24)]) (by kernel_rfl) ?_
    refine WD.pure (i := 0) (v := .slice A15 y14.length c16) (by kernel_rfl) (by kernel_rfl) (fun _ => by kernel_rfl) ?_
    refine WD.weaken [0, 5, 6, 7, 29] (L' := [(0, .slice A0 l0.length c0), (5, .slice A15 y14.length c16), (6, .int .i64 (wi (Int.tmod (IntKind.wrap .u64 a1) (IntKind.wrap .u64 (wi ((y14.length : Int) + 1)))))), (7, .slice A23 r19.length c24), (29, .slice A15 y14.length c16)]) (by kernel_rfl) ?_
    refine WD.pure (i := 1) (v := .int .i64 (wi (Int.tmod (IntKind.wrap .u64 a1) (IntKind.wrap .u64 (wi ((y14.length : Int) + 1)))))) (by kernel_rfl) (by kernel_rfl) (fun _ => by kernel_rfl) ?_
    refine WD.weaken [0, 5, 6, 7, 29, 30] (L' := [(0, .slice A0 l0.length c0), (5, .slice A15 y14.length c16), (6, .int .i64 (wi (Int.tmod (IntKind.wrap .u64 a1) (IntKind.wrap .u64 (wi ((y14.length : Int) + 1)))))), (7, .slice A23 r19.length c24), (29, .slice A15 y14.length c16), (30, .int .i64 (wi (Int.tmod (IntKind.wrap .u64 a1) (IntKind.wrap .u64 (wi ((y14.length : Int) + 1))))))]) (by kernel_rfl) ?_
    obtain ⟨y27, e28, H⟩ := bind_ex H
    refine WD.ofP (i := 2) (by kernel_rfl) (PSt.sub (A := A15) (c := c16) (.tmp 29) none (some (.tmp 30)) none (by kernel_rfl) (by kernel_rfl) E22 (by kernel_rfl) (Sat.rdAt 1 hS rfl).1 e28 rfl (Exists.intro IntKind.i64 (by kernel_rfl)) trivial (fun A29 c30 T31 => ?_))
    refine WD.weaken [0, 5, 6, 7, 31] (L' := [(0, .slice A0 l0.length c0), (5, .slice A15 y14.length c16), (6, .int .i64 (wi (Int.tmod (IntKind.wrap .u64 a1) (IntKind.wrap .u64 (wi ((y14.length : Int) + 1)))))), (7, .slice A23 r19.length c24), (31, .slice A29 y27.length c30)]) (by kernel_rfl) ?_
    refine WD.pure (i := 3) (v := .slice A15 y14.length c16) (by kernel_rfl) (by kernel_rfl) (fun _ => by kernel_rfl) ?_
    refine WD.weaken [0, 5, 6, 7, 31, 32] (L' := [(0, .slice A0 l0.length c0), (5, .slice A15 y14.length c16), (6, .int .i64 (wi (Int.tmod (IntKind.wrap .u64 a1) (IntKind.wrap .u64 (wi ((y14.length : Int) + 1)))))), (7, .slice A23 r19.length c24), (31, .slice A29 y27.length c30), (32, .slice A15 y14.length c16)]) (by kernel_rfl) ?_
    refine WD.pure (i := 4) (v := .int .i64 (wi (Int.tmod (IntKind.wrap .u64 a1) (IntKind.wrap .u64 (wi ((y14.length : Int) + 1)))))) (by kernel_rfl) (by kernel_rfl) (fun _ => by kernel_rfl) ?_
    refine WD.weaken [0, 5, 7, 31, 32, 33] (L' := [(0, .slice A0 l0.length c0), (5, .slice A15 y14.length c16), (7, .slice A23 r19.length c24), (31, .slice A29 y27.length c30), (32, .slice A15 y14.length c16), (33, .int .i64 (wi (Int.tmod (IntKind.wrap .u64 a1) (IntKind.wrap .u64 (wi ((y14.length : Int) + 1))))))]) (by kernel_rfl) ?_
    obtain ⟨y32, e33, H⟩ := bind_ex H
    refine WD.ofP (i := 5) (by kernel_rfl) (PSt.sub (A := A15) (c := c16) (.tmp 32) (some (.tmp 33)) none none (by kernel_rfl) (by kernel_rfl) E22 (by kernel_rfl) (Sat.rdAt 1 hS rfl).1 e33 (Exists.intro IntKind.i64 (by kernel_rfl)) ⟨rfl, rfl⟩ trivial (fun A34 c35 T36 => ?_))
    refine WD.weaken [0, 5, 7, 31, 34] (L' := [(0, .slice A0 l0.length c0), (5, .slice A15 y14.length c16), (7, .slice A23 r19.length c24), (31, .slice A29 y27.length c30), (34, .slice A34 y32.length c35)]) (by kernel_rfl) ?_
    refine WD.pure (i := 8) (v := .slice A15 y14.length c16) (by kernel_rfl) (by kernel_rfl) (fun _ => by kernel_rfl) ?_
    refine WD.weaken [0, 5, 7, 31, 34, 37] (L' := [(0, .slice A0 l0.length c0), (5, .slice A15 y14.length c16), (7, .slice A23 r19.length c24), (31, .slice A29 y27.length c30), (34, .slice A34 y32.length c35), (37, .slice A15 y14.length c16)]) (by kernel_rfl) ?_
    refine WD.act (i := 6) (by kernel_rfl) (St.box hS (by kernel_rfl) (.cells #[.slice A29 y27.length c30, .slice none 0 0, .slice A34 y32.length c35] 22) (fun b37 => .slice (some ⟨b37, 0, none⟩) 3 3) (fun _ => by kernel_rfl) (fun b37 w38 hS => ?_))
    refine ⟨(asked.nil _ _), ?_⟩
    refine WD.weaken [0, 5, 7, 35, 37] (L' := [(0, .slice A0 l0.length c0), (5, .slice A15 y14.length c16), (7, .slice A23 r19.length c24), (35, .slice (some ⟨b37, 0, none⟩) 3 3), (37, .slice A15 y14.length c16)]) (by kernel_rfl) ?_
    obtain ⟨r39, e40, H⟩ := bind_ex H
    refine WD.act (i := 7) (by kernel_rfl) (St.call (by kernel_rfl) (f := 10) (args := #[.slice (some ⟨b37, 0, none⟩) 3 3]) (by kernel_rfl) (crc_Sum.calls w38 (some ⟨b37, 0, none⟩) 3 ([y27, ([] : List Int), y32] : List (List Int)) (Sat.ptsAt 0 (rd (hp w38) (.slice 5 (.int .u8))) 1 ([y27, ([] : List Int), y32] : List (List Int)) hS rfl rfl (rdL.cons1 ⟨_, _, rfl, (rdS.r0up (T31.rd _ _ (Sat.rdAt 2 hS rfl)))⟩ (rdL.cons1 ⟨_, _, rfl, (rdS.r0up (rdS.nil _ _ _))⟩ (rdL.cons1 ⟨_, _, rfl, (rdS.r0up (T36.rd _ _ (Sat.rdAt 2 hS rfl)))⟩ (rdL.nil _ _))))) r39 e40) ?_)
    rintro _ w41 ⟨rfl, hS42⟩
    have hS : Sat w41 (rf w0) [pts b37 (.cells #[.slice A29 y27.length c30, .slice none 0 0, .slice A34 y32.length c35] 22 (0, 0)), osl 5 (r0 (.int .u8)) 1 A23 c24 r19, osl 5 (r0 (.int .u8)) 1 A15 c16 y14] := hS.ext hS42
    refine ⟨(asked.nil _ _), ?_⟩
    refine WD.weaken [0, 5, 7, 36, 37] (L' := [(0, .slice A0 l0.length c0), (5, .slice A15 y14.length c16), (7, .slice A23 r19.length c24), (36, .int .u32 r39), (37, .slice A15 y14.length c16)]) (by kernel_rfl) ?_
    obtain ⟨r43, e44, H⟩ := bind_ex H
    refine WD.act (i := 9) (by kernel_rfl) (St.call (by kernel_rfl) (f := 11) (args := #[.slice A15 y14.length c16]) (by kernel_rfl) (colophonref04_Sum.calls w41 A15 c16 y14 (Sat.rdAt 2 hS rfl) r43 e44) ?_)
    rintro _ w45 ⟨rfl, hS46⟩
    have hS : Sat w45 (rf w0) [pts b37 (.cells #[.slice A29 y27.length c30, .slice none 0 0, .slice A34 y32.length c35] 22 (0, 0)), osl 5 (r0 (.int .u8)) 1 A23 c24 r19, osl 5 (r0 (.int .u8)) 1 A15 c16 y14] := hS.ext hS46
    refine ⟨(asked.nil _ _), ?_⟩
    refine WD.weaken [0, 5, 7, 36, 38] (L' := [(0, .slice A0 l0.length c0), (5, .slice A15 y14.length c16), (7, .slice A23 r19.length c24), (36, .int .u32 r39), (38, .int .u32 r43)]) (by kernel_rfl) ?_
    refine WD.pure (i := 10) (v := .bool (r39 != r43)) (by kernel_rfl) (by kernel_rfl) (fun _ => by kernel_rfl) ?_
    refine WD.weaken [0, 5, 7, 39] (L' := [(0, .slice A0 l0.length c0), (5, .slice A15 y14.length c16), (7, .slice A23 r19.length c24), (39, .bool (r39 != r43))]) (by kernel_rfl) ?_
    refine WD.pure (i := 11) (v := .bool (r39 != r43)) (by kernel_rfl) (by kernel_rfl) (fun _ => by kernel_rfl) ?_
    refine WD.weaken [0, 5, 7, 40] (L' := [(0, .slice A0 l0.length c0), (5, .slice A15 y14.length c16), (7, .slice A23 r19.length c24), (40, .bool (r39 != r43))]) (by kernel_rfl) ?_
    refine WD.split 40 (b := (r39 != r43)) (by kernel_rfl) (fun hb47 => ?_) (fun hb47 => ?_)
    · replace H := ite_t H hb47
      refine WD.weaken [0, 5, 7, 40] (L' := [(0, .slice A0 l0.length c0), (5, .slice A15 y14.length c16), (7, .slice A23 r19.length c24), (40, .bool true)]) (by kernel_rfl) ?_
      refine WD.skip (i := 12) (by kernel_rfl) (by kernel_rfl) ?_
      refine WD.weaken [0, 5, 7, 40, 41] (L' := [(0, .slice A0 l0.length c0), (5, .slice A15 y14.length c16), (7, .slice A23 r19.length c24), (40, .bool true), (41, undef)]) (by kernel_rfl) ?_
      refine WD.skip (i := 13) (by kernel_rfl) (by kernel_rfl) ?_
      refine WD.weaken [0, 5, 7, 40, 42] (L' := [(0, .slice A0 l0.length c0), (5, .slice A15 y14.length c16), (7, .slice A23 r19.length c24), (40, .bool true), (42, undef)]) (by kernel_rfl) ?_
      refine WD.skip (i := 14) (by kernel_rfl) (by kernel_rfl) ?_
      refine WD.weaken [0, 5, 7, 40, 42, 43] (L' := [(0, .slice A0 l0.length c0), (5, .slice A15 y14.length c16), (7, .slice A23 r19.length c24), (40, .bool true), (42, undef), (43, undef)]) (by kernel_rfl) ?_
      refine WD.skip (i := 15) (by kernel_rfl) (by kernel_rfl) ?_
      refine WD.weaken [0, 5, 7, 40, 42, 44] (L' := [(0, .slice A0 l0.length c0), (5, .slice A15 y14.length c16), (7, .slice A23 r19.length c24), (40, .bool true), (42, undef), (44, undef)]) (by kernel_rfl) ?_
      refine WD.skip (i := 16) (by kernel_rfl) (by kernel_rfl) ?_
      refine WD.weaken [0, 5, 7, 40, 42, 45] (L' := [(0, .slice A0 l0.length c0), (5, .slice A15 y14.length c16), (7, .slice A23 r19.length c24), (40, .bool true), (42, undef), (45, undef)]) (by kernel_rfl) ?_
      refine WD.skip (i := 17) (by kernel_rfl) (by kernel_rfl) ?_
      refine WD.weaken [0, 5, 7, 40, 46] (L' := [(0, .slice A0 l0.length c0), (5, .slice A15 y14.length c16), (7, .slice A23 r19.length c24), (40, .bool true), (46, undef)]) (by kernel_rfl) ?_
      refine WD.pure (i := 18) (v := .bool true) (by kernel_rfl) (by kernel_rfl) (fun _ => by kernel_rfl) ?_
      refine WD.weaken [0, 5, 7, 47] (L' := [(0, .slice A0 l0.length c0), (5, .slice A15 y14.length c16), (7, .slice A23 r19.length c24), (47, .bool true)]) (by kernel_rfl) ?_
      refine WD.pure (i := 19) (v := .bool true) (by kernel_rfl) (by kernel_rfl) (fun _ => by kernel_rfl) ?_
      refine WD.weaken [0, 5, 7, 48] (L' := [(0, .slice A0 l0.length c0), (5, .slice A15 y14.length c16), (7, .slice A23 r19.length c24), (48, .bool true)]) (by kernel_rfl) ?_
      refine WD.skip (i := 20) (by kernel_rfl) (by kernel_rfl) ?_
      refine WD.weaken [0, 5, 7, 48, 49] (L' := [(0, .slice A0 l0.length c0), (5, .slice A15 y14.length c16), (7, .slice A23 r19.length c24), (48, .bool true), (49, undef)]) (by kernel_rfl) ?_
      refine WD.skip (i := 21) (by kernel_rfl) (by kernel_rfl) ?_
      refine WD.weaken [0, 5, 7, 48, 50] (L' := [(0, .slice A0 l0.length c0), (5, .slice A15 y14.length c16), (7, .slice A23 r19.length c24), (48, .bool true), (50, undef)]) (by kernel_rfl) ?_
      refine WD.skip (i := 22) (by kernel_rfl) (by kernel_rfl) ?_
      refine WD.weaken [5, 7, 48, 50, 51] (L' := [(5, .slice A15 y14.length c16), (7, .slice A23 r19.length c24), (48, .bool true), (50, undef), (51, undef)]) (by kernel_rfl) ?_
      refine WD.skip (i := 23) (by kernel_rfl) (by kernel_rfl) ?_
      refine WD.weaken [5, 7, 48, 50, 51, 52] (L' := [(5, .slice A15 y14.length c16), (7, .slice A23 r19.length c24), (48, .bool true), (50, undef), (51, undef), (52, undef)]) (by kernel_rfl) ?_
      refine WD.skip (i := 24) (by kernel_rfl) (by kernel_rfl) ?_
      refine WD.weaken [5, 7, 48, 50, 51, 53] (L' := [(5, .slice A15 y14.length c16), (7, .slice A23 r19.length c24), (48, .bool true), (50, undef), (51, undef), (53, undef)]) (by kernel_rfl) ?_
      refine WD.skip (i := 25) (by kernel_rfl) (by kernel_rfl) ?_
      refine WD.weaken [5, 7, 48, 50, 54] (L' := [(5, .slice A15 y14.length c16), (7, .slice A23 r19.length c24), (48, .bool true), (50, undef), (54, undef)]) (by kernel_rfl) ?_
      refine WD.skip (i := 26) (by kernel_rfl) (by kernel_rfl) ?_
      refine WD.weaken [5, 7, 48, 50, 55] (L' := [(5, .slice A15 y14.length c16), (7, .slice A23 r19.length c24), (48, .bool true), (50, undef), (55, undef)]) (by kernel_rfl) ?_
      refine WD.skip (i := 27) (by kernel_rfl) (by kernel_rfl) ?_
      refine WD.weaken [5, 7, 48, 56] (L' := [(5, .slice A15 y14.length c16), (7, .slice A23 r19.length c24), (48, .bool true), (56, undef)]) (by kernel_rfl) ?_
      refine WD.pure (i := 28) (v := .bool true) (by kernel_rfl) (by kernel_rfl) (fun _ => by kernel_rfl) ?_
      refine WD.weaken [5, 7, 57] (L' := [(5, .slice A15 y14.length c16), (7, .slice A23 r19.length c24), (57, .bool true)]) (by kernel_rfl) ?_
      refine WD.nil (by kernel_rfl) ?_
      refine At.go ?_
      refine WC.condT (by kernel_rfl) (by kernel_rfl) (by kernel_rfl) ?_
      refine WC.seq (by kernel_rfl) ?_
      refine WC.reg [0] (by kernel_rfl) (by kernel_rfl) ?_
      refine WR.runk [0] [] [4] (L' := [(4, .bool false)]) (w' := w45) (by kernel_rfl) ?_
      refine WR.nil ?_
      refine At.go ?_
      refine WC.ret (by kernel_rfl) ?_
      refine At.thenRet ?_
      obtain rfl := Option.some.inj H
      have hS : Sat w45 (rf w0) [] := hS.sel [] (by kernel_rfl)
      exact At.body [.bool false] (by kernel_rfl) ⟨_, rfl, rfl, hS⟩
    · replace H := ite_f H hb47
      refine WD.weaken [0, 5, 7, 40] (L' := [(0, .slice A0 l0.length c0), (5, .slice A15 y14.length c16), (7, .slice A23 r19.length c24), (40, .bool false)]) (by kernel_rfl) ?_
      refine WD.pure (i := 12) (v := .slice A23 r19.length c24) (by kernel_rfl) (by kernel_rfl) (fun _ => by kernel_rfl) ?_
      refine WD.weaken [0, 5, 7, 40, 41] (L' := [(0, .slice A0 l0.length c0), (5, .slice A15 y14.length c16), (7, .slice A23 r19.length c24), (40, .bool false), (41, .slice A23 r19.length c24)]) (by kernel_rfl) ?_
      refine WD.ofR (i := 13) (by kernel_rfl) (RSt.toStr (src := 22) (dst := 9) (e := 5) (.tmp 41) (by kernel_rfl) (by kernel_rfl) (by kernel_rfl) (by kernel_rfl) (by kernel_rfl) (by kernel_rfl) (Sat.rdAt 1 hS rfl) ?_)
      refine WD.weaken [0, 5, 7, 40, 42] (L' := [(0, .slice A0 l0.length c0), (5, .slice A15 y14.length c16), (7, .slice A23 r19.length c24), (40, .bool false), (42, .string (bs r19))]) (by kernel_rfl) ?_
      refine WD.pure (i := 14) (v := .slice A15 y14.length c16) (by kernel_rfl) (by kernel_rfl) (fun _ => by kernel_rfl) ?_
      refine WD.weaken [0, 5, 7, 40, 42, 43] (L' := [(0, .slice A0 l0.length c0), (5, .slice A15 y14.length c16), (7, .slice A23 r19.length c24), (40, .bool false), (42, .string (bs r19)), (43, .slice A15 y14.length c16)]) (by kernel_rfl) ?_
      obtain ⟨r48, e49, H⟩ := bind_ex H
      refine WD.act (i := 15) (by kernel_rfl) (St.call (by kernel_rfl) (f := 12) (args := #[.slice A15 y14.length c16]) (by kernel_rfl) (colophonref04_Put.calls w45 A15 c16 y14 (Sat.rdAt 2 hS rfl) r48 e49) ?_)
      rintro _ w50 ⟨A52, c53, rfl, hS51⟩
      have hS : Sat w50 (rf w0) [osl 5 (r0 (.int .u8)) 1 A52 c53 r48, pts b37 (.cells #[.slice A29 y27.length c30, .slice none 0 0, .slice A34 y32.length c35] 22 (0, 0)), osl 5 (r0 (.int .u8)) 1 A23 c24 r19, osl 5 (r0 (.int .u8)) 1 A15 c16 y14] := hS.ext hS51
      refine ⟨(asked.cons (RSt.run (n := 72) (RSt.toStr (src := 22) (dst := 9) (e := 5) (.tmp 41) (by kernel_rfl) (by kernel_rfl) (by kernel_rfl) (by kernel_rfl) (by kernel_rfl) (by kernel_rfl) (Sat.rdAt 2 hS rfl) rfl)) (asked.nil _ _)), ?_⟩
      refine WD.weaken [0, 5, 7, 40, 42, 44] (L' := [(0, .slice A0 l0.length c0), (5, .slice A15 y14.length c16), (7, .slice A23 r19.length c24), (40, .bool false), (42, .string (bs r19)), (44, .slice A52 r48.length c53)]) (by kernel_rfl) ?_
      refine WD.ofR (i := 16) (by kernel_rfl) (RSt.toStr (src := 22) (dst := 9) (e := 5) (.tmp 44) (by kernel_rfl) (by kernel_rfl) (by kernel_rfl) (by kernel_rfl) (by kernel_rfl) (by kernel_rfl) (Sat.rdAt 0 hS rfl) ?_)
      refine WD.weaken [0, 5, 7, 40, 42, 45] (L' := [(0, .slice A0 l0.length c0), (5, .slice A15 y14.length c16), (7, .slice A23 r19.length c24), (40, .bool false), (42, .string (bs r19)), (45, .string (bs r48))]) (by kernel_rfl) ?_
      refine WD.pure (i := 17) (v := .bool (!((bs r19).toList == (bs r48).toList))) (by kernel_rfl) (by kernel_rfl) (fun _ => by kernel_rfl) ?_
      refine WD.weaken [0, 5, 7, 40, 46] (L' := [(0, .slice A0 l0.length c0), (5, .slice A15 y14.length c16), (7, .slice A23 r19.length c24), (40, .bool false), (46, .bool (!((bs r19).toList == (bs r48).toList)))]) (by kernel_rfl) ?_
      refine WD.pure (i := 18) (v := .bool (!((bs r19).toList == (bs r48).toList))) (by kernel_rfl) (by kernel_rfl) (fun _ => by kernel_rfl) ?_
      refine WD.weaken [0, 5, 7, 47] (L' := [(0, .slice A0 l0.length c0), (5, .slice A15 y14.length c16), (7, .slice A23 r19.length c24), (47, .bool (!((bs r19).toList == (bs r48).toList)))]) (by kernel_rfl) ?_
      refine WD.pure (i := 19) (v := .bool (!((bs r19).toList == (bs r48).toList))) (by kernel_rfl) (by kernel_rfl) (fun _ => by kernel_rfl) ?_
      refine WD.weaken [0, 5, 7, 48] (L' := [(0, .slice A0 l0.length c0), (5, .slice A15 y14.length c16), (7, .slice A23 r19.length c24), (48, .bool (!((bs r19).toList == (bs r48).toList)))]) (by kernel_rfl) ?_
      refine WD.split 48 (b := (!((bs r19).toList == (bs r48).toList))) (by kernel_rfl) (fun hb54 => ?_) (fun hb54 => ?_)
      · replace H := ite_t H hb54
        refine WD.weaken [0, 5, 7, 48] (L' := [(0, .slice A0 l0.length c0), (5, .slice A15 y14.length c16), (7, .slice A23 r19.length c24), (48, .bool true)]) (by kernel_rfl) ?_
        refine WD.skip (i := 20) (by kernel_rfl) (by kernel_rfl) ?_
        refine WD.weaken [0, 5, 7, 48, 49] (L' := [(0, .slice A0 l0.length c0), (5, .slice A15 y14.length c16), (7, .slice A23 r19.length c24), (48, .bool true), (49, undef)]) (by kernel_rfl) ?_
        refine WD.skip (i := 21) (by kernel_rfl) (by kernel_rfl) ?_
        refine WD.weaken [0, 5, 7, 48, 50] (L' := [(0, .slice A0 l0.length c0), (5, .slice A15 y14.length c16), (7, .slice A23 r19.length c24), (48, .bool true), (50, undef)]) (by kernel_rfl) ?_
        refine WD.skip (i := 22) (by kernel_rfl) (by kernel_rfl) ?_
        refine WD.weaken [5, 7, 48, 50, 51] (L' := [(5, .slice A15 y14.length c16), (7, .slice A23 r19.length c24), (48, .bool true), (50, undef), (51, undef)]) (by kernel_rfl) ?_
        refine WD.skip (i := 23) (by kernel_rfl) (by kernel_rfl) ?_
        refine WD.weaken [5, 7, 48, 50, 51, 52] (L' := [(5, .slice A15 y14.length c16), (7, .slice A23 r19.length c24), (48, .bool true), (50, undef), (51, undef), (52, undef)]) (by kernel_rfl) ?_
        refine WD.skip (i := 24) (by kernel_rfl) (by kernel_rfl) ?_
        refine WD.weaken [5, 7, 48, 50, 51, 53] (L' := [(5, .slice A15 y14.length c16), (7, .slice A23 r19.length c24), (48, .bool true), (50, undef), (51, undef), (53, undef)]) (by kernel_rfl) ?_
        refine WD.skip (i := 25) (by kernel_rfl) (by kernel_rfl) ?_
        refine WD.weaken [5, 7, 48, 50, 54] (L' := [(5, .slice A15 y14.length c16), (7, .slice A23 r19.length c24), (48, .bool true), (50, undef), (54, undef)]) (by kernel_rfl) ?_
        refine WD.skip (i := 26) (by kernel_rfl) (by kernel_rfl) ?_
        refine WD.weaken [5, 7, 48, 50, 55] (L' := [(5, .slice A15 y14.length c16), (7, .slice A23 r19.length c24), (48, .bool true), (50, undef), (55, undef)]) (by kernel_rfl) ?_
        refine WD.skip (i := 27) (by kernel_rfl) (by kernel_rfl) ?_
        refine WD.weaken [5, 7, 48, 56] (L' := [(5, .slice A15 y14.length c16), (7, .slice A23 r19.length c24), (48, .bool true), (56, undef)]) (by kernel_rfl) ?_
        refine WD.pure (i := 28) (v := .bool true) (by kernel_rfl) (by kernel_rfl) (fun _ => by kernel_rfl) ?_
        refine WD.weaken [5, 7, 57] (L' := [(5, .slice A15 y14.length c16), (7, .slice A23 r19.length c24), (57, .bool true)]) (by kernel_rfl) ?_
        refine WD.nil (by kernel_rfl) ?_
        refine At.go ?_
        refine WC.condT (by kernel_rfl) (by kernel_rfl) (by kernel_rfl) ?_
        refine WC.seq (by kernel_rfl) ?_
        refine WC.reg [0] (by kernel_rfl) (by kernel_rfl) ?_
        refine WR.runk [0] [] [4] (L' := [(4, .bool false)]) (w' := w50) (by kernel_rfl) ?_
        refine WR.nil ?_
        refine At.go ?_
        refine WC.ret (by kernel_rfl) ?_
        refine At.thenRet ?_
        obtain rfl := Option.some.inj H
        have hS : Sat w50 (rf w0) [] := hS.sel [] (by kernel_rfl)
        exact At.body [.bool false] (by kernel_rfl) ⟨_, rfl, rfl, hS⟩
      · replace H := ite_f H hb54
        refine WD.weaken [0, 5, 7, 48] (L' := [(0, .slice A0 l0.length c0), (5, .slice A15 y14.length c16), (7, .slice A23 r19.length c24), (48, .bool false)]) (by kernel_rfl) ?_
        refine WD.pure (i := 20) (v := .slice A15 y14.length c16) (by kernel_rfl) (by kernel_rfl) (fun _ => by kernel_rfl) ?_
        refine WD.weaken [0, 5, 7, 48, 49] (L' := [(0, .slice A0 l0.length c0), (5, .slice A15 y14.length c16), (7, .slice A23 r19.length c24), (48, .bool false), (49, .slice A15 y14.length c16)]) (by kernel_rfl) ?_
        refine WD.ofR (i := 21) (by kernel_rfl) (RSt.toStr (src := 22) (dst := 9) (e := 5) (.tmp 49) (by kernel_rfl) (by kernel_rfl) (by kernel_rfl) (by kernel_rfl) (by kernel_rfl) (by kernel_rfl) (Sat.rdAt 3 hS rfl) ?_)
        refine WD.weaken [0, 5, 7, 48, 50] (L' := [(0, .slice A0 l0.length c0), (5, .slice A15 y14.length c16), (7, .slice A23 r19.length c24), (48, .bool false), (50, .string (bs y14))]) (by kernel_rfl) ?_
        refine WD.pure (i := 22) (v := .slice A0 l0.length c0) (by kernel_rfl) (by kernel_rfl) (fun _ => by kernel_rfl) ?_
        refine WD.weaken [5, 7, 48, 50, 51] (L' := [(5, .slice A15 y14.length c16), (7, .slice A23 r19.length c24), (48, .bool false), (50, .string (bs y14)), (51, .slice A0 l0.length c0)]) (by kernel_rfl) ?_
        refine WD.pure (i := 23) (v := .slice A15 y14.length c16) (by kernel_rfl) (by kernel_rfl) (fun _ => by kernel_rfl) ?_
        refine WD.weaken [5, 7, 48, 50, 51, 52] (L' := [(5, .slice A15 y14.length c16), (7, .slice A23 r19.length c24), (48, .bool false), (50, .string (bs y14)), (51, .slice A0 l0.length c0), (52, .slice A15 y14.length c16)]) (by kernel_rfl) ?_
        refine WD.pure (i := 24) (v := .int .i64 (y14.length : Int)) (by kernel_rfl) (by kernel_rfl) (fun _ => by kernel_rfl) ?_
        refine WD.weaken [5, 7, 48, 50, 51, 53] (L' := [(5, .slice A15 y14.length c16), (7, .slice A23 r19.length c24), (48, .bool false), (50, .string (bs y14)), (51, .slice A0 l0.length c0), (53, .int .i64 (y14.length : Int))]) (by kernel_rfl) ?_
        obtain ⟨y55, e56, H⟩ := bind_ex H
        refine WD.ofP (i := 25) (by kernel_rfl) (PSt.sub (A := A0) (c := c0) (.tmp 51) none (some (.tmp 53)) none (by kernel_rfl) (by kernel_rfl) E22 (by kernel_rfl) (rdS.up R0 hS.sub0).1 e56 rfl (Exists.intro IntKind.i64 (by kernel_rfl)) trivial (fun A57 c58 T59 => ?_))
        refine WD.weaken [5, 7, 48, 50, 54] (L' := [(5, .slice A15 y14.length c16), (7, .slice A23 r19.length c24), (48, .bool false), (50, .string (bs y14)), (54, .slice A57 y55.length c58)]) (by kernel_rfl) ?_
        refine WD.ofR (i := 26) (by kernel_rfl) (RSt.toStr (src := 22) (dst := 9) (e := 5) (.tmp 54) (by kernel_rfl) (by kernel_rfl) (by kernel_rfl) (by kernel_rfl) (by kernel_rfl) (by kernel_rfl) (T59.rd _ _ (rdS.up R0 hS.sub0)) ?_)
        refine WD.weaken [5, 7, 48, 50, 55] (L' := [(5, .slice A15 y14.length c16), (7, .slice A23 r19.length c24), (48, .bool false), (50, .string (bs y14)), (55, .string (bs y55))]) (by kernel_rfl) ?_
        refine WD.pure (i := 27) (v := .bool (!((bs y14).toList == (bs y55).toList))) (by kernel_rfl) (by kernel_rfl) (fun _ => by kernel_rfl) ?_
        refine WD.weaken [5, 7, 48, 56] (L' := [(5, .slice A15 y14.length c16), (7, .slice A23 r19.length c24), (48, .bool false), (56, .bool (!((bs y14).toList == (bs y55).toList)))]) (by kernel_rfl) ?_
        refine WD.pure (i := 28) (v := .bool (!((bs y14).toList == (bs y55).toList))) (by kernel_rfl) (by kernel_rfl) (fun _ => by kernel_rfl) ?_
        refine WD.weaken [5, 7, 57] (L' := [(5, .slice A15 y14.length c16), (7, .slice A23 r19.length c24), (57, .bool (!((bs y14).toList == (bs y55).toList)))]) (by kernel_rfl) ?_
        refine WD.nil (by kernel_rfl) ?_
        refine At.go ?_
        refine WC.cond (by kernel_rfl) (!((bs y14).toList == (bs y55).toList)) (by kernel_rfl) (by kernel_rfl) (fun hb60 => ?_) (fun hb60 => ?_)
        · replace H := ite_t H hb60
          refine WC.seq (by kernel_rfl) ?_
          refine WC.reg [0] (by kernel_rfl) (by kernel_rfl) ?_
          refine WR.runk [0] [] [4] (L' := [(4, .bool false)]) (w' := w50) (by kernel_rfl) ?_
          refine WR.nil ?_
          refine At.go ?_
          refine WC.ret (by kernel_rfl) ?_
          refine At.thenRet ?_
          obtain rfl := Option.some.inj H
          have hS : Sat w50 (rf w0) [] := hS.sel [] (by kernel_rfl)
          exact At.body [.bool false] (by kernel_rfl) ⟨_, rfl, rfl, hS⟩
        · replace H := ite_f H hb60
          refine WC.skip (by kernel_rfl) ?_
          refine At.go ?_
          refine WC.seq (by kernel_rfl) ?_
          refine WC.reg [0, 1, 2, 3, 4, 5, 6] (by kernel_rfl) (by kernel_rfl) ?_
          refine WR.runk [0] [1, 2, 3, 4, 5, 6] [5, 59] (L' := [(5, .slice A15 y14.length c16), (59, .slice A23 r19.length c24)]) (w' := w50) (by kernel_rfl) ?_
          obtain ⟨r61, e62, H⟩ := bind_ex H
          refine WR.st (St.call (by kernel_rfl) (f := 13) (args := #[.slice A23 r19.length c24]) (by kernel_rfl) (crc_Cut.calls w50 A23 c24 r19 (Sat.rdAt 2 hS rfl) r61 e62) ?_)
          rintro _ w63 ⟨A65, c66, rfl, hS64⟩
          have hS : Sat w63 (rf w0) [osl 5 (r0 (.int .u8)) 1 A65 c66 r61.1, osl 5 (r0 (.int .u8)) 1 A52 c53 r48, pts b37 (.cells #[.slice A29 y27.length c30, .slice none 0 0, .slice A34 y32.length c35] 22 (0, 0)), osl 5 (r0 (.int .u8)) 1 A23 c24 r19, osl 5 (r0 (.int .u8)) 1 A15 c16 y14] := hS.ext hS64
          refine WR.runk [2, 3, 4, 5, 6] [] [5, 8, 9] (L' := [(5, .slice A15 y14.length c16), (8, .slice A65 r61.1.length c66), (9, .int .i64 r61.2)]) (w' := w63) (by kernel_rfl) ?_
          refine WR.nil ?_
          refine At.go ?_
          refine WC.seq (by kernel_rfl) ?_
          refine WC.reg [0, 1, 2, 3, 4, 5, 6, 7, 8, 9] (by kernel_rfl) (by kernel_rfl) ?_
          refine WR.runk [0, 1, 2] [3, 4, 5, 6, 7, 8, 9] [5, 8, 65] (L' := [(5, .slice A15 y14.length c16), (8, .slice A65 r61.1.length c66), (65, .bool (r61.2 == 0))]) (w' := w63) (by kernel_rfl) ?_
          refine WR.split 65 (b := (r61.2 == 0)) (by kernel_rfl) (fun hb67 => ?_) (fun hb67 => ?_)
          · replace H := ite_t H hb67
            refine WR.runk [3] [4, 5, 6, 7, 8, 9] [5, 65, 66] (L' := [(5, .slice A15 y14.length c16), (65, .bool true), (66, .slice A65 r61.1.length c66)]) (w' := w63) (by kernel_rfl) ?_
            refine WR.st (St.ofR (RSt.toStr (src := 22) (dst := 9) (e := 5) (.tmp 66) (by kernel_rfl) (by kernel_rfl) (by kernel_rfl) (by kernel_rfl) (by kernel_rfl) (by kernel_rfl) (Sat.rdAt 0 hS rfl) ?_))
            refine WR.runk [5] [6, 7, 8, 9] [65, 67, 68] (L' := [(65, .bool true), (67, .string (bs r61.1)), (68, .slice A15 y14.length c16)]) (w' := w63) (by kernel_rfl) ?_
            refine WR.st (St.ofR (RSt.toStr (src := 22) (dst := 9) (e := 5) (.tmp 68) (by kernel_rfl) (by kernel_rfl) (by kernel_rfl) (by kernel_rfl) (by kernel_rfl) (by kernel_rfl) (Sat.rdAt 4 hS rfl) ?_))
            refine WR.runk [7, 8, 9] [] [4] (L' := [(4, .bool ((bs r61.1).toList == (bs y14).toList))]) (w' := w63) (by kernel_rfl) ?_
            refine WR.nil ?_
            refine At.go ?_
            refine WC.ret (by kernel_rfl) ?_
            obtain rfl := Option.some.inj H
            have hS : Sat w63 (rf w0) [] := hS.sel [] (by kernel_rfl)
            exact At.body [.bool ((bs r61.1).toList == (bs y14).toList)] (by kernel_rfl) ⟨_, rfl, rfl, hS⟩
          · replace H := ite_f H hb67
            refine WR.runk [3, 4, 5, 6, 7, 8, 9] [] [4] (L' := [(4, .bool false)]) (w' := w63) (by kernel_rfl) ?_
            refine WR.nil ?_
            refine At.go ?_
            refine WC.ret (by kernel_rfl) ?_
            obtain rfl := Option.some.inj H
            have hS : Sat w63 (rf w0) [] := hS.sel [] (by kernel_rfl)
            exact At.body [.bool false] (by kernel_rfl) ⟨_, rfl, rfl, hS⟩
/-! ### 4 colophon/colophonlaw04.CrcCuts -/
noncomputable abbrev C4 : Code := Try.f4.body.getD .skip
def colophonlaw04_CrcCuts.f (l0 : List Int) : Option Bool := (colophonlaw04_first.f.bind fun r1 => (if (!r1) then some false else (if decide ((l0.length : Int) > 4000) then some true else ((crc_Cut.f l0).bind fun r7 => (if decide ((l0.length : Int) < 4) then (if (r7.2 == 50) then some ((r7.1.length : Int) == 0) else some false) else ((sub? l0 0 (wi ((l0.length : Int) - 4))).bind fun y17 => ((colophonref04_Put.f y17).bind fun r22 => (if (!((bs r22).toList == (bs l0).toList)) then (if (r7.2 == 40) then some ((r7.1.length : Int) == 0) else some false) else (if (r7.2 == 0) then ((sub? l0 0 (wi ((l0.length : Int) - 4))).bind fun y33 => some ((bs r7.1).toList == (bs y33).toList)) else some false)))))))))
def colophonlaw04_CrcCuts.post (w : World) (r : Bool) (v : Value) (w' : World) : Prop := v = .bool r ∧ Sat w' (rf w) []
theorem colophonlaw04_CrcCuts.calls (w0 : World) (A0 : Option Addr) (c0 : Nat) (l0 : List Int) (R0 : rdS (r0 (.int .u8)) 1 (hp w0) A0 c0 l0) (r : Bool) (H : colophonlaw04_CrcCuts.f l0 = some r) :
    Calls Try.prog 4 #[.slice A0 l0.length c0] w0 (fun e w' => ∃ v, e = .returned v ∧ colophonlaw04_CrcCuts.post w0 r v w') := by
  have hS : Sat w0 (rf w0) [] := Sat.start w0
  unfold colophonlaw04_CrcCuts.f at H
  refine calls_of_WC (vs := [.slice A0 l0.length c0]) Try.func4 (c := C4) (n := 55) (by kernel_rfl) (by kernel_rfl) (by kernel_rfl) ?_
  refine WC.seq (by kernel_rfl) ?_
  refine WC.reg [0] (by kernel_rfl) (by kernel_rfl) ?_
  refine WR.runk [0] [] [0] (L' := [(0, .slice A0 l0.length c0)]) (w' := w0) (by kernel_rfl) ?_
  refine WR.nil ?_
  refine At.go ?_
  refine WC.seq (by kernel_rfl) ?_
  refine WC.seq (by kernel_rfl) ?_
  refine WC.reg [0, 1] (by kernel_rfl) (by kernel_rfl) ?_
  obtain ⟨r1, e2, H⟩ := bind_ex H
  refine WR.st (St.call (by kernel_rfl) (f := 8) (args := #[]) (by kernel_rfl) (colophonlaw04_first.calls w0  r1 e2) ?_)
  rintro _ w3 ⟨rfl, hS4⟩
  have hS : Sat w3 (rf w0) [] := hS.ext hS4
  refine WR.runk [1] [] [0, 6] (L' := [(0, .slice A0 l0.length c0), (6, .bool (!r1))]) (w' := w3) (by kernel_rfl) ?_
  refine WR.nil ?_
  refine At.go ?_
  refine WC.cond (by kernel_rfl) (!r1) (by kernel_rfl) (by kernel_rfl) (fun hb5 => ?_) (fun hb5 => ?_)
  · replace H := ite_t H hb5
    refine WC.seq (by kernel_rfl) ?_
    refine WC.reg [0] (by kernel_rfl) (by kernel_rfl) ?_
    refine WR.runk [0] [] [2] (L' := [(2, .bool false)]) (w' := w3) (by kernel_rfl) ?_
    refine WR.nil ?_
    refine At.go ?_
    refine WC.ret (by kernel_rfl) ?_
    refine At.thenRet ?_
    obtain rfl := Option.some.inj H
    have hS : Sat w3 (rf w0) [] := hS.sel [] (by kernel_rfl)
    exact At.body [.bool false] (by kernel_rfl) ⟨_, rfl, rfl, hS⟩
  · replace H := ite_f H hb5
    refine WC.skip (by kernel_rfl) ?_
    refine At.go ?_
    refine WC.seq (by kernel_rfl) ?_
    refine WC.seq (by kernel_rfl) ?_
    refine WC.reg [0, 1, 2] (by kernel_rfl) (by kernel_rfl) ?_
    refine WR.runk [0, 1, 2] [] [0, 9] (L' := [(0, .slice A0 l0.length c0), (9, .bool (decide ((l0.length : Int) > 4000)))]) (w' := w3) (by kernel_rfl) ?_
    refine WR.nil ?_
    refine At.go ?_
    refine WC.cond (by kernel_rfl) (decide ((l0.length : Int) > 4000)) (by kernel_rfl) (by kernel_rfl) (fun hb6 => ?_) (fun hb6 => ?_)
    · replace H := ite_t H hb6
      refine WC.seq (by kernel_rfl) ?_
      refine WC.reg [0] (by kernel_rfl) (by kernel_rfl) ?_
      refine WR.runk [0] [] [2] (L' := [(2, .bool true)]) (w' := w3) (by kernel_rfl) ?_
      refine WR.nil ?_
      refine At.go ?_
      refine WC.ret (by kernel_rfl) ?_
      refine At.thenRet ?_
      obtain rfl := Option.some.inj H
      have hS : Sat w3 (rf w0) [] := hS.sel [] (by kernel_rfl)
      exact At.body [.bool true] (by kernel_rfl) ⟨_, rfl, rfl, hS⟩
    · replace H := ite_f H hb6
      refine WC.skip (by kernel_rfl) ?_
      refine At.go ?_
      refine WC.seq (by kernel_rfl) ?_
      refine WC.reg [0, 1, 2, 3, 4, 5, 6] (by kernel_rfl) (by kernel_rfl) ?_
      refine WR.runk [0] [1, 2, 3, 4, 5, 6] [0, 11] (L' := [(0, .slice A0 l0.length c0), (11, .slice A0 l0.length c0)]) (w' := w3) (by kernel_rfl) ?_
      obtain ⟨r7, e8, H⟩ := bind_ex H
      refine WR.st (St.call (by kernel_rfl) (f := 13) (args := #[.slice A0 l0.length c0]) (by kernel_rfl) (crc_Cut.calls w3 A0 c0 l0 (rdS.up R0 hS.sub0) r7 e8) ?_)
      rintro _ w9 ⟨A11, c12, rfl, hS10⟩
      have hS : Sat w9 (rf w0) [osl 5 (r0 (.int .u8)) 1 A11 c12 r7.1] := hS.ext hS10
      refine WR.runk [2, 3, 4, 5, 6] [] [0, 3, 4] (L' := [(0, .slice A0 l0.length c0), (3, .slice A11 r7.1.length c12), (4, .int .i64 r7.2)]) (w' := w9) (by kernel_rfl) ?_
      refine WR.nil ?_
      refine At.go ?_
      refine WC.seq (by kernel_rfl) ?_
      refine WC.seq (by kernel_rfl) ?_
      refine WC.reg [0, 1, 2] (by kernel_rfl) (by kernel_rfl) ?_
      refine WR.runk [0, 1, 2] [] [0, 3, 4, 17] (L' := [(0, .slice A0 l0.length c0), (3, .slice A11 r7.1.length c12), (4, .int .i64 r7.2), (17, .bool (decide ((l0.length : Int) < 4)))]) (w' := w9) (by kernel_rfl) ?_
      refine WR.nil ?_
      refine At.go ?_
      refine WC.cond (by kernel_rfl) (decide ((l0.length : Int) < 4)) (by kernel_rfl) (by kernel_rfl) (fun hb13 => ?_) (fun hb13 => ?_)
      · replace H := ite_t H hb13
        refine WC.seq (by kernel_rfl) ?_
        refine WC.reg [0, 1, 2, 3, 4, 5, 6, 7] (by kernel_rfl) (by kernel_rfl) ?_
        refine WR.runk [0, 1, 2] [3, 4, 5, 6, 7] [3, 20] (L' := [(3, .slice A11 r7.1.length c12), (20, .bool (r7.2 == 50))]) (w' := w9) (by kernel_rfl) ?_
        refine WR.split 20 (b := (r7.2 == 50)) (by kernel_rfl) (fun hb14 => ?_) (fun hb14 => ?_)
        · replace H := ite_t H hb14
          refine WR.runk [3, 4, 5, 6, 7] [] [2] (L' := [(2, .bool ((r7.1.length : Int) == 0))]) (w' := w9) (by kernel_rfl) ?_
          refine WR.nil ?_
          refine At.go ?_
          refine WC.ret (by kernel_rfl) ?_
          refine At.thenRet ?_
          obtain rfl := Option.some.inj H
          have hS : Sat w9 (rf w0) [] := hS.sel [] (by kernel_rfl)
          exact At.body [.bool ((r7.1.length : Int) == 0)] (by kernel_rfl) ⟨_, rfl, rfl, hS⟩
        · replace H := ite_f H hb14
          refine WR.runk [3, 4, 5, 6, 7] [] [2] (L' := [(2, .bool false)]) (w' := w9) (by kernel_rfl) ?_
          refine WR.nil ?_
          refine At.go ?_
          refine WC.ret (by kernel_rfl) ?_
          refine At.thenRet ?_
          obtain rfl := Option.some.inj H
          have hS : Sat w9 (rf w0) [] := hS.sel [] (by kernel_rfl)
          exact At.body [.bool false] (by kernel_rfl) ⟨_, rfl, rfl, hS⟩
      · replace H := ite_f H hb13
        refine WC.skip (by kernel_rfl) ?_
        refine At.go ?_
        refine WC.seq (by kernel_rfl) ?_
        refine WC.seq (by kernel_rfl) ?_
        refine WC.drawn (by kernel_rfl) (by kernel_rfl) 10 (by kernel_rfl) (fun w15 hw16 => ?_)
        have hS := hS.heap hw16.1 hw16.2
        refine WD.weaken [0, 3, 4] (L' := [(0, .slice A0 l0.length c0), (3, .slice A11 r7.1.length c12), (4, .int .i64 r7.2)]) (by kernel_rfl) ?_
        refine WD.pure (i := 0) (v := .slice A0 l0.length c0) (by kernel_rfl) (by kernel_rfl) (fun _ => by kernel_rfl) ?_
        refine WD.weaken [0, 3, 4, 25] (L' := [(0, .slice A0 l0.length c0), (3, .slice A11 r7.1.length c12), (4, .int .i64 r7.2), (25, .slice A0 l0.length c0)]) (by kernel_rfl) ?_
        refine WD.pure (i := 1) (v := .slice A0 l0.length c0) (by kernel_rfl) (by kernel_rfl) (fun _ => by kernel_rfl) ?_
        refine WD.weaken [0, 3, 4, 25, 26] (L' := [(0, .slice A0 l0.length c0), (3, .slice A11 r7.1.length c12), (4, .int .i64 r7.2), (25, .slice A0 l0.length c0), (26, .slice A0 l0.length c0)]) (by kernel_rfl) ?_
        refine WD.pure (i := 2) (v := .int .i64 (l0.length : Int)) (by kernel_rfl) (by kernel_rfl) (fun _ => by kernel_rfl) ?_
        refine WD.weaken [0, 3, 4, 25, 27] (L' := [(0, .slice A0 l0.length c0), (3, .slice A11 r7.1.length c12), (4, .int .i64 r7.2), (25, .slice A0 l0.length c0), (27, .int .i64 (l0.length : Int))]) (by kernel_rfl) ?_
        refine WD.pure (i := 3) (v := .int .i64 (wi ((l0.length : Int) - 4))) (by kernel_rfl) (by kernel_rfl) (fun _ => by kernel_rfl) ?_
        refine WD.weaken [0, 3, 4, 25, 28] (L' := [(0, .slice A0 l0.length c0), (3, .slice A11 r7.1.length c12), (4, .int .i64 r7.2), (25, .slice A0 l0.length c0), (28, .int .i64 (wi ((l0.length : Int) - 4)))]) (by kernel_rfl) ?_
        obtain ⟨y17, e18, H⟩ := bind_ex H
        refine WD.ofP (i := 4) (by kernel_rfl) (PSt.sub (A := A0) (c := c0) (.tmp 25) none (some (.tmp 28)) none (by kernel_rfl) (by kernel_rfl) E22 (by kernel_rfl) (rdS.up R0 hS.sub0).1 e18 rfl (Exists.intro IntKind.i64 (by kernel_rfl)) trivial (fun A19 c20 T21 => ?_))
        refine WD.weaken [0, 3, 4, 29] (L' := [(0, .slice A0 l0.length c0), (3, .slice A11 r7.1.length c12), (4, .int .i64 r7.2), (29, .slice A19 y17.length c20)]) (by kernel_rfl) ?_
        refine WD.pure (i := 7) (v := .slice A0 l0.length c0) (by kernel_rfl) (by kernel_rfl) (fun _ => by kernel_rfl) ?_
        refine WD.weaken [0, 3, 4, 29, 32] (L' := [(0, .slice A0 l0.length c0), (3, .slice A11 r7.1.length c12), (4, .int .i64 r7.2), (29, .slice A19 y17.length c20), (32, .slice A0 l0.length c0)]) (by kernel_rfl) ?_
        refine WD.ofR (i := 8) (by kernel_rfl) (RSt.toStr (src := 22) (dst := 9) (e := 5) (.tmp 32) (by kernel_rfl) (by kernel_rfl) (by kernel_rfl) (by kernel_rfl) (by kernel_rfl) (by kernel_rfl) (rdS.up R0 hS.sub0) ?_)
        refine WD.weaken [0, 3, 4, 29, 33] (L' := [(0, .slice A0 l0.length c0), (3, .slice A11 r7.1.length c12), (4, .int .i64 r7.2), (29, .slice A19 y17.length c20), (33, .string (bs l0))]) (by kernel_rfl) ?_
        obtain ⟨r22, e23, H⟩ := bind_ex H
        refine WD.act (i := 5) (by kernel_rfl) (St.call (by kernel_rfl) (f := 12) (args := #[.slice A19 y17.length c20]) (by kernel_rfl) (colophonref04_Put.calls w15 A19 c20 y17 (T21.rd _ _ (rdS.up R0 hS.sub0)) r22 e23) ?_)
        rintro _ w24 ⟨A26, c27, rfl, hS25⟩
        have hS : Sat w24 (rf w0) [osl 5 (r0 (.int .u8)) 1 A26 c27 r22, osl 5 (r0 (.int .u8)) 1 A11 c12 r7.1] := hS.ext hS25
        refine ⟨(asked.cons (RSt.run (n := 55) (RSt.toStr (src := 22) (dst := 9) (e := 5) (.tmp 32) (by kernel_rfl) (by kernel_rfl) (by kernel_rfl) (by kernel_rfl) (by kernel_rfl) (by kernel_rfl) (rdS.up R0 hS.sub0) rfl)) (asked.nil _ _)), ?_⟩
        refine WD.weaken [0, 3, 4, 30, 33] (L' := [(0, .slice A0 l0.length c0), (3, .slice A11 r7.1.length c12), (4, .int .i64 r7.2), (30, .slice A26 r22.length c27), (33, .string (bs l0))]) (by kernel_rfl) ?_
        refine WD.ofR (i := 6) (by kernel_rfl) (RSt.toStr (src := 22) (dst := 9) (e := 5) (.tmp 30) (by kernel_rfl) (by kernel_rfl) (by kernel_rfl) (by kernel_rfl) (by kernel_rfl) (by kernel_rfl) (Sat.rdAt 0 hS rfl) ?_)
        refine WD.weaken [0, 3, 4, 31, 33] (L' := [(0, .slice A0 l0.length c0), (3, .slice A11 r7.1.length c12), (4, .int .i64 r7.2), (31, .string (bs r22)), (33, .string (bs l0))]) (by kernel_rfl) ?_
        refine WD.pure (i := 9) (v := .bool (!((bs r22).toList == (bs l0).toList))) (by kernel_rfl) (by kernel_rfl) (fun _ => by kernel_rfl) ?_
        refine WD.weaken [0, 3, 4, 34] (L' := [(0, .slice A0 l0.length c0), (3, .slice A11 r7.1.length c12), (4, .int .i64 r7.2), (34, .bool (!((bs r22).toList == (bs l0).toList)))]) (by kernel_rfl) ?_
        refine WD.nil (by kernel_rfl) ?_
        refine At.go ?_
        refine WC.cond (by kernel_rfl) (!((bs r22).toList == (bs l0).toList)) (by kernel_rfl) (by kernel_rfl) (fun hb28 => ?_) (fun hb28 => ?_)
        · replace H := ite_t H hb28
          refine WC.seq (by kernel_rfl) ?_
          refine WC.reg [0, 1, 2, 3, 4, 5, 6, 7] (by kernel_rfl) (by kernel_rfl) ?_
          refine WR.runk [0, 1, 2] [3, 4, 5, 6, 7] [3, 37] (L' := [(3, .slice A11 r7.1.length c12), (37, .bool (r7.2 == 40))]) (w' := w24) (by kernel_rfl) ?_
          refine WR.split 37 (b := (r7.2 == 40)) (by kernel_rfl) (fun hb29 => ?_) (fun hb29 => ?_)
          · replace H := ite_t H hb29
            refine WR.runk [3, 4, 5, 6, 7] [] [2] (L' := [(2, .bool ((r7.1.length : Int) == 0))]) (w' := w24) (by kernel_rfl) ?_
            refine WR.nil ?_
            refine At.go ?_
            refine WC.ret (by kernel_rfl) ?_
            refine At.thenRet ?_
            obtain rfl := Option.some.inj H
            have hS : Sat w24 (rf w0) [] := hS.sel [] (by kernel_rfl)
            exact At.body [.bool ((r7.1.length : Int) == 0)] (by kernel_rfl) ⟨_, rfl, rfl, hS⟩
          · replace H := ite_f H hb29
            refine WR.runk [3, 4, 5, 6, 7] [] [2] (L' := [(2, .bool false)]) (w' := w24) (by kernel_rfl) ?_
            refine WR.nil ?_
            refine At.go ?_
            refine WC.ret (by kernel_rfl) ?_
            refine At.thenRet ?_
            obtain rfl := Option.some.inj H
            have hS : Sat w24 (rf w0) [] := hS.sel [] (by kernel_rfl)
            exact At.body [.bool false] (by kernel_rfl) ⟨_, rfl, rfl, hS⟩
        · replace H := ite_f H hb28
          refine WC.skip (by kernel_rfl) ?_
          refine At.go ?_
          refine WC.seq (by kernel_rfl) ?_
          refine WC.drawn (by kernel_rfl) (by kernel_rfl) 14 (by kernel_rfl) (fun w30 hw31 => ?_)
          have hS := hS.heap hw31.1 hw31.2
          refine WD.weaken [0, 3, 4] (L' := [(0, .slice A0 l0.length c0), (3, .slice A11 r7.1.length c12), (4, .int .i64 r7.2)]) (by kernel_rfl) ?_
          refine WD.pure (i := 0) (v := .int .i64 r7.2) (by kernel_rfl) (by kernel_rfl) (fun _ => by kernel_rfl) ?_
          refine WD.weaken [0, 3, 42] (L' := [(0, .slice A0 l0.length c0), (3, .slice A11 r7.1.length c12), (42, .int .i64 r7.2)]) (by kernel_rfl) ?_
          refine WD.pure (i := 1) (v := .bool (r7.2 == 0)) (by kernel_rfl) (by kernel_rfl) (fun _ => by kernel_rfl) ?_
          refine WD.weaken [0, 3, 43] (L' := [(0, .slice A0 l0.length c0), (3, .slice A11 r7.1.length c12), (43, .bool (r7.2 == 0))]) (by kernel_rfl) ?_
          refine WD.pure (i := 2) (v := .bool (r7.2 == 0)) (by kernel_rfl) (by kernel_rfl) (fun _ => by kernel_rfl) ?_
          refine WD.weaken [0, 3, 44] (L' := [(0, .slice A0 l0.length c0), (3, .slice A11 r7.1.length c12), (44, .bool (r7.2 == 0))]) (by kernel_rfl) ?_
          refine WD.split 44 (b := (r7.2 == 0)) (by kernel_rfl) (fun hb32 => ?_) (fun hb32 => ?_)
          · replace H := ite_t H hb32
            refine WD.weaken [0, 3, 44] (L' := [(0, .slice A0 l0.length c0), (3, .slice A11 r7.1.length c12), (44, .bool true)]) (by kernel_rfl) ?_
            refine WD.pure (i := 3) (v := .slice A11 r7.1.length c12) (by kernel_rfl) (by kernel_rfl) (fun _ => by kernel_rfl) ?_
            refine WD.weaken [0, 44, 45] (L' := [(0, .slice A0 l0.length c0), (44, .bool true), (45, .slice A11 r7.1.length c12)]) (by kernel_rfl) ?_
            refine WD.ofR (i := 4) (by kernel_rfl) (RSt.toStr (src := 22) (dst := 9) (e := 5) (.tmp 45) (by kernel_rfl) (by kernel_rfl) (by kernel_rfl) (by kernel_rfl) (by kernel_rfl) (by kernel_rfl) (Sat.rdAt 1 hS rfl) ?_)
            refine WD.weaken [0, 44, 46] (L' := [(0, .slice A0 l0.length c0), (44, .bool true), (46, .string (bs r7.1))]) (by kernel_rfl) ?_
            refine WD.pure (i := 5) (v := .slice A0 l0.length c0) (by kernel_rfl) (by kernel_rfl) (fun _ => by kernel_rfl) ?_
            refine WD.weaken [0, 44, 46, 47] (L' := [(0, .slice A0 l0.length c0), (44, .bool true), (46, .string (bs r7.1)), (47, .slice A0 l0.length c0)]) (by kernel_rfl) ?_
            refine WD.pure (i := 6) (v := .slice A0 l0.length c0) (by kernel_rfl) (by kernel_rfl) (fun _ => by kernel_rfl) ?_
            refine WD.weaken [44, 46, 47, 48] (L' := [(44, .bool true), (46, .string (bs r7.1)), (47, .slice A0 l0.length c0), (48, .slice A0 l0.length c0)]) (by kernel_rfl) ?_
            refine WD.pure (i := 7) (v := .int .i64 (l0.length : Int)) (by kernel_rfl) (by kernel_rfl) (fun _ => by kernel_rfl) ?_
            refine WD.weaken [44, 46, 47, 49] (L' := [(44, .bool true), (46, .string (bs r7.1)), (47, .slice A0 l0.length c0), (49, .int .i64 (l0.length : Int))]) (by kernel_rfl) ?_
            refine WD.pure (i := 8) (v := .int .i64 (wi ((l0.length : Int) - 4))) (by kernel_rfl) (by kernel_rfl) (fun _ => by kernel_rfl) ?_
            refine WD.weaken [44, 46, 47, 50] (L' := [(44, .bool true), (46, .string (bs r7.1)), (47, .slice A0 l0.length c0), (50, .int .i64 (wi ((l0.length : Int) - 4)))]) (by kernel_rfl) ?_
            obtain ⟨y33, e34, H⟩ := bind_ex H
            refine WD.ofP (i := 9) (by kernel_rfl) (PSt.sub (A := A0) (c := c0) (.tmp 47) none (some (.tmp 50)) none (by kernel_rfl) (by kernel_rfl) E22 (by kernel_rfl) (rdS.up R0 hS.sub0).1 e34 rfl (Exists.intro IntKind.i64 (by kernel_rfl)) trivial (fun A35 c36 T37 => ?_))
            refine WD.weaken [44, 46, 51] (L' := [(44, .bool true), (46, .string (bs r7.1)), (51, .slice A35 y33.length c36)]) (by kernel_rfl) ?_
            refine WD.ofR (i := 10) (by kernel_rfl) (RSt.toStr (src := 22) (dst := 9) (e := 5) (.tmp 51) (by kernel_rfl) (by kernel_rfl) (by kernel_rfl) (by kernel_rfl) (by kernel_rfl) (by kernel_rfl) (T37.rd _ _ (rdS.up R0 hS.sub0)) ?_)
            refine WD.weaken [44, 46, 52] (L' := [(44, .bool true), (46, .string (bs r7.1)), (52, .string (bs y33))]) (by kernel_rfl) ?_
            refine WD.pure (i := 11) (v := .bool ((bs r7.1).toList == (bs y33).toList)) (by kernel_rfl) (by kernel_rfl) (fun _ => by kernel_rfl) ?_
            refine WD.weaken [44, 53] (L' := [(44, .bool true), (53, .bool ((bs r7.1).toList == (bs y33).toList))]) (by kernel_rfl) ?_
            refine WD.pure (i := 12) (v := .bool ((bs r7.1).toList == (bs y33).toList)) (by kernel_rfl) (by kernel_rfl) (fun _ => by kernel_rfl) ?_
            refine WD.weaken [54] (L' := [(54, .bool ((bs r7.1).toList == (bs y33).toList))]) (by kernel_rfl) ?_
            refine WD.pure (i := 13) (v := .bool ((bs r7.1).toList == (bs y33).toList)) (by kernel_rfl) (by kernel_rfl) (fun _ => by kernel_rfl) ?_
            refine WD.weaken [2] (L' := [(2, .bool ((bs r7.1).toList == (bs y33).toList))]) (by kernel_rfl) ?_
            refine WD.nil (by kernel_rfl) ?_
            refine At.go ?_
            refine WC.ret (by kernel_rfl) ?_
            obtain rfl := Option.some.inj H
            have hS : Sat w30 (rf w0) [] := hS.sel [] (by kernel_rfl)
            exact At.body [.bool ((bs r7.1).toList == (bs y33).toList)] (by kernel_rfl) ⟨_, rfl, rfl, hS⟩
          · replace H := ite_f H hb32
            refine WD.weaken [0, 3, 44] (L' := [(0, .slice A0 l0.length c0), (3, .slice A11 r7.1.length c12), (44, .bool false)]) (by kernel_rfl) ?_
            refine WD.skip (i := 3) (by kernel_rfl) (by kernel_rfl) ?_
            refine WD.weaken [0, 44, 45] (L' := [(0, .slice A0 l0.length c0), (44, .bool false), (45, undef)]) (by kernel_rfl) ?_
            refine WD.skip (i := 4) (by kernel_rfl) (by kernel_rfl) ?_
            refine WD.weaken [0, 44, 46] (L' := [(0, .slice A0 l0.length c0), (44, .bool false), (46, undef)]) (by kernel_rfl) ?_
            refine WD.skip (i := 5) (by kernel_rfl) (by kernel_rfl) ?_
            refine WD.weaken [0, 44, 46, 47] (L' := [(0, .slice A0 l0.length c0), (44, .bool false), (46, undef), (47, undef)]) (by kernel_rfl) ?_
            refine WD.skip (i := 6) (by kernel_rfl) (by kernel_rfl) ?_
            refine WD.weaken [44, 46, 47, 48] (L' := [(44, .bool false), (46, undef), (47, undef), (48, undef)]) (by kernel_rfl) ?_
            refine WD.skip (i := 7) (by kernel_rfl) (by kernel_rfl) ?_
            refine WD.weaken [44, 46, 47, 49] (L' := [(44, .bool false), (46, undef), (47, undef), (49, undef)]) (by kernel_rfl) ?_
            refine WD.skip (i := 8) (by kernel_rfl) (by kernel_rfl) ?_
            refine WD.weaken [44, 46, 47, 50] (L' := [(44, .bool false), (46, undef), (47, undef), (50, undef)]) (by kernel_rfl) ?_
            refine WD.skip (i := 9) (by kernel_rfl) (by kernel_rfl) ?_
            refine WD.weaken [44, 46, 51] (L' := [(44, .bool false), (46, undef), (51, undef)]) (by kernel_rfl) ?_
            refine WD.skip (i := 10) (by kernel_rfl) (by kernel_rfl) ?_
            refine WD.weaken [44, 46, 52] (L' := [(44, .bool false), (46, undef), (52, undef)]) (by kernel_rfl) ?_
            refine WD.skip (i := 11) (by kernel_rfl) (by kernel_rfl) ?_
            refine WD.weaken [44, 53] (L' := [(44, .bool false), (53, undef)]) (by kernel_rfl) ?_
            refine WD.pure (i := 12) (v := .bool false) (by kernel_rfl) (by kernel_rfl) (fun _ => by kernel_rfl) ?_
            refine WD.weaken [54] (L' := [(54, .bool false)]) (by kernel_rfl) ?_
            refine WD.pure (i := 13) (v := .bool false) (by kernel_rfl) (by kernel_rfl) (fun _ => by kernel_rfl) ?_
            refine WD.weaken [2] (L' := [(2, .bool false)]) (by kernel_rfl) ?_
            refine WD.nil (by kernel_rfl) ?_
            refine At.go ?_
            refine WC.ret (by kernel_rfl) ?_
            obtain rfl := Option.some.inj H
            have hS : Sat w30 (rf w0) [] := hS.sel [] (by kernel_rfl)
            exact At.body [.bool false] (by kernel_rfl) ⟨_, rfl, rfl, hS⟩
/-! ### 5 colophon/colophonlaw04.CrcRows -/
noncomputable abbrev C5 : Code := Try.f5.body.getD .skip
def colophonlaw04_CrcRows.l1 (a1 : Int) (a2 : Int) (r11 : (List Int)) : Nat → (List Int) → Int → Option (List Int)
  | 0, _, _ => none
  | k + 1, x7_l1, x9_l1 => (if decide (x9_l1 < 32) then (if ((iand .u32 (ishr .u32 a2 (IntKind.wrap .u64 x9_l1)) 1) == 1) then ((at? x7_l1 (wi (Int.tdiv (wi ((wi (Int.tmod (IntKind.wrap .u64 a1) (IntKind.wrap .u64 (wi ((wi (8 * (r11.length : Int))) - 31))))) + x9_l1)) 8))).bind fun v22 => ((set? x7_l1 (wi (Int.tdiv (wi ((wi (Int.tmod (IntKind.wrap .u64 a1) (IntKind.wrap .u64 (wi ((wi (8 * (r11.length : Int))) - 31))))) + x9_l1)) 8)) (ixor .u8 v22 (ishl .u8 1 (IntKind.wrap .u64 (Int.tmod (wi ((wi (Int.tmod (IntKind.wrap .u64 a1) (IntKind.wrap .u64 (wi ((wi (8 * (r11.length : Int))) - 31))))) + x9_l1)) 8))))).bind fun y24 => colophonlaw04_CrcRows.l1 a1 a2 r11 k y24 (wi (x9_l1 + 1)))) else colophonlaw04_CrcRows.l1 a1 a2 r11 k x7_l1 (wi (x9_l1 + 1))) else some x7_l1)
def colophonlaw04_CrcRows.f (l0 : List Int) (a1 : Int) (a2 : Int) : Option Bool := (colophonlaw04_first.f.bind fun r1 => (if (!r1) then some false else ((sub? l0 0 (imin (l0.length : Int) 2000)).bind fun y6 => ((crc_Put.f y6).bind fun r11 => (if (a2 == 0) then some (decide ((r11.length : Int) ≥ 4)) else (if decide ((r11.length : Int) < 4) then some (decide ((r11.length : Int) ≥ 4)) else ((chk? (decide ((IntKind.wrap .u64 (wi ((wi (8 * (r11.length : Int))) - 31))) ≠ 0))).bind fun _ => ((colophonlaw04_CrcRows.l1 a1 a2 r11 FU r11 0).bind fun o28 => ((crc_Cut.f o28).bind fun r33 => (if (r33.2 == 40) then some ((r33.1.length : Int) == 0) else some false))))))))))
def colophonlaw04_CrcRows.post (w : World) (r : Bool) (v : Value) (w' : World) : Prop := v = .bool r ∧ Sat w' (rf w) []
theorem colophonlaw04_CrcRows.l1_ok {Q} (w0 : World) (a1 : Int) (a2 : Int) (r11 : (List Int)) (out : (List Int)) (hn0 : ∀ (A7_q : Option Addr) (c7_q : Nat) (w : World), Sat w (rf w0) [osl 5 (r0 (.int .u8)) 1 A7_q c7_q out] → At Q (.exit 0) 76 [(7, .slice A7_q out.length c7_q)] w) :
    ∀ (k : Nat) (x7_l1 : List Int) (x9_l1 : Int) (A7_l1 : Option Addr) (c7_l1 : Nat) (w : World), Sat w (rf w0) [osl 5 (r0 (.int .u8)) 1 A7_l1 c7_l1 x7_l1] → colophonlaw04_CrcRows.l1 a1 a2 r11 k x7_l1 x9_l1 = some out → WL Try.prog (cbody (cbody (cr (cl (cr (cr (cr (cr (cr C5))))))))) Q 76 [(2, .int .u32 a2), (7, .slice A7_l1 x7_l1.length c7_l1), (8, .int .i64 (wi (Int.tmod (IntKind.wrap .u64 a1) (IntKind.wrap .u64 (wi ((wi (8 * (r11.length : Int))) - 31)))))), (9, .int .i64 x9_l1)] w := by
  intro k
  induction k with
  | zero => intro x7_l1 x9_l1 A7_l1 c7_l1 w hS H; exact absurd (show none = some out from H) (by simp)
  | succ k ih =>
    intro x7_l1 x9_l1 A7_l1 c7_l1 w hS H
    unfold colophonlaw04_CrcRows.l1 at H
    refine WL.round ?_
    refine WC.seq (by kernel_rfl) ?_
    refine WC.seq (by kernel_rfl) ?_
    refine WC.reg [0, 1] (by kernel_rfl) (by kernel_rfl) ?_
    refine WR.runk [0, 1] [] [2, 7, 8, 9, 40] (L' := [(2, .int .u32 a2), (7, .slice A7_l1 x7_l1.length c7_l1), (8, .int .i64 (wi (Int.tmod (IntKind.wrap .u64 a1) (IntKind.wrap .u64 (wi ((wi (8 * (r11.length : Int))) - 31)))))), (9, .int .i64 x9_l1), (40, .bool (decide (x9_l1 < 32)))]) (w' := w) (by kernel_rfl) ?_
    refine WR.nil ?_
    refine At.go ?_
    refine WC.cond (by kernel_rfl) (decide (x9_l1 < 32)) (by kernel_rfl) (by kernel_rfl) (fun hb20 => ?_) (fun hb20 => ?_)
    · replace H := ite_t H hb20
      refine WC.skip (by kernel_rfl) ?_
      refine At.go ?_
      refine WC.seq (by kernel_rfl) ?_
      refine WC.block (by kernel_rfl) ?_
      refine WC.seq (by kernel_rfl) ?_
      refine WC.reg [0, 1, 2, 3, 4, 5] (by kernel_rfl) (by kernel_rfl) ?_
      refine WR.runk [0, 1, 2] [3, 4, 5] [2, 7, 8, 9, 43, 45] (L' := [(2, .int .u32 a2), (7, .slice A7_l1 x7_l1.length c7_l1), (8, .int .i64 (wi (Int.tmod (IntKind.wrap .u64 a1) (IntKind.wrap .u64 (wi ((wi (8 * (r11.length : Int))) - 31)))))), (9, .int .i64 x9_l1), (43, .int .u32 a2), (45, .int .u64 (IntKind.wrap .u64 x9_l1))]) (w' := w) (by kernel_rfl) ?_
      refine WR.st (St.ofP (PSt.shift (k := .u32) (k2 := .u64) (t := 26) (t2 := 24) (a := a2) (b := (IntKind.wrap .u64 x9_l1)) .shr (by decide) (.tmp 43) (.tmp 45) (by kernel_rfl) (by kernel_rfl) (by kernel_rfl) (by kernel_rfl) (wrap_u64_nonneg _) ?_))
      refine WR.runk [4, 5] [] [2, 7, 8, 9, 48] (L' := [(2, .int .u32 a2), (7, .slice A7_l1 x7_l1.length c7_l1), (8, .int .i64 (wi (Int.tmod (IntKind.wrap .u64 a1) (IntKind.wrap .u64 (wi ((wi (8 * (r11.length : Int))) - 31)))))), (9, .int .i64 x9_l1), (48, .bool ((iand .u32 (ishr .u32 a2 (IntKind.wrap .u64 x9_l1)) 1) == 1))]) (w' := w) (by kernel_rfl) ?_
      refine WR.nil ?_
      refine At.go ?_
      refine WC.cond (by kernel_rfl) ((iand .u32 (ishr .u32 a2 (IntKind.wrap .u64 x9_l1)) 1) == 1) (by kernel_rfl) (by kernel_rfl) (fun hb21 => ?_) (fun hb21 => ?_)
      · replace H := ite_t H hb21
        refine WC.reg [0, 1, 2, 3, 4, 5, 6, 7, 8, 9, 10, 11, 12, 13, 14, 15] (by kernel_rfl) (by kernel_rfl) ?_
        refine WR.runk [0, 1, 2, 3, 4] [5, 6, 7, 8, 9, 10, 11, 12, 13, 14, 15] [2, 7, 8, 9, 49, 53] (L' := [(2, .int .u32 a2), (7, .slice A7_l1 x7_l1.length c7_l1), (8, .int .i64 (wi (Int.tmod (IntKind.wrap .u64 a1) (IntKind.wrap .u64 (wi ((wi (8 * (r11.length : Int))) - 31)))))), (9, .int .i64 x9_l1), (49, .slice A7_l1 x7_l1.length c7_l1), (53, .int .i64 (wi (Int.tdiv (wi ((wi (Int.tmod (IntKind.wrap .u64 a1) (IntKind.wrap .u64 (wi ((wi (8 * (r11.length : Int))) - 31))))) + x9_l1)) 8)))]) (w' := w) (by kernel_rfl) ?_
        obtain ⟨v22, e23, H⟩ := bind_ex H
        refine WR.st (St.ofP (PSt.idx (k := .i64) (.tmp 49) (.tmp 53) (by kernel_rfl) (by kernel_rfl) E22 (by kernel_rfl) (by kernel_rfl) (Sat.rdAt 0 hS rfl) e23 ?_))
        refine WR.runk [] [6, 7, 8, 9, 10, 11, 12, 13, 14, 15] [2, 7, 8, 9, 49, 53, 54] (L' := [(2, .int .u32 a2), (7, .slice A7_l1 x7_l1.length c7_l1), (8, .int .i64 (wi (Int.tmod (IntKind.wrap .u64 a1) (IntKind.wrap .u64 (wi ((wi (8 * (r11.length : Int))) - 31)))))), (9, .int .i64 x9_l1), (49, .slice A7_l1 x7_l1.length c7_l1), (53, .int .i64 (wi (Int.tdiv (wi ((wi (Int.tmod (IntKind.wrap .u64 a1) (IntKind.wrap .u64 (wi ((wi (8 * (r11.length : Int))) - 31))))) + x9_l1)) 8))), (54, .pointer (some (adr A7_l1 (wi (Int.tdiv (wi ((wi (Int.tmod (IntKind.wrap .u64 a1) (IntKind.wrap .u64 (wi ((wi (8 * (r11.length : Int))) - 31))))) + x9_l1)) 8)).toNat 1)))]) (w' := w) (by kernel_rfl) ?_
        refine WR.st (St.ofR (RSt.loadInt (t := 5) (.tmp 54) (by kernel_rfl) (by kernel_rfl) (by kernel_rfl) (by kernel_rfl) (Sat.rdAt 0 hS rfl) e23 ?_))
        refine WR.runk [7, 8, 9, 10, 11] [12, 13, 14, 15] [2, 7, 8, 9, 49, 53, 55, 60] (L' := [(2, .int .u32 a2), (7, .slice A7_l1 x7_l1.length c7_l1), (8, .int .i64 (wi (Int.tmod (IntKind.wrap .u64 a1) (IntKind.wrap .u64 (wi ((wi (8 * (r11.length : Int))) - 31)))))), (9, .int .i64 x9_l1), (49, .slice A7_l1 x7_l1.length c7_l1), (53, .int .i64 (wi (Int.tdiv (wi ((wi (Int.tmod (IntKind.wrap .u64 a1) (IntKind.wrap .u64 (wi ((wi (8 * (r11.length : Int))) - 31))))) + x9_l1)) 8))), (55, .int .u8 v22), (60, .int .u64 (IntKind.wrap .u64 (Int.tmod (wi ((wi (Int.tmod (IntKind.wrap .u64 a1) (IntKind.wrap .u64 (wi ((wi (8 * (r11.length : Int))) - 31))))) + x9_l1)) 8)))]) (w' := w) (by kernel_rfl) ?_
        refine WR.st (St.ofP (PSt.shift (k := .u8) (k2 := .u64) (t := 5) (t2 := 24) (a := 1) (b := (IntKind.wrap .u64 (Int.tmod (wi ((wi (Int.tmod (IntKind.wrap .u64 a1) (IntKind.wrap .u64 (wi ((wi (8 * (r11.length : Int))) - 31))))) + x9_l1)) 8))) .shl (by decide) (.const (.int .u8 1)) (.tmp 60) (by kernel_rfl) (by kernel_rfl) (by kernel_rfl) (by kernel_rfl) (wrap_u64_nonneg _) ?_))
        refine WR.runk [13] [14, 15] [2, 7, 8, 9, 49, 53, 62] (L' := [(2, .int .u32 a2), (7, .slice A7_l1 x7_l1.length c7_l1), (8, .int .i64 (wi (Int.tmod (IntKind.wrap .u64 a1) (IntKind.wrap .u64 (wi ((wi (8 * (r11.length : Int))) - 31)))))), (9, .int .i64 x9_l1), (49, .slice A7_l1 x7_l1.length c7_l1), (53, .int .i64 (wi (Int.tdiv (wi ((wi (Int.tmod (IntKind.wrap .u64 a1) (IntKind.wrap .u64 (wi ((wi (8 * (r11.length : Int))) - 31))))) + x9_l1)) 8))), (62, .int .u8 (ixor .u8 v22 (ishl .u8 1 (IntKind.wrap .u64 (Int.tmod (wi ((wi (Int.tmod (IntKind.wrap .u64 a1) (IntKind.wrap .u64 (wi ((wi (8 * (r11.length : Int))) - 31))))) + x9_l1)) 8)))))]) (w' := w) (by kernel_rfl) ?_
        refine WR.st (St.ofP (PSt.idx (k := .i64) (.tmp 49) (.tmp 53) (by kernel_rfl) (by kernel_rfl) E22 (by kernel_rfl) (by kernel_rfl) (Sat.rdAt 0 hS rfl) e23 ?_))
        refine WR.runk [] [15] [2, 7, 8, 9, 62, 63] (L' := [(2, .int .u32 a2), (7, .slice A7_l1 x7_l1.length c7_l1), (8, .int .i64 (wi (Int.tmod (IntKind.wrap .u64 a1) (IntKind.wrap .u64 (wi ((wi (8 * (r11.length : Int))) - 31)))))), (9, .int .i64 x9_l1), (62, .int .u8 (ixor .u8 v22 (ishl .u8 1 (IntKind.wrap .u64 (Int.tmod (wi ((wi (Int.tmod (IntKind.wrap .u64 a1) (IntKind.wrap .u64 (wi ((wi (8 * (r11.length : Int))) - 31))))) + x9_l1)) 8))))), (63, .pointer (some (adr A7_l1 (wi (Int.tdiv (wi ((wi (Int.tmod (IntKind.wrap .u64 a1) (IntKind.wrap .u64 (wi ((wi (8 * (r11.length : Int))) - 31))))) + x9_l1)) 8)).toNat 1)))]) (w' := w) (by kernel_rfl) ?_
        obtain ⟨y24, e25, H⟩ := bind_ex H
        refine WR.st (St.storeElem' (t := 5) (.tmp 63) (.tmp 62) (by kernel_rfl) (by kernel_rfl) (by kernel_rfl) hS (by kernel_rfl) (by kernel_rfl) rfl e25 rfl (fun w26 hS => ?_))
        have hl27 := set?_len e25
        refine WR.know 7 (.slice A7_l1 y24.length c7_l1) (.slice A7_l1 x7_l1.length c7_l1) (by kernel_rfl) (by rw [hl27]) ?_
        refine WR.runk [] [] [2, 7, 8, 9] (L' := [(2, .int .u32 a2), (7, .slice A7_l1 y24.length c7_l1), (8, .int .i64 (wi (Int.tmod (IntKind.wrap .u64 a1) (IntKind.wrap .u64 (wi ((wi (8 * (r11.length : Int))) - 31)))))), (9, .int .i64 x9_l1)]) (w' := w26) (by kernel_rfl) ?_
        refine WR.nil ?_
        refine At.blockNormal ?_
        refine At.go ?_
        refine WC.reg [0, 1, 2] (by kernel_rfl) (by kernel_rfl) ?_
        refine WR.runk [0, 1, 2] [] [2, 7, 8, 9] (L' := [(2, .int .u32 a2), (7, .slice A7_l1 y24.length c7_l1), (8, .int .i64 (wi (Int.tmod (IntKind.wrap .u64 a1) (IntKind.wrap .u64 (wi ((wi (8 * (r11.length : Int))) - 31)))))), (9, .int .i64 (wi (x9_l1 + 1)))]) (w' := w26) (by kernel_rfl) ?_
        refine WR.nil ?_
        have hS : Sat w26 (rf w0) [osl 5 (r0 (.int .u8)) 1 A7_l1 c7_l1 y24] := hS.sel [0] (by kernel_rfl)
        refine At.again ?_
        refine WL.weaken [2, 7, 8, 9] (L' := [(2, .int .u32 a2), (7, .slice A7_l1 y24.length c7_l1), (8, .int .i64 (wi (Int.tmod (IntKind.wrap .u64 a1) (IntKind.wrap .u64 (wi ((wi (8 * (r11.length : Int))) - 31)))))), (9, .int .i64 (wi (x9_l1 + 1)))]) (by kernel_rfl) ?_
        exact ih y24 (wi (x9_l1 + 1)) A7_l1 c7_l1 _ hS H
      · replace H := ite_f H hb21
        refine WC.skip (by kernel_rfl) ?_
        refine At.blockNormal ?_
        refine At.go ?_
        refine WC.reg [0, 1, 2] (by kernel_rfl) (by kernel_rfl) ?_
        refine WR.runk [0, 1, 2] [] [2, 7, 8, 9] (L' := [(2, .int .u32 a2), (7, .slice A7_l1 x7_l1.length c7_l1), (8, .int .i64 (wi (Int.tmod (IntKind.wrap .u64 a1) (IntKind.wrap .u64 (wi ((wi (8 * (r11.length : Int))) - 31)))))), (9, .int .i64 (wi (x9_l1 + 1)))]) (w' := w) (by kernel_rfl) ?_
        refine WR.nil ?_
        have hS : Sat w (rf w0) [osl 5 (r0 (.int .u8)) 1 A7_l1 c7_l1 x7_l1] := hS.sel [0] (by kernel_rfl)
        refine At.again ?_
        refine WL.weaken [2, 7, 8, 9] (L' := [(2, .int .u32 a2), (7, .slice A7_l1 x7_l1.length c7_l1), (8, .int .i64 (wi (Int.tmod (IntKind.wrap .u64 a1) (IntKind.wrap .u64 (wi ((wi (8 * (r11.length : Int))) - 31)))))), (9, .int .i64 (wi (x9_l1 + 1)))]) (by kernel_rfl) ?_
        exact ih x7_l1 (wi (x9_l1 + 1)) A7_l1 c7_l1 _ hS H
    · replace H := ite_f H hb20
      refine WC.exit (by kernel_rfl) ?_
      refine At.thenExit ?_
      refine At.thenExit ?_
      obtain rfl := Option.some.inj H
      have hS : Sat w (rf w0) [osl 5 (r0 (.int .u8)) 1 A7_l1 c7_l1 x7_l1] := hS.sel [0] (by kernel_rfl)
      refine At.weaken [7] (L' := [(7, .slice A7_l1 x7_l1.length c7_l1)]) (by kernel_rfl) ?_
      exact hn0 A7_l1 c7_l1 _ hS
theorem colophonlaw04_CrcRows.calls (w0 : World) (A0 : Option Addr) (c0 : Nat) (l0 : List Int) (R0 : rdS (r0 (.int .u8)) 1 (hp w0) A0 c0 l0) (a1 : Int) (a2 : Int) (r : Bool) (H : colophonlaw04_CrcRows.f l0 a1 a2 = some r) :
    Calls Try.prog 5 #[.slice A0 l0.length c0, .int .i64 a1, .int .u32 a2] w0 (fun e w' => ∃ v, e = .returned v ∧ colophonlaw04_CrcRows.post w0 r v w') := by
  have hS : Sat w0 (rf w0) [] := Sat.start w0
  unfold colophonlaw04_CrcRows.f at H
  refine calls_of_WC (vs := [.slice A0 l0.length c0, .int .i64 a1, .int .u32 a2]) Try.func5 (c := C5) (n := 76) (by kernel_rfl) (by kernel_rfl) (by kernel_rfl) ?_
  refine WC.seq (by kernel_rfl) ?_
  refine WC.reg [0] (by kernel_rfl) (by kernel_rfl) ?_
  refine WR.runk [0] [] [0, 1, 2] (L' := [(0, .slice A0 l0.length c0), (1, .int .i64 a1), (2, .int .u32 a2)]) (w' := w0) (by kernel_rfl) ?_
  refine WR.nil ?_
  refine At.go ?_
  refine WC.seq (by kernel_rfl) ?_
  refine WC.seq (by kernel_rfl) ?_
  refine WC.reg [0, 1] (by kernel_rfl) (by kernel_rfl) ?_
  obtain ⟨r1, e2, H⟩ := bind_ex H
  refine WR.st (St.call (by kernel_rfl) (f := 8) (args := #[]) (by kernel_rfl) (colophonlaw04_first.calls w0  r1 e2) ?_)
  rintro _ w3 ⟨rfl, hS4⟩
  have hS : Sat w3 (rf w0) [] := hS.ext hS4
  refine WR.runk [1] [] [0, 1, 2, 13] (L' := [(0, .slice A0 l0.length c0), (1, .int .i64 a1), (2, .int .u32 a2), (13, .bool (!r1))]) (w' := w3) (by kernel_rfl) ?_
  refine WR.nil ?_
  refine At.go ?_
  refine WC.cond (by kernel_rfl) (!r1) (by kernel_rfl) (by kernel_rfl) (fun hb5 => ?_) (fun hb5 => ?_)
  · replace H := ite_t H hb5
    refine WC.seq (by kernel_rfl) ?_
    refine WC.reg [0] (by kernel_rfl) (by kernel_rfl) ?_
    refine WR.runk [0] [] [6] (L' := [(6, .bool false)]) (w' := w3) (by kernel_rfl) ?_
    refine WR.nil ?_
    refine At.go ?_
    refine WC.ret (by kernel_rfl) ?_
    refine At.thenRet ?_
    obtain rfl := Option.some.inj H
    have hS : Sat w3 (rf w0) [] := hS.sel [] (by kernel_rfl)
    exact At.body [.bool false] (by kernel_rfl) ⟨_, rfl, rfl, hS⟩
  · replace H := ite_f H hb5
    refine WC.skip (by kernel_rfl) ?_
    refine At.go ?_
    refine WC.seq (by kernel_rfl) ?_
    refine WC.reg [0, 1, 2, 3, 4, 5, 6] (by kernel_rfl) (by kernel_rfl) ?_
    refine WR.runk [0, 1, 2, 3] [4, 5, 6] [1, 2, 14, 17] (L' := [(1, .int .i64 a1), (2, .int .u32 a2), (14, .slice A0 l0.length c0), (17, .int .i64 (imin (l0.length : Int) 2000))]) (w' := w3) (by kernel_rfl) ?_
    obtain ⟨y6, e7, H⟩ := bind_ex H
    refine WR.st (St.ofP (PSt.sub (A := A0) (c := c0) (.tmp 14) none (some (.tmp 17)) none (by kernel_rfl) (by kernel_rfl) E22 (by kernel_rfl) (rdS.up R0 hS.sub0).1 e7 rfl (Exists.intro IntKind.i64 (by kernel_rfl)) trivial (fun A8 c9 T10 => ?_)))
    refine WR.runk [] [5, 6] [1, 2, 18] (L' := [(1, .int .i64 a1), (2, .int .u32 a2), (18, .slice A8 y6.length c9)]) (w' := w3) (by kernel_rfl) ?_
    obtain ⟨r11, e12, H⟩ := bind_ex H
    refine WR.st (St.call (by kernel_rfl) (f := 9) (args := #[.slice A8 y6.length c9]) (by kernel_rfl) (crc_Put.calls w3 A8 c9 y6 (T10.rd _ _ (rdS.up R0 hS.sub0)) r11 e12) ?_)
    rintro _ w13 ⟨A15, c16, rfl, hS14⟩
    have hS : Sat w13 (rf w0) [osl 5 (r0 (.int .u8)) 1 A15 c16 r11] := hS.ext hS14
    refine WR.runk [6] [] [1, 2, 7] (L' := [(1, .int .i64 a1), (2, .int .u32 a2), (7, .slice A15 r11.length c16)]) (w' := w13) (by kernel_rfl) ?_
    refine WR.nil ?_
    refine At.go ?_
    refine WC.seq (by kernel_rfl) ?_
    refine WC.seq (by kernel_rfl) ?_
    refine WC.reg [0, 1, 2, 3, 4, 5, 6] (by kernel_rfl) (by kernel_rfl) ?_
    refine WR.runk [0, 1, 2] [3, 4, 5, 6] [1, 2, 7, 22] (L' := [(1, .int .i64 a1), (2, .int .u32 a2), (7, .slice A15 r11.length c16), (22, .bool (a2 == 0))]) (w' := w13) (by kernel_rfl) ?_
    refine WR.split 22 (b := (a2 == 0)) (by kernel_rfl) (fun hb17 => ?_) (fun hb17 => ?_)
    · replace H := ite_t H hb17
      refine WR.runk [3, 4, 5, 6] [] [1, 2, 7, 26] (L' := [(1, .int .i64 a1), (2, .int .u32 a2), (7, .slice A15 r11.length c16), (26, .bool true)]) (w' := w13) (by kernel_rfl) ?_
      refine WR.nil ?_
      refine At.go ?_
      refine WC.condT (by kernel_rfl) (by kernel_rfl) (by kernel_rfl) ?_
      refine WC.seq (by kernel_rfl) ?_
      refine WC.reg [0, 1, 2, 3] (by kernel_rfl) (by kernel_rfl) ?_
      refine WR.runk [0, 1, 2, 3] [] [6] (L' := [(6, .bool (decide ((r11.length : Int) ≥ 4)))]) (w' := w13) (by kernel_rfl) ?_
      refine WR.nil ?_
      refine At.go ?_
      refine WC.ret (by kernel_rfl) ?_
      refine At.thenRet ?_
      obtain rfl := Option.some.inj H
      have hS : Sat w13 (rf w0) [] := hS.sel [] (by kernel_rfl)
      exact At.body [.bool (decide ((r11.length : Int) ≥ 4))] (by kernel_rfl) ⟨_, rfl, rfl, hS⟩
    · replace H := ite_f H hb17
      refine WR.runk [3, 4, 5, 6] [] [1, 2, 7, 26] (L' := [(1, .int .i64 a1), (2, .int .u32 a2), (7, .slice A15 r11.length c16), (26, .bool (decide ((r11.length : Int) < 4)))]) (w' := w13) (by kernel_rfl) ?_
      refine WR.nil ?_
      refine At.go ?_
      refine WC.cond (by kernel_rfl) (decide ((r11.length : Int) < 4)) (by kernel_rfl) (by kernel_rfl) (fun hb18 => ?_) (fun hb18 => ?_)
      · replace H := ite_t H hb18
        refine WC.seq (by kernel_rfl) ?_
        refine WC.reg [0, 1, 2, 3] (by kernel_rfl) (by kernel_rfl) ?_
        refine WR.runk [0, 1, 2, 3] [] [6] (L' := [(6, .bool (decide ((r11.length : Int) ≥ 4)))]) (w' := w13) (by kernel_rfl) ?_
        refine WR.nil ?_
        refine At.go ?_
        refine WC.ret (by kernel_rfl) ?_
        refine At.thenRet ?_
        obtain rfl := Option.some.inj H
        have hS : Sat w13 (rf w0) [] := hS.sel [] (by kernel_rfl)
        exact At.body [.bool (decide ((r11.length : Int) ≥ 4))] (by kernel_rfl) ⟨_, rfl, rfl, hS⟩
      · replace H := ite_f H hb18
        refine WC.skip (by kernel_rfl) ?_
        refine At.go ?_
        refine WC.seq (by kernel_rfl) ?_
        refine WC.reg [0, 1, 2, 3, 4, 5, 6, 7, 8, 9] (by kernel_rfl) (by kernel_rfl) ?_
        refine WR.runk [0, 1, 2, 3, 4, 5, 6] [7, 8, 9] [2, 7, 31, 36] (L' := [(2, .int .u32 a2), (7, .slice A15 r11.length c16), (31, .int .u64 (IntKind.wrap .u64 a1)), (36, .int .u64 (IntKind.wrap .u64 (wi ((wi (8 * (r11.length : Int))) - 31))))]) (w' := w13) (by kernel_rfl) ?_
        obtain ⟨_, e19, H⟩ := bind_ex H
        refine WR.st (St.ofP (PSt.div (k := .u64) (t := 24) (t2 := 24) (a := (IntKind.wrap .u64 a1)) (b := (IntKind.wrap .u64 (wi ((wi (8 * (r11.length : Int))) - 31)))) .rem (by decide) (.tmp 31) (.tmp 36) (by kernel_rfl) (by kernel_rfl) (by kernel_rfl) (by kernel_rfl) (of_decide_eq_true (chk?_some e19)) ?_))
        refine WR.runk [8, 9] [] [2, 7, 8] (L' := [(2, .int .u32 a2), (7, .slice A15 r11.length c16), (8, .int .i64 (wi (Int.tmod (IntKind.wrap .u64 a1) (IntKind.wrap .u64 (wi ((wi (8 * (r11.length : Int))) - 31))))))]) (w' := w13) (by kernel_rfl) ?_
        refine WR.nil ?_
        refine At.go ?_
        refine WC.seq (by kernel_rfl) ?_
        refine WC.seq (by kernel_rfl) ?_
        refine WC.reg [0] (by kernel_rfl) (by kernel_rfl) ?_
        refine WR.runk [0] [] [2, 7, 8, 9] (L' := [(2, .int .u32 a2), (7, .slice A15 r11.length c16), (8, .int .i64 (wi (Int.tmod (IntKind.wrap .u64 a1) (IntKind.wrap .u64 (wi ((wi (8 * (r11.length : Int))) - 31)))))), (9, .int .i64 0)]) (w' := w13) (by kernel_rfl) ?_
        refine WR.nil ?_
        refine At.go ?_
        refine WC.block (by kernel_rfl) ?_
        have hS : Sat w13 (rf w0) [osl 5 (r0 (.int .u8)) 1 A15 c16 r11] := hS.sel [0] (by kernel_rfl)
        obtain ⟨o28, e29, H⟩ := bind_ex H
        refine WC.loop (by kernel_rfl) ?_
        refine WL.weaken [2, 7, 8, 9] (L' := [(2, .int .u32 a2), (7, .slice A15 r11.length c16), (8, .int .i64 (wi (Int.tmod (IntKind.wrap .u64 a1) (IntKind.wrap .u64 (wi ((wi (8 * (r11.length : Int))) - 31)))))), (9, .int .i64 0)]) (by kernel_rfl) ?_
        refine colophonlaw04_CrcRows.l1_ok w0 a1 a2 r11 o28 (fun A7_q30 c7_q30 w31 hS => ?_) FU r11 0 A15 c16 _ hS e29
        refine At.hit ?_
        refine At.go ?_
        refine WC.seq (by kernel_rfl) ?_
        refine WC.reg [0, 1, 2, 3, 4, 5, 6] (by kernel_rfl) (by kernel_rfl) ?_
        refine WR.runk [0] [1, 2, 3, 4, 5, 6] [65] (L' := [(65, .slice A7_q30 o28.length c7_q30)]) (w' := w31) (by kernel_rfl) ?_
        obtain ⟨r33, e34, H⟩ := bind_ex H
        refine WR.st (St.call (by kernel_rfl) (f := 13) (args := #[.slice A7_q30 o28.length c7_q30]) (by kernel_rfl) (crc_Cut.calls w31 A7_q30 c7_q30 o28 (Sat.rdAt 0 hS rfl) r33 e34) ?_)
        rintro _ w35 ⟨A37, c38, rfl, hS36⟩
        have hS : Sat w35 (rf w0) [osl 5 (r0 (.int .u8)) 1 A37 c38 r33.1, osl 5 (r0 (.int .u8)) 1 A7_q30 c7_q30 o28] := hS.ext hS36
        refine WR.runk [2, 3, 4, 5, 6] [] [10, 11] (L' := [(10, .slice A37 r33.1.length c38), (11, .int .i64 r33.2)]) (w' := w35) (by kernel_rfl) ?_
        refine WR.nil ?_
        refine At.go ?_
        refine WC.seq (by kernel_rfl) ?_
        refine WC.reg [0, 1, 2, 3, 4, 5, 6, 7] (by kernel_rfl) (by kernel_rfl) ?_
        refine WR.runk [0, 1, 2] [3, 4, 5, 6, 7] [10, 71] (L' := [(10, .slice A37 r33.1.length c38), (71, .bool (r33.2 == 40))]) (w' := w35) (by kernel_rfl) ?_
        refine WR.split 71 (b := (r33.2 == 40)) (by kernel_rfl) (fun hb39 => ?_) (fun hb39 => ?_)
        · replace H := ite_t H hb39
          refine WR.runk [3, 4, 5, 6, 7] [] [6] (L' := [(6, .bool ((r33.1.length : Int) == 0))]) (w' := w35) (by kernel_rfl) ?_
          refine WR.nil ?_
          refine At.go ?_
          refine WC.ret (by kernel_rfl) ?_
          obtain rfl := Option.some.inj H
          have hS : Sat w35 (rf w0) [] := hS.sel [] (by kernel_rfl)
          exact At.body [.bool ((r33.1.length : Int) == 0)] (by kernel_rfl) ⟨_, rfl, rfl, hS⟩
        · replace H := ite_f H hb39
          refine WR.runk [3, 4, 5, 6, 7] [] [6] (L' := [(6, .bool false)]) (w' := w35) (by kernel_rfl) ?_
          refine WR.nil ?_
          refine At.go ?_
          refine WC.ret (by kernel_rfl) ?_
          obtain rfl := Option.some.inj H
          have hS : Sat w35 (rf w0) [] := hS.sel [] (by kernel_rfl)
          exact At.body [.bool false] (by kernel_rfl) ⟨_, rfl, rfl, hS⟩
/-! ### 7 colophon/colophonlaw04.CrcTwice -/
noncomputable abbrev C7 : Code := Try.f7.body.getD .skip
def colophonlaw04_CrcTwice.f (l0 : List Int) : Option Bool := (colophonlaw04_first.f.bind fun r1 => (if (!r1) then some false else ((sub? l0 0 (imin (l0.length : Int) 1000)).bind fun y6 => ((crc_Put.f y6).bind fun r11 => ((crc_Put.f r11).bind fun r17 => ((crc_Cut.f r17).bind fun r23 => ((crc_Cut.f r23.1).bind fun r29 => (if (r23.2 == 0) then (if (r29.2 == 0) then (if ((bs r29.1).toList == (bs y6).toList) then ((crc_Sum.f ([r11] : List (List Int))).bind fun r40 => ((crc_Put.f ([] : List Int)).bind fun r44 => ((crc_Sum.f ([r44] : List (List Int))).bind fun r52 => (if (r40 == r52) then ((crc_Sum.f ([r11] : List (List Int))).bind fun r59 => some (r59 == 558161692)) else some false)))) else some false) else some false) else some false))))))))
def colophonlaw04_CrcTwice.post (w : World) (r : Bool) (v : Value) (w' : World) : Prop := v = .bool r ∧ Sat w' (rf w) []
theorem colophonlaw04_CrcTwice.calls (w0 : World) (A0 : Option Addr) (c0 : Nat) (l0 : List Int) (R0 : rdS (r0 (.int .u8)) 1 (hp w0) A0 c0 l0) (r : Bool) (H : colophonlaw04_CrcTwice.f l0 = some r) :
    Calls Try.prog 7 #[.slice A0 l0.length c0] w0 (fun e w' => ∃ v, e = .returned v ∧ colophonlaw04_CrcTwice.post w0 r v w') := by
  have hS : Sat w0 (rf w0) [] := Sat.start w0
  unfold colophonlaw04_CrcTwice.f at H
  refine calls_of_WC (vs := [.slice A0 l0.length c0]) Try.func7 (c := C7) (n := 59) (by kernel_rfl) (by kernel_rfl) (by kernel_rfl) ?_
  refine WC.seq (by kernel_rfl) ?_
  refine WC.reg [0] (by kernel_rfl) (by kernel_rfl) ?_
  refine WR.runk [0] [] [0] (L' := [(0, .slice A0 l0.length c0)]) (w' := w0) (by kernel_rfl) ?_
  refine WR.nil ?_
  refine At.go ?_
  refine WC.seq (by kernel_rfl) ?_
  refine WC.seq (by kernel_rfl) ?_
  refine WC.reg [0, 1] (by kernel_rfl) (by kernel_rfl) ?_
  obtain ⟨r1, e2, H⟩ := bind_ex H
  refine WR.st (St.call (by kernel_rfl) (f := 8) (args := #[]) (by kernel_rfl) (colophonlaw04_first.calls w0  r1 e2) ?_)
  rintro _ w3 ⟨rfl, hS4⟩
  have hS : Sat w3 (rf w0) [] := hS.ext hS4
  refine WR.runk [1] [] [0, 11] (L' := [(0, .slice A0 l0.length c0), (11, .bool (!r1))]) (w' := w3) (by kernel_rfl) ?_
  refine WR.nil ?_
  refine At.go ?_
  refine WC.cond (by kernel_rfl) (!r1) (by kernel_rfl) (by kernel_rfl) (fun hb5 => ?_) (fun hb5 => ?_)
  · replace H := ite_t H hb5
    refine WC.seq (by kernel_rfl) ?_
    refine WC.reg [0] (by kernel_rfl) (by kernel_rfl) ?_
    refine WR.runk [0] [] [2] (L' := [(2, .bool false)]) (w' := w3) (by kernel_rfl) ?_
    refine WR.nil ?_
    refine At.go ?_
    refine WC.ret (by kernel_rfl) ?_
    refine At.thenRet ?_
    obtain rfl := Option.some.inj H
    have hS : Sat w3 (rf w0) [] := hS.sel [] (by kernel_rfl)
    exact At.body [.bool false] (by kernel_rfl) ⟨_, rfl, rfl, hS⟩
  · replace H := ite_f H hb5
    refine WC.skip (by kernel_rfl) ?_
    refine At.go ?_
    refine WC.seq (by kernel_rfl) ?_
    refine WC.reg [0, 1, 2, 3, 4, 5] (by kernel_rfl) (by kernel_rfl) ?_
    refine WR.runk [0, 1, 2, 3] [4, 5] [12, 15] (L' := [(12, .slice A0 l0.length c0), (15, .int .i64 (imin (l0.length : Int) 1000))]) (w' := w3) (by kernel_rfl) ?_
    obtain ⟨y6, e7, H⟩ := bind_ex H
    refine WR.st (St.ofP (PSt.sub (A := A0) (c := c0) (.tmp 12) none (some (.tmp 15)) none (by kernel_rfl) (by kernel_rfl) E22 (by kernel_rfl) (rdS.up R0 hS.sub0).1 e7 rfl (Exists.intro IntKind.i64 (by kernel_rfl)) trivial (fun A8 c9 T10 => ?_)))
    refine WR.runk [5] [] [3] (L' := [(3, .slice A8 y6.length c9)]) (w' := w3) (by kernel_rfl) ?_
    refine WR.nil ?_
    refine At.go ?_
    refine WC.seq (by kernel_rfl) ?_
    refine WC.reg [0, 1, 2] (by kernel_rfl) (by kernel_rfl) ?_
    refine WR.runk [0] [1, 2] [3, 17] (L' := [(3, .slice A8 y6.length c9), (17, .slice A8 y6.length c9)]) (w' := w3) (by kernel_rfl) ?_
    obtain ⟨r11, e12, H⟩ := bind_ex H
    refine WR.st (St.call (by kernel_rfl) (f := 9) (args := #[.slice A8 y6.length c9]) (by kernel_rfl) (crc_Put.calls w3 A8 c9 y6 (T10.rd _ _ (rdS.up R0 hS.sub0)) r11 e12) ?_)
    rintro _ w13 ⟨A15, c16, rfl, hS14⟩
    have hS : Sat w13 (rf w0) [osl 5 (r0 (.int .u8)) 1 A15 c16 r11] := hS.ext hS14
    refine WR.runk [2] [] [3, 4] (L' := [(3, .slice A8 y6.length c9), (4, .slice A15 r11.length c16)]) (w' := w13) (by kernel_rfl) ?_
    refine WR.nil ?_
    refine At.go ?_
    refine WC.seq (by kernel_rfl) ?_
    refine WC.reg [0, 1, 2] (by kernel_rfl) (by kernel_rfl) ?_
    refine WR.runk [0] [1, 2] [3, 4, 19] (L' := [(3, .slice A8 y6.length c9), (4, .slice A15 r11.length c16), (19, .slice A15 r11.length c16)]) (w' := w13) (by kernel_rfl) ?_
    obtain ⟨r17, e18, H⟩ := bind_ex H
    refine WR.st (St.call (by kernel_rfl) (f := 9) (args := #[.slice A15 r11.length c16]) (by kernel_rfl) (crc_Put.calls w13 A15 c16 r11 (Sat.rdAt 0 hS rfl) r17 e18) ?_)
    rintro _ w19 ⟨A21, c22, rfl, hS20⟩
    have hS : Sat w19 (rf w0) [osl 5 (r0 (.int .u8)) 1 A21 c22 r17, osl 5 (r0 (.int .u8)) 1 A15 c16 r11] := hS.ext hS20
    refine WR.runk [2] [] [3, 4, 5] (L' := [(3, .slice A8 y6.length c9), (4, .slice A15 r11.length c16), (5, .slice A21 r17.length c22)]) (w' := w19) (by kernel_rfl) ?_
    refine WR.nil ?_
    refine At.go ?_
    refine WC.seq (by kernel_rfl) ?_
    refine WC.reg [0, 1, 2, 3, 4, 5, 6] (by kernel_rfl) (by kernel_rfl) ?_
    refine WR.runk [0] [1, 2, 3, 4, 5, 6] [3, 4, 22] (L' := [(3, .slice A8 y6.length c9), (4, .slice A15 r11.length c16), (22, .slice A21 r17.length c22)]) (w' := w19) (by kernel_rfl) ?_
    obtain ⟨r23, e24, H⟩ := bind_ex H
    refine WR.st (St.call (by kernel_rfl) (f := 13) (args := #[.slice A21 r17.length c22]) (by kernel_rfl) (crc_Cut.calls w19 A21 c22 r17 (Sat.rdAt 0 hS rfl) r23 e24) ?_)
    rintro _ w25 ⟨A27, c28, rfl, hS26⟩
    have hS : Sat w25 (rf w0) [osl 5 (r0 (.int .u8)) 1 A27 c28 r23.1, osl 5 (r0 (.int .u8)) 1 A21 c22 r17, osl 5 (r0 (.int .u8)) 1 A15 c16 r11] := hS.ext hS26
    refine WR.runk [2, 3, 4, 5, 6] [] [3, 4, 6, 7] (L' := [(3, .slice A8 y6.length c9), (4, .slice A15 r11.length c16), (6, .slice A27 r23.1.length c28), (7, .int .i64 r23.2)]) (w' := w25) (by kernel_rfl) ?_
    refine WR.nil ?_
    refine At.go ?_
    refine WC.seq (by kernel_rfl) ?_
    refine WC.reg [0, 1, 2, 3, 4, 5, 6] (by kernel_rfl) (by kernel_rfl) ?_
    refine WR.runk [0] [1, 2, 3, 4, 5, 6] [3, 4, 7, 27] (L' := [(3, .slice A8 y6.length c9), (4, .slice A15 r11.length c16), (7, .int .i64 r23.2), (27, .slice A27 r23.1.length c28)]) (w' := w25) (by kernel_rfl) ?_
    obtain ⟨r29, e30, H⟩ := bind_ex H
    refine WR.st (St.call (by kernel_rfl) (f := 13) (args := #[.slice A27 r23.1.length c28]) (by kernel_rfl) (crc_Cut.calls w25 A27 c28 r23.1 (Sat.rdAt 0 hS rfl) r29 e30) ?_)
    rintro _ w31 ⟨A33, c34, rfl, hS32⟩
    have hS : Sat w31 (rf w0) [osl 5 (r0 (.int .u8)) 1 A33 c34 r29.1, osl 5 (r0 (.int .u8)) 1 A27 c28 r23.1, osl 5 (r0 (.int .u8)) 1 A21 c22 r17, osl 5 (r0 (.int .u8)) 1 A15 c16 r11] := hS.ext hS32
    refine WR.runk [2, 3, 4, 5, 6] [] [3, 4, 7, 8, 9] (L' := [(3, .slice A8 y6.length c9), (4, .slice A15 r11.length c16), (7, .int .i64 r23.2), (8, .slice A33 r29.1.length c34), (9, .int .i64 r29.2)]) (w' := w31) (by kernel_rfl) ?_
    refine WR.nil ?_
    refine At.go ?_
    refine WC.seq (by kernel_rfl) ?_
    refine WC.reg [0, 1, 2, 3, 4, 5, 6, 7, 8, 9, 10, 11, 12, 13, 14, 15, 16, 17, 18, 19, 20, 21, 22, 23, 24, 25, 26, 27, 28] (by kernel_rfl) (by kernel_rfl) ?_
    refine WR.runk [0, 1, 2] [3, 4, 5, 6, 7, 8, 9, 10, 11, 12, 13, 14, 15, 16, 17, 18, 19, 20, 21, 22, 23, 24, 25, 26, 27, 28] [3, 4, 8, 9, 33] (L' := [(3, .slice A8 y6.length c9), (4, .slice A15 r11.length c16), (8, .slice A33 r29.1.length c34), (9, .int .i64 r29.2), (33, .bool (r23.2 == 0))]) (w' := w31) (by kernel_rfl) ?_
    refine WR.split 33 (b := (r23.2 == 0)) (by kernel_rfl) (fun hb35 => ?_) (fun hb35 => ?_)
    · replace H := ite_t H hb35
      refine WR.runk [3, 4, 5, 6] [7, 8, 9, 10, 11, 12, 13, 14, 15, 16, 17, 18, 19, 20, 21, 22, 23, 24, 25, 26, 27, 28] [3, 4, 8, 37] (L' := [(3, .slice A8 y6.length c9), (4, .slice A15 r11.length c16), (8, .slice A33 r29.1.length c34), (37, .bool (r29.2 == 0))]) (w' := w31) (by kernel_rfl) ?_
      refine WR.split 37 (b := (r29.2 == 0)) (by kernel_rfl) (fun hb36 => ?_) (fun hb36 => ?_)
      · replace H := ite_t H hb36
        refine WR.runk [7] [8, 9, 10, 11, 12, 13, 14, 15, 16, 17, 18, 19, 20, 21, 22, 23, 24, 25, 26, 27, 28] [3, 4, 37, 38] (L' := [(3, .slice A8 y6.length c9), (4, .slice A15 r11.length c16), (37, .bool true), (38, .slice A33 r29.1.length c34)]) (w' := w31) (by kernel_rfl) ?_
        refine WR.st (St.ofR (RSt.toStr (src := 22) (dst := 9) (e := 5) (.tmp 38) (by kernel_rfl) (by kernel_rfl) (by kernel_rfl) (by kernel_rfl) (by kernel_rfl) (by kernel_rfl) (Sat.rdAt 0 hS rfl) ?_))
        refine WR.runk [9] [10, 11, 12, 13, 14, 15, 16, 17, 18, 19, 20, 21, 22, 23, 24, 25, 26, 27, 28] [4, 37, 39, 40] (L' := [(4, .slice A15 r11.length c16), (37, .bool true), (39, .string (bs r29.1)), (40, .slice A8 y6.length c9)]) (w' := w31) (by kernel_rfl) ?_
        refine WR.st (St.ofR (RSt.toStr (src := 22) (dst := 9) (e := 5) (.tmp 40) (by kernel_rfl) (by kernel_rfl) (by kernel_rfl) (by kernel_rfl) (by kernel_rfl) (by kernel_rfl) (T10.rd _ _ (rdS.up R0 hS.sub0)) ?_))
        refine WR.runk [11, 12, 13] [14, 15, 16, 17, 18, 19, 20, 21, 22, 23, 24, 25, 26, 27, 28] [4, 44] (L' := [(4, .slice A15 r11.length c16), (44, .bool ((bs r29.1).toList == (bs y6).toList))]) (w' := w31) (by kernel_rfl) ?_
        refine WR.split 44 (b := ((bs r29.1).toList == (bs y6).toList)) (by kernel_rfl) (fun hb37 => ?_) (fun hb37 => ?_)
        · replace H := ite_t H hb37
          refine WR.runk [14] [15, 16, 17, 18, 19, 20, 21, 22, 23, 24, 25, 26, 27, 28] [4, 44, 45] (L' := [(4, .slice A15 r11.length c16), (44, .bool true), (45, .slice A15 r11.length c16)]) (w' := w31) (by kernel_rfl) ?_
          refine WR.st (St.box hS (by kernel_rfl) (.cells #[.slice A15 r11.length c16] 22) (fun b38 => .slice (some ⟨b38, 0, none⟩) 1 1) (fun _ => by kernel_rfl) (fun b38 w39 hS => ?_))
          refine WR.runk [] [16, 17, 18, 19, 20, 21, 22, 23, 24, 25, 26, 27, 28] [4, 44, 46] (L' := [(4, .slice A15 r11.length c16), (44, .bool true), (46, .slice (some ⟨b38, 0, none⟩) 1 1)]) (w' := w39) (by kernel_rfl) ?_
          obtain ⟨r40, e41, H⟩ := bind_ex H
          refine WR.st (St.call (by kernel_rfl) (f := 10) (args := #[.slice (some ⟨b38, 0, none⟩) 1 1]) (by kernel_rfl) (crc_Sum.calls w39 (some ⟨b38, 0, none⟩) 1 ([r11] : List (List Int)) (Sat.ptsAt 0 (rd (hp w39) (.slice 5 (.int .u8))) 1 ([r11] : List (List Int)) hS rfl rfl (rdL.cons1 ⟨_, _, rfl, (rdS.r0up (Sat.rdAt 4 hS rfl))⟩ (rdL.nil _ _))) r40 e41) ?_)
          rintro _ w42 ⟨rfl, hS43⟩
          have hS : Sat w42 (rf w0) [pts b38 (.cells #[.slice A15 r11.length c16] 22 (0, 0)), osl 5 (r0 (.int .u8)) 1 A33 c34 r29.1, osl 5 (r0 (.int .u8)) 1 A27 c28 r23.1, osl 5 (r0 (.int .u8)) 1 A21 c22 r17, osl 5 (r0 (.int .u8)) 1 A15 c16 r11] := hS.ext hS43
          refine WR.runk [] [17, 18, 19, 20, 21, 22, 23, 24, 25, 26, 27, 28] [4, 44, 47] (L' := [(4, .slice A15 r11.length c16), (44, .bool true), (47, .int .u32 r40)]) (w' := w42) (by kernel_rfl) ?_
          obtain ⟨r44, e45, H⟩ := bind_ex H
          refine WR.st (St.call (by kernel_rfl) (f := 9) (args := #[.slice none 0 0]) (by kernel_rfl) (crc_Put.calls w42 none 0 ([] : List Int) (rdS.nil _ _ _) r44 e45) ?_)
          rintro _ w46 ⟨A48, c49, rfl, hS47⟩
          have hS : Sat w46 (rf w0) [osl 5 (r0 (.int .u8)) 1 A48 c49 r44, pts b38 (.cells #[.slice A15 r11.length c16] 22 (0, 0)), osl 5 (r0 (.int .u8)) 1 A33 c34 r29.1, osl 5 (r0 (.int .u8)) 1 A27 c28 r23.1, osl 5 (r0 (.int .u8)) 1 A21 c22 r17, osl 5 (r0 (.int .u8)) 1 A15 c16 r11] := hS.ext hS47
          refine WR.runk [] [18, 19, 20, 21, 22, 23, 24, 25, 26, 27, 28] [4, 44, 47, 48] (L' := [(4, .slice A15 r11.length c16), (44, .bool true), (47, .int .u32 r40), (48, .slice A48 r44.length c49)]) (w' := w46) (by kernel_rfl) ?_
          refine WR.st (St.box hS (by kernel_rfl) (.cells #[.slice A48 r44.length c49] 22) (fun b50 => .slice (some ⟨b50, 0, none⟩) 1 1) (fun _ => by kernel_rfl) (fun b50 w51 hS => ?_))
          refine WR.runk [] [19, 20, 21, 22, 23, 24, 25, 26, 27, 28] [4, 44, 47, 49] (L' := [(4, .slice A15 r11.length c16), (44, .bool true), (47, .int .u32 r40), (49, .slice (some ⟨b50, 0, none⟩) 1 1)]) (w' := w51) (by kernel_rfl) ?_
          obtain ⟨r52, e53, H⟩ := bind_ex H
          refine WR.st (St.call (by kernel_rfl) (f := 10) (args := #[.slice (some ⟨b50, 0, none⟩) 1 1]) (by kernel_rfl) (crc_Sum.calls w51 (some ⟨b50, 0, none⟩) 1 ([r44] : List (List Int)) (Sat.ptsAt 0 (rd (hp w51) (.slice 5 (.int .u8))) 1 ([r44] : List (List Int)) hS rfl rfl (rdL.cons1 ⟨_, _, rfl, (rdS.r0up (Sat.rdAt 1 hS rfl))⟩ (rdL.nil _ _))) r52 e53) ?_)
          rintro _ w54 ⟨rfl, hS55⟩
          have hS : Sat w54 (rf w0) [pts b50 (.cells #[.slice A48 r44.length c49] 22 (0, 0)), osl 5 (r0 (.int .u8)) 1 A48 c49 r44, pts b38 (.cells #[.slice A15 r11.length c16] 22 (0, 0)), osl 5 (r0 (.int .u8)) 1 A33 c34 r29.1, osl 5 (r0 (.int .u8)) 1 A27 c28 r23.1, osl 5 (r0 (.int .u8)) 1 A21 c22 r17, osl 5 (r0 (.int .u8)) 1 A15 c16 r11] := hS.ext hS55
          refine WR.runk [20, 21, 22] [23, 24, 25, 26, 27, 28] [4, 53] (L' := [(4, .slice A15 r11.length c16), (53, .bool (r40 == r52))]) (w' := w54) (by kernel_rfl) ?_
          refine WR.split 53 (b := (r40 == r52)) (by kernel_rfl) (fun hb56 => ?_) (fun hb56 => ?_)
          · replace H := ite_t H hb56
            refine WR.runk [23] [24, 25, 26, 27, 28] [53, 54] (L' := [(53, .bool true), (54, .slice A15 r11.length c16)]) (w' := w54) (by kernel_rfl) ?_
            refine WR.st (St.box hS (by kernel_rfl) (.cells #[.slice A15 r11.length c16] 22) (fun b57 => .slice (some ⟨b57, 0, none⟩) 1 1) (fun _ => by kernel_rfl) (fun b57 w58 hS => ?_))
            refine WR.runk [] [25, 26, 27, 28] [53, 55] (L' := [(53, .bool true), (55, .slice (some ⟨b57, 0, none⟩) 1 1)]) (w' := w58) (by kernel_rfl) ?_
            obtain ⟨r59, e60, H⟩ := bind_ex H
            refine WR.st (St.call (by kernel_rfl) (f := 10) (args := #[.slice (some ⟨b57, 0, none⟩) 1 1]) (by kernel_rfl) (crc_Sum.calls w58 (some ⟨b57, 0, none⟩) 1 ([r11] : List (List Int)) (Sat.ptsAt 0 (rd (hp w58) (.slice 5 (.int .u8))) 1 ([r11] : List (List Int)) hS rfl rfl (rdL.cons1 ⟨_, _, rfl, (rdS.r0up (Sat.rdAt 7 hS rfl))⟩ (rdL.nil _ _))) r59 e60) ?_)
            rintro _ w61 ⟨rfl, hS62⟩
            have hS : Sat w61 (rf w0) [pts b57 (.cells #[.slice A15 r11.length c16] 22 (0, 0)), pts b50 (.cells #[.slice A48 r44.length c49] 22 (0, 0)), osl 5 (r0 (.int .u8)) 1 A48 c49 r44, pts b38 (.cells #[.slice A15 r11.length c16] 22 (0, 0)), osl 5 (r0 (.int .u8)) 1 A33 c34 r29.1, osl 5 (r0 (.int .u8)) 1 A27 c28 r23.1, osl 5 (r0 (.int .u8)) 1 A21 c22 r17, osl 5 (r0 (.int .u8)) 1 A15 c16 r11] := hS.ext hS62
            refine WR.runk [26, 27, 28] [] [2] (L' := [(2, .bool (r59 == 558161692))]) (w' := w61) (by kernel_rfl) ?_
            refine WR.nil ?_
            refine At.go ?_
            refine WC.ret (by kernel_rfl) ?_
            obtain rfl := Option.some.inj H
            have hS : Sat w61 (rf w0) [] := hS.sel [] (by kernel_rfl)
            exact At.body [.bool (r59 == 558161692)] (by kernel_rfl) ⟨_, rfl, rfl, hS⟩
          · replace H := ite_f H hb56
            refine WR.runk [23, 24, 25, 26, 27, 28] [] [2] (L' := [(2, .bool false)]) (w' := w54) (by kernel_rfl) ?_
            refine WR.nil ?_
            refine At.go ?_
            refine WC.ret (by kernel_rfl) ?_
            obtain rfl := Option.some.inj H
            have hS : Sat w54 (rf w0) [] := hS.sel [] (by kernel_rfl)
            exact At.body [.bool false] (by kernel_rfl) ⟨_, rfl, rfl, hS⟩
        · replace H := ite_f H hb37
          refine WR.runk [14, 15, 16, 17, 18, 19, 20, 21, 22, 23, 24, 25, 26, 27, 28] [] [2] (L' := [(2, .bool false)]) (w' := w31) (by kernel_rfl) ?_
          refine WR.nil ?_
          refine At.go ?_
          refine WC.ret (by kernel_rfl) ?_
          obtain rfl := Option.some.inj H
          have hS : Sat w31 (rf w0) [] := hS.sel [] (by kernel_rfl)
          exact At.body [.bool false] (by kernel_rfl) ⟨_, rfl, rfl, hS⟩
      · replace H := ite_f H hb36
        refine WR.runk [7, 8, 9, 10, 11, 12, 13, 14, 15, 16, 17, 18, 19, 20, 21, 22, 23, 24, 25, 26, 27, 28] [] [2] (L' := [(2, .bool false)]) (w' := w31) (by kernel_rfl) ?_
        refine WR.nil ?_
        refine At.go ?_
        refine WC.ret (by kernel_rfl) ?_
        obtain rfl := Option.some.inj H
        have hS : Sat w31 (rf w0) [] := hS.sel [] (by kernel_rfl)
        exact At.body [.bool false] (by kernel_rfl) ⟨_, rfl, rfl, hS⟩
    · replace H := ite_f H hb35
      refine WR.runk [3, 4, 5, 6, 7, 8, 9, 10, 11, 12, 13, 14, 15, 16, 17, 18, 19, 20, 21, 22, 23, 24, 25, 26, 27, 28] [] [2] (L' := [(2, .bool false)]) (w' := w31) (by kernel_rfl) ?_
      refine WR.nil ?_
      refine At.go ?_
      refine WC.ret (by kernel_rfl) ?_
      obtain rfl := Option.some.inj H
      have hS : Sat w31 (rf w0) [] := hS.sel [] (by kernel_rfl)
      exact At.body [.bool false] (by kernel_rfl) ⟨_, rfl, rfl, hS⟩
end Go.Proofs.Ytcbagmeglbleaaa
