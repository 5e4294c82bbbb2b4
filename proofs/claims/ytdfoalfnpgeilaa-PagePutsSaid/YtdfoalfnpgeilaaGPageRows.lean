/-
  Printed by gen.py (my own tool): for each Go function a plain Lean function and the proof that a call of it does what that function says.
-/
import Derived.Test.YtdfoalfnpgeilaaGP1
set_option linter.unusedVariables false
set_option linter.unusedSimpArgs false
set_option maxRecDepth 100000
namespace Go.Proofs.Ytdfoalfnpgeilaa
open Go Go.Gol
/-! ### 5 colophon/colophonlaw05.PageRows -/
def colophonlaw05_PageRows.l1 (l1 : List Int) (a2_0 : Int) (a2_1 : Int) : Nat → (List Int) → Int → Option (List Int)
  | 0, _, _ => none
  | k + 1, x7_l1, x10_l1 => (if decide (x10_l1 < 32) then (if ((iand .u32 (ishr .u32 a2_1 (IntKind.wrap .u64 x10_l1)) 1) == 1) then ((at? x7_l1 (wi (Int.tdiv (wi ((wi (Int.tmod a2_0 2081)) + x10_l1)) 8))).bind fun v31 => ((set? x7_l1 (wi (Int.tdiv (wi ((wi (Int.tmod a2_0 2081)) + x10_l1)) 8)) (ixor .u8 v31 (ishl .u8 1 (IntKind.wrap .u64 (Int.tmod (wi ((wi (Int.tmod a2_0 2081)) + x10_l1)) 8))))).bind fun y33 => colophonlaw05_PageRows.l1 l1 a2_0 a2_1 k y33 (wi (x10_l1 + 1)))) else colophonlaw05_PageRows.l1 l1 a2_0 a2_1 k x7_l1 (wi (x10_l1 + 1))) else some x7_l1)
def colophonlaw05_PageRows.f (a0 : Int) (l1 : List Int) (a2_0 : Int) (a2_1 : Int) : Option Bool := (colophonlaw05_first.f.bind fun r4 => (if (!r4) then some false else ((page_Put.f a0 l1).bind fun r14 => (if (r14.2 != 0) then (if (r14.2 == 0) then some true else some ((r14.1.length : Int) == 0)) else (if (a2_1 == 0) then (if (r14.2 == 0) then some true else some ((r14.1.length : Int) == 0)) else ((colophonlaw05_PageRows.l1 l1 a2_0 a2_1 FU r14.1 0).bind fun o37 => ((page_Get.f o37).bind fun r42 => (if (r42.2.2 == 40) then some ((r42.2.1.length : Int) == 0) else some false))))))))
def colophonlaw05_PageRows.post (w : World) (r : Bool) (v : Value) (w' : World) : Prop := v = (.bool r : Value) ∧ Sat w' (rf w) []
theorem colophonlaw05_PageRows.l1_ok {Q} (w0 : World) (l1 : List Int) (a2_0 : Int) (a2_1 : Int) (b1 : Nat) (out : (List Int)) (hn0 : ∀ (A7_q : Option Addr) (c7_q : Nat) (w : World), Sat w (rf w0) [osl 5 (r0 (.int .u8)) 1 A7_q c7_q out, pts b1 (.cells #[.int .u32 a2_0, .int .u32 a2_1] 37 (0, 0))] → At Q (.exit 0) 79 [(7, .slice A7_q out.length c7_q)] w) :
    ∀ (k : Nat) (x7_l1 : List Int) (x10_l1 : Int) (A7_l1 : Option Addr) (c7_l1 : Nat) (w : World), Sat w (rf w0) [osl 5 (r0 (.int .u8)) 1 A7_l1 c7_l1 x7_l1, pts b1 (.cells #[.int .u32 a2_0, .int .u32 a2_1] 37 (0, 0))] → colophonlaw05_PageRows.l1 l1 a2_0 a2_1 k x7_l1 x10_l1 = some out → WL Try.prog (cbody (cbody (cr (cl (cr (cr (cr (cr (cr C5))))))))) Q 79 [(5, .pointer (some ⟨b1, 0, none⟩)), (7, .slice A7_l1 x7_l1.length c7_l1), (9, .int .i64 (wi (Int.tmod a2_0 2081))), (10, .int .i64 x10_l1)] w := by
  intro k
  induction k with
  | zero => intro x7_l1 x10_l1 A7_l1 c7_l1 w hS H; exact absurd (show none = some out from H) (by simp)
  | succ k ih =>
    intro x7_l1 x10_l1 A7_l1 c7_l1 w hS H
    unfold colophonlaw05_PageRows.l1 at H
    refine WL.round ?_
    refine WC.seq (by kernel_rfl) ?_
    refine WC.seq (by kernel_rfl) ?_
    refine WC.reg [0, 1] (by kernel_rfl) (by kernel_rfl) ?_
    refine WR.runk [0, 1] [] [5, 7, 9, 10, 41] (L' := [(5, .pointer (some ⟨b1, 0, none⟩)), (7, .slice A7_l1 x7_l1.length c7_l1), (9, .int .i64 (wi (Int.tmod a2_0 2081))), (10, .int .i64 x10_l1), (41, .bool (decide (x10_l1 < 32)))]) (w' := w) (by kernel_rfl) ?_
    refine WR.nil ?_
    refine At.go ?_
    refine WC.cond (by kernel_rfl) (decide (x10_l1 < 32)) (by kernel_rfl) (by kernel_rfl) (fun hb29 => ?_) (fun hb29 => ?_)
    · replace H := ite_t H hb29
      refine WC.skip (by kernel_rfl) ?_
      refine At.go ?_
      refine WC.seq (by kernel_rfl) ?_
      refine WC.block (by kernel_rfl) ?_
      refine WC.seq (by kernel_rfl) ?_
      refine WC.reg [0, 1, 2, 3, 4, 5, 6] (by kernel_rfl) (by kernel_rfl) ?_
      refine WR.runk [0] [1, 2, 3, 4, 5, 6] [5, 7, 9, 10, 44] (L' := [(5, .pointer (some ⟨b1, 0, none⟩)), (7, .slice A7_l1 x7_l1.length c7_l1), (9, .int .i64 (wi (Int.tmod a2_0 2081))), (10, .int .i64 x10_l1), (44, .pointer (some ⟨b1, 1, none⟩))]) (w' := w) (by kernel_rfl) ?_
      refine WR.st (St.ofR (RSt.loadObj (t := 36) (k := 1) (v := .int .u32 a2_1) (.tmp 44) (by kernel_rfl) (by kernel_rfl) (by kernel_rfl) 1 hS rfl (by kernel_rfl) rfl ?_))
      refine WR.runk [2, 3] [4, 5, 6] [5, 7, 9, 10, 45, 47] (L' := [(5, .pointer (some ⟨b1, 0, none⟩)), (7, .slice A7_l1 x7_l1.length c7_l1), (9, .int .i64 (wi (Int.tmod a2_0 2081))), (10, .int .i64 x10_l1), (45, .int .u32 a2_1), (47, .int .u64 (IntKind.wrap .u64 x10_l1))]) (w' := w) (by kernel_rfl) ?_
      refine WR.st (St.ofP (PSt.shift (k := .u32) (k2 := .u64) (t := 36) (t2 := 38) (a := a2_1) (b := (IntKind.wrap .u64 x10_l1)) .shr (by decide) (.tmp 45) (.tmp 47) (by kernel_rfl) (by kernel_rfl) (by kernel_rfl) (by kernel_rfl) (wrap_u64_nonneg _) ?_))
      refine WR.runk [5, 6] [] [5, 7, 9, 10, 50] (L' := [(5, .pointer (some ⟨b1, 0, none⟩)), (7, .slice A7_l1 x7_l1.length c7_l1), (9, .int .i64 (wi (Int.tmod a2_0 2081))), (10, .int .i64 x10_l1), (50, .bool ((iand .u32 (ishr .u32 a2_1 (IntKind.wrap .u64 x10_l1)) 1) == 1))]) (w' := w) (by kernel_rfl) ?_
      refine WR.nil ?_
      refine At.go ?_
      refine WC.cond (by kernel_rfl) ((iand .u32 (ishr .u32 a2_1 (IntKind.wrap .u64 x10_l1)) 1) == 1) (by kernel_rfl) (by kernel_rfl) (fun hb30 => ?_) (fun hb30 => ?_)
      · replace H := ite_t H hb30
        refine WC.reg [0, 1, 2, 3, 4, 5, 6, 7, 8, 9, 10, 11, 12, 13, 14, 15] (by kernel_rfl) (by kernel_rfl) ?_
        refine WR.runk [0, 1, 2, 3, 4] [5, 6, 7, 8, 9, 10, 11, 12, 13, 14, 15] [5, 7, 9, 10, 51, 55] (L' := [(5, .pointer (some ⟨b1, 0, none⟩)), (7, .slice A7_l1 x7_l1.length c7_l1), (9, .int .i64 (wi (Int.tmod a2_0 2081))), (10, .int .i64 x10_l1), (51, .slice A7_l1 x7_l1.length c7_l1), (55, .int .i64 (wi (Int.tdiv (wi ((wi (Int.tmod a2_0 2081)) + x10_l1)) 8)))]) (w' := w) (by kernel_rfl) ?_
        obtain ⟨v31, e32, H⟩ := bind_ex H
        refine WR.st (St.ofP (PSt.idx (k := .i64) (.tmp 51) (.tmp 55) (by kernel_rfl) (by kernel_rfl) E22 (by kernel_rfl) (by kernel_rfl) (Sat.rdAt 0 hS rfl) e32 ?_))
        refine WR.runk [] [6, 7, 8, 9, 10, 11, 12, 13, 14, 15] [5, 7, 9, 10, 51, 55, 56] (L' := [(5, .pointer (some ⟨b1, 0, none⟩)), (7, .slice A7_l1 x7_l1.length c7_l1), (9, .int .i64 (wi (Int.tmod a2_0 2081))), (10, .int .i64 x10_l1), (51, .slice A7_l1 x7_l1.length c7_l1), (55, .int .i64 (wi (Int.tdiv (wi ((wi (Int.tmod a2_0 2081)) + x10_l1)) 8))), (56, .pointer (some (adr A7_l1 (wi (Int.tdiv (wi ((wi (Int.tmod a2_0 2081)) + x10_l1)) 8)).toNat 1)))]) (w' := w) (by kernel_rfl) ?_
        refine WR.st (St.ofR (RSt.loadInt (t := 5) (.tmp 56) (by kernel_rfl) (by kernel_rfl) (by kernel_rfl) (by kernel_rfl) (Sat.rdAt 0 hS rfl) e32 ?_))
        refine WR.runk [7, 8, 9, 10, 11] [12, 13, 14, 15] [5, 7, 9, 10, 51, 55, 57, 62] (L' := [(5, .pointer (some ⟨b1, 0, none⟩)), (7, .slice A7_l1 x7_l1.length c7_l1), (9, .int .i64 (wi (Int.tmod a2_0 2081))), (10, .int .i64 x10_l1), (51, .slice A7_l1 x7_l1.length c7_l1), (55, .int .i64 (wi (Int.tdiv (wi ((wi (Int.tmod a2_0 2081)) + x10_l1)) 8))), (57, .int .u8 v31), (62, .int .u64 (IntKind.wrap .u64 (Int.tmod (wi ((wi (Int.tmod a2_0 2081)) + x10_l1)) 8)))]) (w' := w) (by kernel_rfl) ?_
        refine WR.st (St.ofP (PSt.shift (k := .u8) (k2 := .u64) (t := 5) (t2 := 38) (a := 1) (b := (IntKind.wrap .u64 (Int.tmod (wi ((wi (Int.tmod a2_0 2081)) + x10_l1)) 8))) .shl (by decide) (.const (.int .u8 1)) (.tmp 62) (by kernel_rfl) (by kernel_rfl) (by kernel_rfl) (by kernel_rfl) (wrap_u64_nonneg _) ?_))
        refine WR.runk [13] [14, 15] [5, 7, 9, 10, 51, 55, 64] (L' := [(5, .pointer (some ⟨b1, 0, none⟩)), (7, .slice A7_l1 x7_l1.length c7_l1), (9, .int .i64 (wi (Int.tmod a2_0 2081))), (10, .int .i64 x10_l1), (51, .slice A7_l1 x7_l1.length c7_l1), (55, .int .i64 (wi (Int.tdiv (wi ((wi (Int.tmod a2_0 2081)) + x10_l1)) 8))), (64, .int .u8 (ixor .u8 v31 (ishl .u8 1 (IntKind.wrap .u64 (Int.tmod (wi ((wi (Int.tmod a2_0 2081)) + x10_l1)) 8)))))]) (w' := w) (by kernel_rfl) ?_
        refine WR.st (St.ofP (PSt.idx (k := .i64) (.tmp 51) (.tmp 55) (by kernel_rfl) (by kernel_rfl) E22 (by kernel_rfl) (by kernel_rfl) (Sat.rdAt 0 hS rfl) e32 ?_))
        refine WR.runk [] [15] [5, 7, 9, 10, 64, 65] (L' := [(5, .pointer (some ⟨b1, 0, none⟩)), (7, .slice A7_l1 x7_l1.length c7_l1), (9, .int .i64 (wi (Int.tmod a2_0 2081))), (10, .int .i64 x10_l1), (64, .int .u8 (ixor .u8 v31 (ishl .u8 1 (IntKind.wrap .u64 (Int.tmod (wi ((wi (Int.tmod a2_0 2081)) + x10_l1)) 8))))), (65, .pointer (some (adr A7_l1 (wi (Int.tdiv (wi ((wi (Int.tmod a2_0 2081)) + x10_l1)) 8)).toNat 1)))]) (w' := w) (by kernel_rfl) ?_
        obtain ⟨y33, e34, H⟩ := bind_ex H
        refine WR.st (St.storeElem' (t := 5) (.tmp 65) (.tmp 64) (by kernel_rfl) (by kernel_rfl) (by kernel_rfl) hS (by kernel_rfl) (by kernel_rfl) rfl e34 rfl (fun w35 hS => ?_))
        have hl36 := set?_len e34
        refine WR.know 7 (.slice A7_l1 y33.length c7_l1) (.slice A7_l1 x7_l1.length c7_l1) (by kernel_rfl) (by rw [hl36]) ?_
        refine WR.runk [] [] [5, 7, 9, 10] (L' := [(5, .pointer (some ⟨b1, 0, none⟩)), (7, .slice A7_l1 y33.length c7_l1), (9, .int .i64 (wi (Int.tmod a2_0 2081))), (10, .int .i64 x10_l1)]) (w' := w35) (by kernel_rfl) ?_
        refine WR.nil ?_
        refine At.blockNormal ?_
        refine At.go ?_
        refine WC.reg [0, 1, 2] (by kernel_rfl) (by kernel_rfl) ?_
        refine WR.runk [0, 1, 2] [] [5, 7, 9, 10] (L' := [(5, .pointer (some ⟨b1, 0, none⟩)), (7, .slice A7_l1 y33.length c7_l1), (9, .int .i64 (wi (Int.tmod a2_0 2081))), (10, .int .i64 (wi (x10_l1 + 1)))]) (w' := w35) (by kernel_rfl) ?_
        refine WR.nil ?_
        have hS : Sat w35 (rf w0) [osl 5 (r0 (.int .u8)) 1 A7_l1 c7_l1 y33, pts b1 (.cells #[.int .u32 a2_0, .int .u32 a2_1] 37 (0, 0))] := hS.sel [0, 1] (by kernel_rfl)
        refine At.again ?_
        refine WL.weaken [5, 7, 9, 10] (L' := [(5, .pointer (some ⟨b1, 0, none⟩)), (7, .slice A7_l1 y33.length c7_l1), (9, .int .i64 (wi (Int.tmod a2_0 2081))), (10, .int .i64 (wi (x10_l1 + 1)))]) (by kernel_rfl) ?_
        exact ih y33 (wi (x10_l1 + 1)) A7_l1 c7_l1 _ hS H
      · replace H := ite_f H hb30
        refine WC.skip (by kernel_rfl) ?_
        refine At.blockNormal ?_
        refine At.go ?_
        refine WC.reg [0, 1, 2] (by kernel_rfl) (by kernel_rfl) ?_
        refine WR.runk [0, 1, 2] [] [5, 7, 9, 10] (L' := [(5, .pointer (some ⟨b1, 0, none⟩)), (7, .slice A7_l1 x7_l1.length c7_l1), (9, .int .i64 (wi (Int.tmod a2_0 2081))), (10, .int .i64 (wi (x10_l1 + 1)))]) (w' := w) (by kernel_rfl) ?_
        refine WR.nil ?_
        have hS : Sat w (rf w0) [osl 5 (r0 (.int .u8)) 1 A7_l1 c7_l1 x7_l1, pts b1 (.cells #[.int .u32 a2_0, .int .u32 a2_1] 37 (0, 0))] := hS.sel [0, 1] (by kernel_rfl)
        refine At.again ?_
        refine WL.weaken [5, 7, 9, 10] (L' := [(5, .pointer (some ⟨b1, 0, none⟩)), (7, .slice A7_l1 x7_l1.length c7_l1), (9, .int .i64 (wi (Int.tmod a2_0 2081))), (10, .int .i64 (wi (x10_l1 + 1)))]) (by kernel_rfl) ?_
        exact ih x7_l1 (wi (x10_l1 + 1)) A7_l1 c7_l1 _ hS H
    · replace H := ite_f H hb29
      refine WC.exit (by kernel_rfl) ?_
      refine At.thenExit ?_
      refine At.thenExit ?_
      obtain rfl := Option.some.inj H
      have hS : Sat w (rf w0) [osl 5 (r0 (.int .u8)) 1 A7_l1 c7_l1 x7_l1, pts b1 (.cells #[.int .u32 a2_0, .int .u32 a2_1] 37 (0, 0))] := hS.sel [0, 1] (by kernel_rfl)
      refine At.weaken [7] (L' := [(7, .slice A7_l1 x7_l1.length c7_l1)]) (by kernel_rfl) ?_
      exact hn0 A7_l1 c7_l1 _ hS
theorem colophonlaw05_PageRows.calls (w0 : World) (a0 : Int) (A1 : Option Addr) (c1 : Nat) (l1 : List Int) (R1 : rdS (r0 (.int .u8)) 1 (hp w0) A1 c1 l1) (a2_0 : Int) (a2_1 : Int) (r : Bool) (H : colophonlaw05_PageRows.f a0 l1 a2_0 a2_1 = some r) :
    Calls Try.prog 5 #[.int .i64 a0, .slice A1 l1.length c1, .agg #[.int .u32 a2_0, .int .u32 a2_1]] w0 (fun e w' => ∃ v, e = .returned v ∧ colophonlaw05_PageRows.post w0 r v w') := by
  have hS : Sat w0 (rf w0) [] := Sat.start w0
  unfold colophonlaw05_PageRows.f at H
  refine calls_of_WC (vs := [.int .i64 a0, .slice A1 l1.length c1, .agg #[.int .u32 a2_0, .int .u32 a2_1]]) Try.func5 (c := C5) (n := 79) (by kernel_rfl) (by kernel_rfl) (by kernel_rfl) ?_
  refine WC.seq (by kernel_rfl) ?_
  refine WC.reg [0, 1] (by kernel_rfl) (by kernel_rfl) ?_
  refine WR.runk [] [0, 1] [0, 1, 2] (L' := [(0, .int .i64 a0), (1, .slice A1 l1.length c1), (2, .agg #[.int .u32 a2_0, .int .u32 a2_1])]) (w' := w0) (by kernel_rfl) ?_
  refine WR.st (St.box hS (by kernel_rfl) (.cells #[.int .u32 a2_0, .int .u32 a2_1] 37) (fun b1 => .pointer (some ⟨b1, 0, none⟩)) (fun _ => by kernel_rfl) (fun b1 w2 hS => ?_))
  refine WR.runk [1] [] [0, 1, 5] (L' := [(0, .int .i64 a0), (1, .slice A1 l1.length c1), (5, .pointer (some ⟨b1, 0, none⟩))]) (w' := w2) (by kernel_rfl) ?_
  refine WR.nil ?_
  refine At.go ?_
  refine WC.seq (by kernel_rfl) ?_
  refine WC.seq (by kernel_rfl) ?_
  refine WC.reg [0, 1] (by kernel_rfl) (by kernel_rfl) ?_
  obtain ⟨r4, e5, H⟩ := bind_ex H
  refine WR.st (St.call (by kernel_rfl) (f := 8) (args := #[]) (by kernel_rfl) (colophonlaw05_first.calls w2  r4 e5) ?_)
  rintro _ w11 ⟨rfl, hS12⟩
  have hS : Sat w11 (rf w0) [pts b1 (.cells #[.int .u32 a2_0, .int .u32 a2_1] 37 (0, 0))] := hS.ext hS12
  refine WR.runk [1] [] [0, 1, 5, 15] (L' := [(0, .int .i64 a0), (1, .slice A1 l1.length c1), (5, .pointer (some ⟨b1, 0, none⟩)), (15, .bool (!r4))]) (w' := w11) (by kernel_rfl) ?_
  refine WR.nil ?_
  refine At.go ?_
  refine WC.cond (by kernel_rfl) (!r4) (by kernel_rfl) (by kernel_rfl) (fun hb13 => ?_) (fun hb13 => ?_)
  · replace H := ite_t H hb13
    refine WC.seq (by kernel_rfl) ?_
    refine WC.reg [0] (by kernel_rfl) (by kernel_rfl) ?_
    refine WR.runk [0] [] [6] (L' := [(6, .bool false)]) (w' := w11) (by kernel_rfl) ?_
    refine WR.nil ?_
    refine At.go ?_
    refine WC.ret (by kernel_rfl) ?_
    refine At.thenRet ?_
    obtain rfl := Option.some.inj H
    have hS : Sat w11 (rf w0) [] := hS.sel [] (by kernel_rfl)
    exact At.body [.bool false] (by kernel_rfl) ⟨_, rfl, rfl, hS⟩
  · replace H := ite_f H hb13
    refine WC.skip (by kernel_rfl) ?_
    refine At.go ?_
    refine WC.seq (by kernel_rfl) ?_
    refine WC.reg [0, 1, 2, 3, 4, 5, 6, 7] (by kernel_rfl) (by kernel_rfl) ?_
    refine WR.runk [0, 1] [2, 3, 4, 5, 6, 7] [5, 17, 18] (L' := [(5, .pointer (some ⟨b1, 0, none⟩)), (17, .int .i64 a0), (18, .slice A1 l1.length c1)]) (w' := w11) (by kernel_rfl) ?_
    obtain ⟨r14, e15, H⟩ := bind_ex H
    refine WR.st (St.call (by kernel_rfl) (f := 9) (args := #[.int .i64 a0, .slice A1 l1.length c1]) (by kernel_rfl) (page_Put.calls w11 a0 A1 c1 l1 (rdS.up R1 hS.sub0) r14 e15) ?_)
    rintro _ w21 ⟨A23, c24, rfl, hS22⟩
    have hS : Sat w21 (rf w0) [osl 5 (r0 (.int .u8)) 1 A23 c24 r14.1, pts b1 (.cells #[.int .u32 a2_0, .int .u32 a2_1] 37 (0, 0))] := hS.ext hS22
    refine WR.runk [3, 4, 5, 6, 7] [] [5, 7, 8] (L' := [(5, .pointer (some ⟨b1, 0, none⟩)), (7, .slice A23 r14.1.length c24), (8, .int .i64 r14.2)]) (w' := w21) (by kernel_rfl) ?_
    refine WR.nil ?_
    refine At.go ?_
    refine WC.seq (by kernel_rfl) ?_
    refine WC.seq (by kernel_rfl) ?_
    refine WC.reg [0, 1, 2, 3, 4, 5, 6] (by kernel_rfl) (by kernel_rfl) ?_
    refine WR.runk [0, 1, 2] [3, 4, 5, 6] [5, 7, 8, 24] (L' := [(5, .pointer (some ⟨b1, 0, none⟩)), (7, .slice A23 r14.1.length c24), (8, .int .i64 r14.2), (24, .bool (r14.2 != 0))]) (w' := w21) (by kernel_rfl) ?_
    refine WR.split 24 (b := (r14.2 != 0)) (by kernel_rfl) (fun hb25 => ?_) (fun hb25 => ?_)
    · replace H := ite_t H hb25
      refine WR.runk [3, 4, 5, 6] [] [5, 7, 8, 28] (L' := [(5, .pointer (some ⟨b1, 0, none⟩)), (7, .slice A23 r14.1.length c24), (8, .int .i64 r14.2), (28, .bool true)]) (w' := w21) (by kernel_rfl) ?_
      refine WR.nil ?_
      refine At.go ?_
      refine WC.condT (by kernel_rfl) (by kernel_rfl) (by kernel_rfl) ?_
      refine WC.seq (by kernel_rfl) ?_
      refine WC.reg [0, 1, 2, 3, 4, 5, 6, 7] (by kernel_rfl) (by kernel_rfl) ?_
      refine WR.runk [0, 1, 2] [3, 4, 5, 6, 7] [7, 31] (L' := [(7, .slice A23 r14.1.length c24), (31, .bool (r14.2 == 0))]) (w' := w21) (by kernel_rfl) ?_
      refine WR.split 31 (b := (r14.2 == 0)) (by kernel_rfl) (fun hb26 => ?_) (fun hb26 => ?_)
      · replace H := ite_t H hb26
        refine WR.runk [3, 4, 5, 6, 7] [] [6] (L' := [(6, .bool true)]) (w' := w21) (by kernel_rfl) ?_
        refine WR.nil ?_
        refine At.go ?_
        refine WC.ret (by kernel_rfl) ?_
        refine At.thenRet ?_
        obtain rfl := Option.some.inj H
        have hS : Sat w21 (rf w0) [] := hS.sel [] (by kernel_rfl)
        exact At.body [.bool true] (by kernel_rfl) ⟨_, rfl, rfl, hS⟩
      · replace H := ite_f H hb26
        refine WR.runk [3, 4, 5, 6, 7] [] [6] (L' := [(6, .bool ((r14.1.length : Int) == 0))]) (w' := w21) (by kernel_rfl) ?_
        refine WR.nil ?_
        refine At.go ?_
        refine WC.ret (by kernel_rfl) ?_
        refine At.thenRet ?_
        obtain rfl := Option.some.inj H
        have hS : Sat w21 (rf w0) [] := hS.sel [] (by kernel_rfl)
        exact At.body [.bool ((r14.1.length : Int) == 0)] (by kernel_rfl) ⟨_, rfl, rfl, hS⟩
    · replace H := ite_f H hb25
      refine WR.runk [3] [4, 5, 6] [5, 7, 8, 24, 25] (L' := [(5, .pointer (some ⟨b1, 0, none⟩)), (7, .slice A23 r14.1.length c24), (8, .int .i64 r14.2), (24, .bool false), (25, .pointer (some ⟨b1, 1, none⟩))]) (w' := w21) (by kernel_rfl) ?_
      refine WR.st (St.ofR (RSt.loadObj (t := 36) (k := 1) (v := .int .u32 a2_1) (.tmp 25) (by kernel_rfl) (by kernel_rfl) (by kernel_rfl) 1 hS rfl (by kernel_rfl) rfl ?_))
      refine WR.runk [5, 6] [] [5, 7, 8, 28] (L' := [(5, .pointer (some ⟨b1, 0, none⟩)), (7, .slice A23 r14.1.length c24), (8, .int .i64 r14.2), (28, .bool (a2_1 == 0))]) (w' := w21) (by kernel_rfl) ?_
      refine WR.nil ?_
      refine At.go ?_
      refine WC.cond (by kernel_rfl) (a2_1 == 0) (by kernel_rfl) (by kernel_rfl) (fun hb27 => ?_) (fun hb27 => ?_)
      · replace H := ite_t H hb27
        refine WC.seq (by kernel_rfl) ?_
        refine WC.reg [0, 1, 2, 3, 4, 5, 6, 7] (by kernel_rfl) (by kernel_rfl) ?_
        refine WR.runk [0, 1, 2] [3, 4, 5, 6, 7] [7, 31] (L' := [(7, .slice A23 r14.1.length c24), (31, .bool (r14.2 == 0))]) (w' := w21) (by kernel_rfl) ?_
        refine WR.split 31 (b := (r14.2 == 0)) (by kernel_rfl) (fun hb28 => ?_) (fun hb28 => ?_)
        · replace H := ite_t H hb28
          refine WR.runk [3, 4, 5, 6, 7] [] [6] (L' := [(6, .bool true)]) (w' := w21) (by kernel_rfl) ?_
          refine WR.nil ?_
          refine At.go ?_
          refine WC.ret (by kernel_rfl) ?_
          refine At.thenRet ?_
          obtain rfl := Option.some.inj H
          have hS : Sat w21 (rf w0) [] := hS.sel [] (by kernel_rfl)
          exact At.body [.bool true] (by kernel_rfl) ⟨_, rfl, rfl, hS⟩
        · replace H := ite_f H hb28
          refine WR.runk [3, 4, 5, 6, 7] [] [6] (L' := [(6, .bool ((r14.1.length : Int) == 0))]) (w' := w21) (by kernel_rfl) ?_
          refine WR.nil ?_
          refine At.go ?_
          refine WC.ret (by kernel_rfl) ?_
          refine At.thenRet ?_
          obtain rfl := Option.some.inj H
          have hS : Sat w21 (rf w0) [] := hS.sel [] (by kernel_rfl)
          exact At.body [.bool ((r14.1.length : Int) == 0)] (by kernel_rfl) ⟨_, rfl, rfl, hS⟩
      · replace H := ite_f H hb27
        refine WC.skip (by kernel_rfl) ?_
        refine At.go ?_
        refine WC.seq (by kernel_rfl) ?_
        refine WC.reg [0, 1, 2, 3, 4] (by kernel_rfl) (by kernel_rfl) ?_
        refine WR.runk [0] [1, 2, 3, 4] [5, 7, 36] (L' := [(5, .pointer (some ⟨b1, 0, none⟩)), (7, .slice A23 r14.1.length c24), (36, .pointer (some ⟨b1, 0, none⟩))]) (w' := w21) (by kernel_rfl) ?_
        refine WR.st (St.ofR (RSt.loadObj (t := 36) (k := 0) (v := .int .u32 a2_0) (.tmp 36) (by kernel_rfl) (by kernel_rfl) (by kernel_rfl) 1 hS rfl (by kernel_rfl) rfl ?_))
        refine WR.runk [2, 3, 4] [] [5, 7, 9] (L' := [(5, .pointer (some ⟨b1, 0, none⟩)), (7, .slice A23 r14.1.length c24), (9, .int .i64 (wi (Int.tmod a2_0 2081)))]) (w' := w21) (by kernel_rfl) ?_
        refine WR.nil ?_
        refine At.go ?_
        refine WC.seq (by kernel_rfl) ?_
        refine WC.seq (by kernel_rfl) ?_
        refine WC.reg [0] (by kernel_rfl) (by kernel_rfl) ?_
        refine WR.runk [0] [] [5, 7, 9, 10] (L' := [(5, .pointer (some ⟨b1, 0, none⟩)), (7, .slice A23 r14.1.length c24), (9, .int .i64 (wi (Int.tmod a2_0 2081))), (10, .int .i64 0)]) (w' := w21) (by kernel_rfl) ?_
        refine WR.nil ?_
        refine At.go ?_
        refine WC.block (by kernel_rfl) ?_
        have hS : Sat w21 (rf w0) [osl 5 (r0 (.int .u8)) 1 A23 c24 r14.1, pts b1 (.cells #[.int .u32 a2_0, .int .u32 a2_1] 37 (0, 0))] := hS.sel [0, 1] (by kernel_rfl)
        obtain ⟨o37, e38, H⟩ := bind_ex H
        refine WC.loop (by kernel_rfl) ?_
        refine WL.weaken [5, 7, 9, 10] (L' := [(5, .pointer (some ⟨b1, 0, none⟩)), (7, .slice A23 r14.1.length c24), (9, .int .i64 (wi (Int.tmod a2_0 2081))), (10, .int .i64 0)]) (by kernel_rfl) ?_
        refine colophonlaw05_PageRows.l1_ok w0 l1 a2_0 a2_1 b1 o37 (fun A7_q39 c7_q39 w40 hS => ?_) FU r14.1 0 A23 c24 _ hS e38
        refine At.hit ?_
        refine At.go ?_
        refine WC.seq (by kernel_rfl) ?_
        refine WC.reg [0, 1, 2, 3, 4, 5, 6, 7, 8] (by kernel_rfl) (by kernel_rfl) ?_
        refine WR.runk [0] [1, 2, 3, 4, 5, 6, 7, 8] [67] (L' := [(67, .slice A7_q39 o37.length c7_q39)]) (w' := w40) (by kernel_rfl) ?_
        obtain ⟨r42, e43, H⟩ := bind_ex H
        refine WR.st (St.call (by kernel_rfl) (f := 11) (args := #[.slice A7_q39 o37.length c7_q39]) (by kernel_rfl) (page_Get.calls w40 A7_q39 c7_q39 o37 (Sat.rdAt 0 hS rfl) r42 e43) ?_)
        rintro _ w49 ⟨A51, c52, rfl, hS50⟩
        have hS : Sat w49 (rf w0) [osl 5 (r0 (.int .u8)) 1 A51 c52 r42.2.1, osl 5 (r0 (.int .u8)) 1 A7_q39 c7_q39 o37, pts b1 (.cells #[.int .u32 a2_0, .int .u32 a2_1] 37 (0, 0))] := hS.ext hS50
        refine WR.runk [2, 3, 4, 5, 6, 7, 8] [] [12, 13] (L' := [(12, .slice A51 r42.2.1.length c52), (13, .int .i64 r42.2.2)]) (w' := w49) (by kernel_rfl) ?_
        refine WR.nil ?_
        refine At.go ?_
        refine WC.seq (by kernel_rfl) ?_
        refine WC.reg [0, 1, 2, 3, 4, 5, 6, 7] (by kernel_rfl) (by kernel_rfl) ?_
        refine WR.runk [0, 1, 2] [3, 4, 5, 6, 7] [12, 74] (L' := [(12, .slice A51 r42.2.1.length c52), (74, .bool (r42.2.2 == 40))]) (w' := w49) (by kernel_rfl) ?_
        refine WR.split 74 (b := (r42.2.2 == 40)) (by kernel_rfl) (fun hb53 => ?_) (fun hb53 => ?_)
        · replace H := ite_t H hb53
          refine WR.runk [3, 4, 5, 6, 7] [] [6] (L' := [(6, .bool ((r42.2.1.length : Int) == 0))]) (w' := w49) (by kernel_rfl) ?_
          refine WR.nil ?_
          refine At.go ?_
          refine WC.ret (by kernel_rfl) ?_
          obtain rfl := Option.some.inj H
          have hS : Sat w49 (rf w0) [] := hS.sel [] (by kernel_rfl)
          exact At.body [.bool ((r42.2.1.length : Int) == 0)] (by kernel_rfl) ⟨_, rfl, rfl, hS⟩
        · replace H := ite_f H hb53
          refine WR.runk [3, 4, 5, 6, 7] [] [6] (L' := [(6, .bool false)]) (w' := w49) (by kernel_rfl) ?_
          refine WR.nil ?_
          refine At.go ?_
          refine WC.ret (by kernel_rfl) ?_
          obtain rfl := Option.some.inj H
          have hS : Sat w49 (rf w0) [] := hS.sel [] (by kernel_rfl)
          exact At.body [.bool false] (by kernel_rfl) ⟨_, rfl, rfl, hS⟩
end Go.Proofs.Ytdfoalfnpgeilaa
