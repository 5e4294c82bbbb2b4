/-
  Printed by gen.py (my own tool): for each Go function a plain Lean function and the proof that a call of it does what that function says.
-/
import Derived.Test.YtejjdfnelalnoaaGP1c
set_option linter.unusedVariables false
set_option linter.unusedSimpArgs false
set_option maxRecDepth 100000
namespace Go.Proofs.Ytejjdfnelalnoaa
open Go Go.Gol
/-! ### 4 colophon/colophonlaw06.ImageRows -/
def colophonlaw06_ImageRows.l1 (a1_0 : Int) (a1_1 : Int) (a2 : Int) (r24 : (List Int) × Int) : Nat → (List Int) → Int → Option (List Int)
  | 0, _, _ => none
  | k + 1, x7_l1, x11_l1 => (if decide (x11_l1 < 32) then (if ((iand .u32 (ishr .u32 a2 (IntKind.wrap .u64 x11_l1)) 1) == 1) then ((at? x7_l1 (wi (Int.tdiv (wi ((wi ((wi (2112 * (wi (Int.tmod (IntKind.wrap .u64 a1_0) (IntKind.wrap .u64 (wi (Int.tdiv (r24.1.length : Int) 264))))))) + (wi (Int.tmod (IntKind.wrap .u64 a1_1) 2081)))) + x11_l1)) 8))).bind fun v42 => ((set? x7_l1 (wi (Int.tdiv (wi ((wi ((wi (2112 * (wi (Int.tmod (IntKind.wrap .u64 a1_0) (IntKind.wrap .u64 (wi (Int.tdiv (r24.1.length : Int) 264))))))) + (wi (Int.tmod (IntKind.wrap .u64 a1_1) 2081)))) + x11_l1)) 8)) (ixor .u8 v42 (ishl .u8 1 (IntKind.wrap .u64 (Int.tmod (wi ((wi ((wi (2112 * (wi (Int.tmod (IntKind.wrap .u64 a1_0) (IntKind.wrap .u64 (wi (Int.tdiv (r24.1.length : Int) 264))))))) + (wi (Int.tmod (IntKind.wrap .u64 a1_1) 2081)))) + x11_l1)) 8))))).bind fun y44 => colophonlaw06_ImageRows.l1 a1_0 a1_1 a2 r24 k y44 (wi (x11_l1 + 1)))) else colophonlaw06_ImageRows.l1 a1_0 a1_1 a2 r24 k x7_l1 (wi (x11_l1 + 1))) else some x7_l1)
def colophonlaw06_ImageRows.f (l0 : List (List Int)) (a1_0 : Int) (a1_1 : Int) (a2 : Int) : Option Bool := (colophonlaw06_first.f.bind fun r4 => (if (!r4) then some false else ((colophonref06_Size.f l0).bind fun r14 => (if decide (r14 > 50000) then some true else ((image_Build.f l0).bind fun r24 => (if (r24.2 != 0) then (if (r24.2 == 0) then some true else some ((r24.1.length : Int) == 0)) else (if (a2 == 0) then (if (r24.2 == 0) then some true else some ((r24.1.length : Int) == 0)) else ((chk? (decide ((IntKind.wrap .u64 (wi (Int.tdiv (r24.1.length : Int) 264))) ≠ 0))).bind fun _ => ((colophonlaw06_ImageRows.l1 a1_0 a1_1 a2 r24 FU r24.1 0).bind fun o48 => ((image_Open.f o48).bind fun r53 => (match r53.1 with | none => some (r53.2 == 10) | some y63 => some false)))))))))))
def colophonlaw06_ImageRows.post (w : World) (r : Bool) (v : Value) (w' : World) : Prop := v = (.bool r : Value) ∧ Sat w' (rf w) []
theorem colophonlaw06_ImageRows.l1_ok {Q} (w0 : World) (a1_0 : Int) (a1_1 : Int) (a2 : Int) (r24 : (List Int) × Int) (out : (List Int)) (hn0 : ∀ (A7_q : Option Addr) (c7_q : Nat) (w : World), Sat w (rf w0) [osl 5 (r0 (.int .u8)) 1 A7_q c7_q out] → At Q (.exit 0) 90 [(7, .slice A7_q out.length c7_q)] w) :
    ∀ (k : Nat) (x7_l1 : List Int) (x11_l1 : Int) (A7_l1 : Option Addr) (c7_l1 : Nat) (w : World), Sat w (rf w0) [osl 5 (r0 (.int .u8)) 1 A7_l1 c7_l1 x7_l1] → colophonlaw06_ImageRows.l1 a1_0 a1_1 a2 r24 k x7_l1 x11_l1 = some out → WL Try.prog (cbody (cbody (cr (cl (cr (cr (cr (cr (cr (cr (cr C4))))))))))) Q 90 [(2, .int .u32 a2), (7, .slice A7_l1 x7_l1.length c7_l1), (10, .int .i64 (wi ((wi (2112 * (wi (Int.tmod (IntKind.wrap .u64 a1_0) (IntKind.wrap .u64 (wi (Int.tdiv (r24.1.length : Int) 264))))))) + (wi (Int.tmod (IntKind.wrap .u64 a1_1) 2081))))), (11, .int .i64 x11_l1)] w := by
  intro k
  induction k with
  | zero => intro x7_l1 x11_l1 A7_l1 c7_l1 w hS H; exact absurd (show none = some out from H) (by simp)
  | succ k ih =>
    intro x7_l1 x11_l1 A7_l1 c7_l1 w hS H
    unfold colophonlaw06_ImageRows.l1 at H
    refine WL.round ?_
    refine WC.seq (by kernel_rfl) ?_
    refine WC.seq (by kernel_rfl) ?_
    refine WC.reg [0, 1] (by kernel_rfl) (by kernel_rfl) ?_
    refine WR.runk [0, 1] [] [2, 7, 10, 11, 55] (L' := [(2, .int .u32 a2), (7, .slice A7_l1 x7_l1.length c7_l1), (10, .int .i64 (wi ((wi (2112 * (wi (Int.tmod (IntKind.wrap .u64 a1_0) (IntKind.wrap .u64 (wi (Int.tdiv (r24.1.length : Int) 264))))))) + (wi (Int.tmod (IntKind.wrap .u64 a1_1) 2081))))), (11, .int .i64 x11_l1), (55, .bool (decide (x11_l1 < 32)))]) (w' := w) (by kernel_rfl) ?_
    refine WR.nil ?_
    refine At.go ?_
    refine WC.cond (by kernel_rfl) (decide (x11_l1 < 32)) (by kernel_rfl) (by kernel_rfl) (fun hb40 => ?_) (fun hb40 => ?_)
    · replace H := ite_t H hb40
      refine WC.skip (by kernel_rfl) ?_
      refine At.go ?_
      refine WC.seq (by kernel_rfl) ?_
      refine WC.block (by kernel_rfl) ?_
      refine WC.seq (by kernel_rfl) ?_
      refine WC.reg [0, 1, 2, 3, 4, 5] (by kernel_rfl) (by kernel_rfl) ?_
      refine WR.runk [0, 1, 2] [3, 4, 5] [2, 7, 10, 11, 58, 60] (L' := [(2, .int .u32 a2), (7, .slice A7_l1 x7_l1.length c7_l1), (10, .int .i64 (wi ((wi (2112 * (wi (Int.tmod (IntKind.wrap .u64 a1_0) (IntKind.wrap .u64 (wi (Int.tdiv (r24.1.length : Int) 264))))))) + (wi (Int.tmod (IntKind.wrap .u64 a1_1) 2081))))), (11, .int .i64 x11_l1), (58, .int .u32 a2), (60, .int .u64 (IntKind.wrap .u64 x11_l1))]) (w' := w) (by kernel_rfl) ?_
      refine WR.st (St.ofP (PSt.shift (k := .u32) (k2 := .u64) (t := 36) (t2 := 40) (a := a2) (b := (IntKind.wrap .u64 x11_l1)) .shr (by decide) (.tmp 58) (.tmp 60) (by kernel_rfl) (by kernel_rfl) (by kernel_rfl) (by kernel_rfl) (wrap_u64_nonneg _) ?_))
      refine WR.runk [4, 5] [] [2, 7, 10, 11, 63] (L' := [(2, .int .u32 a2), (7, .slice A7_l1 x7_l1.length c7_l1), (10, .int .i64 (wi ((wi (2112 * (wi (Int.tmod (IntKind.wrap .u64 a1_0) (IntKind.wrap .u64 (wi (Int.tdiv (r24.1.length : Int) 264))))))) + (wi (Int.tmod (IntKind.wrap .u64 a1_1) 2081))))), (11, .int .i64 x11_l1), (63, .bool ((iand .u32 (ishr .u32 a2 (IntKind.wrap .u64 x11_l1)) 1) == 1))]) (w' := w) (by kernel_rfl) ?_
      refine WR.nil ?_
      refine At.go ?_
      refine WC.cond (by kernel_rfl) ((iand .u32 (ishr .u32 a2 (IntKind.wrap .u64 x11_l1)) 1) == 1) (by kernel_rfl) (by kernel_rfl) (fun hb41 => ?_) (fun hb41 => ?_)
      · replace H := ite_t H hb41
        refine WC.reg [0, 1, 2, 3, 4, 5, 6, 7, 8, 9, 10, 11, 12, 13, 14, 15] (by kernel_rfl) (by kernel_rfl) ?_
        refine WR.runk [0, 1, 2, 3, 4] [5, 6, 7, 8, 9, 10, 11, 12, 13, 14, 15] [2, 7, 10, 11, 64, 68] (L' := [(2, .int .u32 a2), (7, .slice A7_l1 x7_l1.length c7_l1), (10, .int .i64 (wi ((wi (2112 * (wi (Int.tmod (IntKind.wrap .u64 a1_0) (IntKind.wrap .u64 (wi (Int.tdiv (r24.1.length : Int) 264))))))) + (wi (Int.tmod (IntKind.wrap .u64 a1_1) 2081))))), (11, .int .i64 x11_l1), (64, .slice A7_l1 x7_l1.length c7_l1), (68, .int .i64 (wi (Int.tdiv (wi ((wi ((wi (2112 * (wi (Int.tmod (IntKind.wrap .u64 a1_0) (IntKind.wrap .u64 (wi (Int.tdiv (r24.1.length : Int) 264))))))) + (wi (Int.tmod (IntKind.wrap .u64 a1_1) 2081)))) + x11_l1)) 8)))]) (w' := w) (by kernel_rfl) ?_
        obtain ⟨v42, e43, H⟩ := bind_ex H
        refine WR.st (St.ofP (PSt.idx (k := .i64) (.tmp 64) (.tmp 68) (by kernel_rfl) (by kernel_rfl) E22 (by kernel_rfl) (by kernel_rfl) (Sat.rdAt 0 hS rfl) e43 ?_))
        refine WR.runk [] [6, 7, 8, 9, 10, 11, 12, 13, 14, 15] [2, 7, 10, 11, 64, 68, 69] (L' := [(2, .int .u32 a2), (7, .slice A7_l1 x7_l1.length c7_l1), (10, .int .i64 (wi ((wi (2112 * (wi (Int.tmod (IntKind.wrap .u64 a1_0) (IntKind.wrap .u64 (wi (Int.tdiv (r24.1.length : Int) 264))))))) + (wi (Int.tmod (IntKind.wrap .u64 a1_1) 2081))))), (11, .int .i64 x11_l1), (64, .slice A7_l1 x7_l1.length c7_l1), (68, .int .i64 (wi (Int.tdiv (wi ((wi ((wi (2112 * (wi (Int.tmod (IntKind.wrap .u64 a1_0) (IntKind.wrap .u64 (wi (Int.tdiv (r24.1.length : Int) 264))))))) + (wi (Int.tmod (IntKind.wrap .u64 a1_1) 2081)))) + x11_l1)) 8))), (69, .pointer (some (adr A7_l1 (wi (Int.tdiv (wi ((wi ((wi (2112 * (wi (Int.tmod (IntKind.wrap .u64 a1_0) (IntKind.wrap .u64 (wi (Int.tdiv (r24.1.length : Int) 264))))))) + (wi (Int.tmod (IntKind.wrap .u64 a1_1) 2081)))) + x11_l1)) 8)).toNat 1)))]) (w' := w) (by kernel_rfl) ?_
        refine WR.st (St.ofR (RSt.loadInt (t := 5) (.tmp 69) (by kernel_rfl) (by kernel_rfl) (by kernel_rfl) (by kernel_rfl) (Sat.rdAt 0 hS rfl) e43 ?_))
        refine WR.runk [7, 8, 9, 10, 11] [12, 13, 14, 15] [2, 7, 10, 11, 64, 68, 70, 75] (L' := [(2, .int .u32 a2), (7, .slice A7_l1 x7_l1.length c7_l1), (10, .int .i64 (wi ((wi (2112 * (wi (Int.tmod (IntKind.wrap .u64 a1_0) (IntKind.wrap .u64 (wi (Int.tdiv (r24.1.length : Int) 264))))))) + (wi (Int.tmod (IntKind.wrap .u64 a1_1) 2081))))), (11, .int .i64 x11_l1), (64, .slice A7_l1 x7_l1.length c7_l1), (68, .int .i64 (wi (Int.tdiv (wi ((wi ((wi (2112 * (wi (Int.tmod (IntKind.wrap .u64 a1_0) (IntKind.wrap .u64 (wi (Int.tdiv (r24.1.length : Int) 264))))))) + (wi (Int.tmod (IntKind.wrap .u64 a1_1) 2081)))) + x11_l1)) 8))), (70, .int .u8 v42), (75, .int .u64 (IntKind.wrap .u64 (Int.tmod (wi ((wi ((wi (2112 * (wi (Int.tmod (IntKind.wrap .u64 a1_0) (IntKind.wrap .u64 (wi (Int.tdiv (r24.1.length : Int) 264))))))) + (wi (Int.tmod (IntKind.wrap .u64 a1_1) 2081)))) + x11_l1)) 8)))]) (w' := w) (by kernel_rfl) ?_
        refine WR.st (St.ofP (PSt.shift (k := .u8) (k2 := .u64) (t := 5) (t2 := 40) (a := 1) (b := (IntKind.wrap .u64 (Int.tmod (wi ((wi ((wi (2112 * (wi (Int.tmod (IntKind.wrap .u64 a1_0) (IntKind.wrap .u64 (wi (Int.tdiv (r24.1.length : Int) 264))))))) + (wi (Int.tmod (IntKind.wrap .u64 a1_1) 2081)))) + x11_l1)) 8))) .shl (by decide) (.const (.int .u8 1)) (.tmp 75) (by kernel_rfl) (by kernel_rfl) (by kernel_rfl) (by kernel_rfl) (wrap_u64_nonneg _) ?_))
        refine WR.runk [13] [14, 15] [2, 7, 10, 11, 64, 68, 77] (L' := [(2, .int .u32 a2), (7, .slice A7_l1 x7_l1.length c7_l1), (10, .int .i64 (wi ((wi (2112 * (wi (Int.tmod (IntKind.wrap .u64 a1_0) (IntKind.wrap .u64 (wi (Int.tdiv (r24.1.length : Int) 264))))))) + (wi (Int.tmod (IntKind.wrap .u64 a1_1) 2081))))), (11, .int .i64 x11_l1), (64, .slice A7_l1 x7_l1.length c7_l1), (68, .int .i64 (wi (Int.tdiv (wi ((wi ((wi (2112 * (wi (Int.tmod (IntKind.wrap .u64 a1_0) (IntKind.wrap .u64 (wi (Int.tdiv (r24.1.length : Int) 264))))))) + (wi (Int.tmod (IntKind.wrap .u64 a1_1) 2081)))) + x11_l1)) 8))), (77, .int .u8 (ixor .u8 v42 (ishl .u8 1 (IntKind.wrap .u64 (Int.tmod (wi ((wi ((wi (2112 * (wi (Int.tmod (IntKind.wrap .u64 a1_0) (IntKind.wrap .u64 (wi (Int.tdiv (r24.1.length : Int) 264))))))) + (wi (Int.tmod (IntKind.wrap .u64 a1_1) 2081)))) + x11_l1)) 8)))))]) (w' := w) (by kernel_rfl) ?_
        refine WR.st (St.ofP (PSt.idx (k := .i64) (.tmp 64) (.tmp 68) (by kernel_rfl) (by kernel_rfl) E22 (by kernel_rfl) (by kernel_rfl) (Sat.rdAt 0 hS rfl) e43 ?_))
        refine WR.runk [] [15] [2, 7, 10, 11, 77, 78] (L' := [(2, .int .u32 a2), (7, .slice A7_l1 x7_l1.length c7_l1), (10, .int .i64 (wi ((wi (2112 * (wi (Int.tmod (IntKind.wrap .u64 a1_0) (IntKind.wrap .u64 (wi (Int.tdiv (r24.1.length : Int) 264))))))) + (wi (Int.tmod (IntKind.wrap .u64 a1_1) 2081))))), (11, .int .i64 x11_l1), (77, .int .u8 (ixor .u8 v42 (ishl .u8 1 (IntKind.wrap .u64 (Int.tmod (wi ((wi ((wi (2112 * (wi (Int.tmod (IntKind.wrap .u64 a1_0) (IntKind.wrap .u64 (wi (Int.tdiv (r24.1.length : Int) 264))))))) + (wi (Int.tmod (IntKind.wrap .u64 a1_1) 2081)))) + x11_l1)) 8))))), (78, .pointer (some (adr A7_l1 (wi (Int.tdiv (wi ((wi ((wi (2112 * (wi (Int.tmod (IntKind.wrap .u64 a1_0) (IntKind.wrap .u64 (wi (Int.tdiv (r24.1.length : Int) 264))))))) + (wi (Int.tmod (IntKind.wrap .u64 a1_1) 2081)))) + x11_l1)) 8)).toNat 1)))]) (w' := w) (by kernel_rfl) ?_
        obtain ⟨y44, e45, H⟩ := bind_ex H
        refine WR.st (St.storeElem' (t := 5) (.tmp 78) (.tmp 77) (by kernel_rfl) (by kernel_rfl) (by kernel_rfl) hS (by kernel_rfl) (by kernel_rfl) rfl e45 rfl (fun w46 hS => ?_))
        have hl47 := set?_len e45
        refine WR.know 7 (.slice A7_l1 y44.length c7_l1) (.slice A7_l1 x7_l1.length c7_l1) (by kernel_rfl) (by rw [hl47]) ?_
        refine WR.runk [] [] [2, 7, 10, 11] (L' := [(2, .int .u32 a2), (7, .slice A7_l1 y44.length c7_l1), (10, .int .i64 (wi ((wi (2112 * (wi (Int.tmod (IntKind.wrap .u64 a1_0) (IntKind.wrap .u64 (wi (Int.tdiv (r24.1.length : Int) 264))))))) + (wi (Int.tmod (IntKind.wrap .u64 a1_1) 2081))))), (11, .int .i64 x11_l1)]) (w' := w46) (by kernel_rfl) ?_
        refine WR.nil ?_
        refine At.blockNormal ?_
        refine At.go ?_
        refine WC.reg [0, 1, 2] (by kernel_rfl) (by kernel_rfl) ?_
        refine WR.runk [0, 1, 2] [] [2, 7, 10, 11] (L' := [(2, .int .u32 a2), (7, .slice A7_l1 y44.length c7_l1), (10, .int .i64 (wi ((wi (2112 * (wi (Int.tmod (IntKind.wrap .u64 a1_0) (IntKind.wrap .u64 (wi (Int.tdiv (r24.1.length : Int) 264))))))) + (wi (Int.tmod (IntKind.wrap .u64 a1_1) 2081))))), (11, .int .i64 (wi (x11_l1 + 1)))]) (w' := w46) (by kernel_rfl) ?_
        refine WR.nil ?_
        have hS : Sat w46 (rf w0) [osl 5 (r0 (.int .u8)) 1 A7_l1 c7_l1 y44] := hS.sel [0] (by kernel_rfl)
        refine At.again ?_
        refine WL.weaken [2, 7, 10, 11] (L' := [(2, .int .u32 a2), (7, .slice A7_l1 y44.length c7_l1), (10, .int .i64 (wi ((wi (2112 * (wi (Int.tmod (IntKind.wrap .u64 a1_0) (IntKind.wrap .u64 (wi (Int.tdiv (r24.1.length : Int) 264))))))) + (wi (Int.tmod (IntKind.wrap .u64 a1_1) 2081))))), (11, .int .i64 (wi (x11_l1 + 1)))]) (by kernel_rfl) ?_
        exact ih y44 (wi (x11_l1 + 1)) A7_l1 c7_l1 _ hS H
      · replace H := ite_f H hb41
        refine WC.skip (by kernel_rfl) ?_
        refine At.blockNormal ?_
        refine At.go ?_
        refine WC.reg [0, 1, 2] (by kernel_rfl) (by kernel_rfl) ?_
        refine WR.runk [0, 1, 2] [] [2, 7, 10, 11] (L' := [(2, .int .u32 a2), (7, .slice A7_l1 x7_l1.length c7_l1), (10, .int .i64 (wi ((wi (2112 * (wi (Int.tmod (IntKind.wrap .u64 a1_0) (IntKind.wrap .u64 (wi (Int.tdiv (r24.1.length : Int) 264))))))) + (wi (Int.tmod (IntKind.wrap .u64 a1_1) 2081))))), (11, .int .i64 (wi (x11_l1 + 1)))]) (w' := w) (by kernel_rfl) ?_
        refine WR.nil ?_
        have hS : Sat w (rf w0) [osl 5 (r0 (.int .u8)) 1 A7_l1 c7_l1 x7_l1] := hS.sel [0] (by kernel_rfl)
        refine At.again ?_
        refine WL.weaken [2, 7, 10, 11] (L' := [(2, .int .u32 a2), (7, .slice A7_l1 x7_l1.length c7_l1), (10, .int .i64 (wi ((wi (2112 * (wi (Int.tmod (IntKind.wrap .u64 a1_0) (IntKind.wrap .u64 (wi (Int.tdiv (r24.1.length : Int) 264))))))) + (wi (Int.tmod (IntKind.wrap .u64 a1_1) 2081))))), (11, .int .i64 (wi (x11_l1 + 1)))]) (by kernel_rfl) ?_
        exact ih x7_l1 (wi (x11_l1 + 1)) A7_l1 c7_l1 _ hS H
    · replace H := ite_f H hb40
      refine WC.exit (by kernel_rfl) ?_
      refine At.thenExit ?_
      refine At.thenExit ?_
      obtain rfl := Option.some.inj H
      have hS : Sat w (rf w0) [osl 5 (r0 (.int .u8)) 1 A7_l1 c7_l1 x7_l1] := hS.sel [0] (by kernel_rfl)
      refine At.weaken [7] (L' := [(7, .slice A7_l1 x7_l1.length c7_l1)]) (by kernel_rfl) ?_
      exact hn0 A7_l1 c7_l1 _ hS
theorem colophonlaw06_ImageRows.calls (w0 : World) (A0 : Option Addr) (c0 : Nat) (l0 : List (List Int)) (R0 : rdS (rd (hp w0) (.slice 5 (.int .u8))) 1 (hp w0) A0 c0 l0) (a1_0 : Int) (a1_1 : Int) (a2 : Int) (r : Bool) (H : colophonlaw06_ImageRows.f l0 a1_0 a1_1 a2 = some r) :
    Calls Try.prog 4 #[.slice A0 l0.length c0, .agg #[.int .i64 a1_0, .int .i64 a1_1], .int .u32 a2] w0 (fun e w' => ∃ v, e = .returned v ∧ colophonlaw06_ImageRows.post w0 r v w') := by
  have hS : Sat w0 (rf w0) [] := Sat.start w0
  unfold colophonlaw06_ImageRows.f at H
  refine calls_of_WC (vs := [.slice A0 l0.length c0, .agg #[.int .i64 a1_0, .int .i64 a1_1], .int .u32 a2]) Try.func4 (c := C4) (n := 90) (by kernel_rfl) (by kernel_rfl) (by kernel_rfl) ?_
  refine WC.seq (by kernel_rfl) ?_
  refine WC.reg [0, 1] (by kernel_rfl) (by kernel_rfl) ?_
  refine WR.runk [] [0, 1] [0, 1, 2] (L' := [(0, .slice A0 l0.length c0), (1, .agg #[.int .i64 a1_0, .int .i64 a1_1]), (2, .int .u32 a2)]) (w' := w0) (by kernel_rfl) ?_
  refine WR.st (St.box hS (by kernel_rfl) (.cells #[.int .i64 a1_0, .int .i64 a1_1] 35) (fun b1 => .pointer (some ⟨b1, 0, none⟩)) (fun _ => by kernel_rfl) (fun b1 w2 hS => ?_))
  refine WR.runk [1] [] [0, 2, 4] (L' := [(0, .slice A0 l0.length c0), (2, .int .u32 a2), (4, .pointer (some ⟨b1, 0, none⟩))]) (w' := w2) (by kernel_rfl) ?_
  refine WR.nil ?_
  refine At.go ?_
  refine WC.seq (by kernel_rfl) ?_
  refine WC.seq (by kernel_rfl) ?_
  refine WC.reg [0, 1] (by kernel_rfl) (by kernel_rfl) ?_
  obtain ⟨r4, e5, H⟩ := bind_ex H
  refine WR.st (St.call (by kernel_rfl) (f := 8) (args := #[]) (by kernel_rfl) (colophonlaw06_first.calls w2  r4 e5) ?_)
  rintro _ w11 ⟨rfl, hS12⟩
  have hS : Sat w11 (rf w0) [pts b1 (.cells #[.int .i64 a1_0, .int .i64 a1_1] 35 (0, 0))] := hS.ext hS12
  refine WR.runk [1] [] [0, 2, 4, 15] (L' := [(0, .slice A0 l0.length c0), (2, .int .u32 a2), (4, .pointer (some ⟨b1, 0, none⟩)), (15, .bool (!r4))]) (w' := w11) (by kernel_rfl) ?_
  refine WR.nil ?_
  refine At.go ?_
  refine WC.cond (by kernel_rfl) (!r4) (by kernel_rfl) (by kernel_rfl) (fun hb13 => ?_) (fun hb13 => ?_)
  · replace H := ite_t H hb13
    refine WC.seq (by kernel_rfl) ?_
    refine WC.reg [0] (by kernel_rfl) (by kernel_rfl) ?_
    refine WR.runk [0] [] [6] (L' := [(6, .bool false)]) (w' := w11) (by kernel_rfl) ?_
    refine WR.nil ?_
    refine At.go ?_
    refine WC.ret (by kernel_rfl) ?_
    refine At.thenRet ?_
    obtain rfl := Option.some.inj H
    have hS : Sat w11 (rf w0) [] := hS.sel [] (by kernel_rfl)
    exact At.body [.bool false] (by kernel_rfl) ⟨_, rfl, rfl, hS⟩
  · replace H := ite_f H hb13
    refine WC.skip (by kernel_rfl) ?_
    refine At.go ?_
    refine WC.seq (by kernel_rfl) ?_
    refine WC.seq (by kernel_rfl) ?_
    refine WC.reg [0, 1, 2] (by kernel_rfl) (by kernel_rfl) ?_
    refine WR.runk [0] [1, 2] [0, 2, 4, 16] (L' := [(0, .slice A0 l0.length c0), (2, .int .u32 a2), (4, .pointer (some ⟨b1, 0, none⟩)), (16, .slice A0 l0.length c0)]) (w' := w11) (by kernel_rfl) ?_
    obtain ⟨r14, e15, H⟩ := bind_ex H
    refine WR.st (St.call (by kernel_rfl) (f := 14) (args := #[.slice A0 l0.length c0]) (by kernel_rfl) (colophonref06_Size.calls w11 A0 c0 l0 (rdS.upd R0 hS.sub0) r14 e15) ?_)
    rintro _ w21 ⟨rfl, hS22⟩
    have hS : Sat w21 (rf w0) [pts b1 (.cells #[.int .i64 a1_0, .int .i64 a1_1] 35 (0, 0))] := hS.ext hS22
    refine WR.runk [2] [] [0, 2, 4, 18] (L' := [(0, .slice A0 l0.length c0), (2, .int .u32 a2), (4, .pointer (some ⟨b1, 0, none⟩)), (18, .bool (decide (r14 > 50000)))]) (w' := w21) (by kernel_rfl) ?_
    refine WR.nil ?_
    refine At.go ?_
    refine WC.cond (by kernel_rfl) (decide (r14 > 50000)) (by kernel_rfl) (by kernel_rfl) (fun hb23 => ?_) (fun hb23 => ?_)
    · replace H := ite_t H hb23
      refine WC.seq (by kernel_rfl) ?_
      refine WC.reg [0] (by kernel_rfl) (by kernel_rfl) ?_
      refine WR.runk [0] [] [6] (L' := [(6, .bool true)]) (w' := w21) (by kernel_rfl) ?_
      refine WR.nil ?_
      refine At.go ?_
      refine WC.ret (by kernel_rfl) ?_
      refine At.thenRet ?_
      obtain rfl := Option.some.inj H
      have hS : Sat w21 (rf w0) [] := hS.sel [] (by kernel_rfl)
      exact At.body [.bool true] (by kernel_rfl) ⟨_, rfl, rfl, hS⟩
    · replace H := ite_f H hb23
      refine WC.skip (by kernel_rfl) ?_
      refine At.go ?_
      refine WC.seq (by kernel_rfl) ?_
      refine WC.reg [0, 1, 2, 3, 4, 5, 6] (by kernel_rfl) (by kernel_rfl) ?_
      refine WR.runk [0] [1, 2, 3, 4, 5, 6] [2, 4, 20] (L' := [(2, .int .u32 a2), (4, .pointer (some ⟨b1, 0, none⟩)), (20, .slice A0 l0.length c0)]) (w' := w21) (by kernel_rfl) ?_
      obtain ⟨r24, e25, H⟩ := bind_ex H
      refine WR.st (St.call (by kernel_rfl) (f := 15) (args := #[.slice A0 l0.length c0]) (by kernel_rfl) (image_Build.calls w21 A0 c0 l0 (rdS.upd R0 hS.sub0) r24 e25) ?_)
      rintro _ w31 ⟨A33, c34, rfl, hS32⟩
      have hS : Sat w31 (rf w0) [osl 5 (r0 (.int .u8)) 1 A33 c34 r24.1, pts b1 (.cells #[.int .i64 a1_0, .int .i64 a1_1] 35 (0, 0))] := hS.ext hS32
      refine WR.runk [2, 3, 4, 5, 6] [] [2, 4, 7, 8] (L' := [(2, .int .u32 a2), (4, .pointer (some ⟨b1, 0, none⟩)), (7, .slice A33 r24.1.length c34), (8, .int .i64 r24.2)]) (w' := w31) (by kernel_rfl) ?_
      refine WR.nil ?_
      refine At.go ?_
      refine WC.seq (by kernel_rfl) ?_
      refine WC.seq (by kernel_rfl) ?_
      refine WC.reg [0, 1, 2, 3, 4, 5] (by kernel_rfl) (by kernel_rfl) ?_
      refine WR.runk [0, 1, 2] [3, 4, 5] [2, 4, 7, 8, 26] (L' := [(2, .int .u32 a2), (4, .pointer (some ⟨b1, 0, none⟩)), (7, .slice A33 r24.1.length c34), (8, .int .i64 r24.2), (26, .bool (r24.2 != 0))]) (w' := w31) (by kernel_rfl) ?_
      refine WR.split 26 (b := (r24.2 != 0)) (by kernel_rfl) (fun hb35 => ?_) (fun hb35 => ?_)
      · replace H := ite_t H hb35
        refine WR.runk [3, 4, 5] [] [2, 4, 7, 8, 29] (L' := [(2, .int .u32 a2), (4, .pointer (some ⟨b1, 0, none⟩)), (7, .slice A33 r24.1.length c34), (8, .int .i64 r24.2), (29, .bool true)]) (w' := w31) (by kernel_rfl) ?_
        refine WR.nil ?_
        refine At.go ?_
        refine WC.condT (by kernel_rfl) (by kernel_rfl) (by kernel_rfl) ?_
        refine WC.seq (by kernel_rfl) ?_
        refine WC.reg [0, 1, 2, 3, 4, 5, 6, 7] (by kernel_rfl) (by kernel_rfl) ?_
        refine WR.runk [0, 1, 2] [3, 4, 5, 6, 7] [7, 32] (L' := [(7, .slice A33 r24.1.length c34), (32, .bool (r24.2 == 0))]) (w' := w31) (by kernel_rfl) ?_
        refine WR.split 32 (b := (r24.2 == 0)) (by kernel_rfl) (fun hb36 => ?_) (fun hb36 => ?_)
        · replace H := ite_t H hb36
          refine WR.runk [3, 4, 5, 6, 7] [] [6] (L' := [(6, .bool true)]) (w' := w31) (by kernel_rfl) ?_
          refine WR.nil ?_
          refine At.go ?_
          refine WC.ret (by kernel_rfl) ?_
          refine At.thenRet ?_
          obtain rfl := Option.some.inj H
          have hS : Sat w31 (rf w0) [] := hS.sel [] (by kernel_rfl)
          exact At.body [.bool true] (by kernel_rfl) ⟨_, rfl, rfl, hS⟩
        · replace H := ite_f H hb36
          refine WR.runk [3, 4, 5, 6, 7] [] [6] (L' := [(6, .bool ((r24.1.length : Int) == 0))]) (w' := w31) (by kernel_rfl) ?_
          refine WR.nil ?_
          refine At.go ?_
          refine WC.ret (by kernel_rfl) ?_
          refine At.thenRet ?_
          obtain rfl := Option.some.inj H
          have hS : Sat w31 (rf w0) [] := hS.sel [] (by kernel_rfl)
          exact At.body [.bool ((r24.1.length : Int) == 0)] (by kernel_rfl) ⟨_, rfl, rfl, hS⟩
      · replace H := ite_f H hb35
        refine WR.runk [3, 4, 5] [] [2, 4, 7, 8, 29] (L' := [(2, .int .u32 a2), (4, .pointer (some ⟨b1, 0, none⟩)), (7, .slice A33 r24.1.length c34), (8, .int .i64 r24.2), (29, .bool (a2 == 0))]) (w' := w31) (by kernel_rfl) ?_
        refine WR.nil ?_
        refine At.go ?_
        refine WC.cond (by kernel_rfl) (a2 == 0) (by kernel_rfl) (by kernel_rfl) (fun hb37 => ?_) (fun hb37 => ?_)
        · replace H := ite_t H hb37
          refine WC.seq (by kernel_rfl) ?_
          refine WC.reg [0, 1, 2, 3, 4, 5, 6, 7] (by kernel_rfl) (by kernel_rfl) ?_
          refine WR.runk [0, 1, 2] [3, 4, 5, 6, 7] [7, 32] (L' := [(7, .slice A33 r24.1.length c34), (32, .bool (r24.2 == 0))]) (w' := w31) (by kernel_rfl) ?_
          refine WR.split 32 (b := (r24.2 == 0)) (by kernel_rfl) (fun hb38 => ?_) (fun hb38 => ?_)
          · replace H := ite_t H hb38
            refine WR.runk [3, 4, 5, 6, 7] [] [6] (L' := [(6, .bool true)]) (w' := w31) (by kernel_rfl) ?_
            refine WR.nil ?_
            refine At.go ?_
            refine WC.ret (by kernel_rfl) ?_
            refine At.thenRet ?_
            obtain rfl := Option.some.inj H
            have hS : Sat w31 (rf w0) [] := hS.sel [] (by kernel_rfl)
            exact At.body [.bool true] (by kernel_rfl) ⟨_, rfl, rfl, hS⟩
          · replace H := ite_f H hb38
            refine WR.runk [3, 4, 5, 6, 7] [] [6] (L' := [(6, .bool ((r24.1.length : Int) == 0))]) (w' := w31) (by kernel_rfl) ?_
            refine WR.nil ?_
            refine At.go ?_
            refine WC.ret (by kernel_rfl) ?_
            refine At.thenRet ?_
            obtain rfl := Option.some.inj H
            have hS : Sat w31 (rf w0) [] := hS.sel [] (by kernel_rfl)
            exact At.body [.bool ((r24.1.length : Int) == 0)] (by kernel_rfl) ⟨_, rfl, rfl, hS⟩
        · replace H := ite_f H hb37
          refine WC.skip (by kernel_rfl) ?_
          refine At.go ?_
          refine WC.seq (by kernel_rfl) ?_
          refine WC.reg [0, 1, 2, 3, 4, 5, 6, 7, 8, 9] (by kernel_rfl) (by kernel_rfl) ?_
          refine WR.runk [0] [1, 2, 3, 4, 5, 6, 7, 8, 9] [2, 4, 7, 37] (L' := [(2, .int .u32 a2), (4, .pointer (some ⟨b1, 0, none⟩)), (7, .slice A33 r24.1.length c34), (37, .pointer (some ⟨b1, 0, none⟩))]) (w' := w31) (by kernel_rfl) ?_
          refine WR.st (St.ofR (RSt.loadObj (t := 3) (k := 0) (v := .int .i64 a1_0) (.tmp 37) (by kernel_rfl) (by kernel_rfl) (by kernel_rfl) 1 hS rfl (by kernel_rfl) rfl ?_))
          refine WR.runk [2, 3, 4, 5, 6] [7, 8, 9] [2, 4, 7, 39, 43] (L' := [(2, .int .u32 a2), (4, .pointer (some ⟨b1, 0, none⟩)), (7, .slice A33 r24.1.length c34), (39, .int .u64 (IntKind.wrap .u64 a1_0)), (43, .int .u64 (IntKind.wrap .u64 (wi (Int.tdiv (r24.1.length : Int) 264))))]) (w' := w31) (by kernel_rfl) ?_
          obtain ⟨_, e39, H⟩ := bind_ex H
          refine WR.st (St.ofP (PSt.div (k := .u64) (t := 40) (t2 := 40) (a := (IntKind.wrap .u64 a1_0)) (b := (IntKind.wrap .u64 (wi (Int.tdiv (r24.1.length : Int) 264)))) .rem (by decide) (.tmp 39) (.tmp 43) (by kernel_rfl) (by kernel_rfl) (by kernel_rfl) (by kernel_rfl) (of_decide_eq_true (chk?_some e39)) ?_))
          refine WR.runk [8, 9] [] [2, 4, 7, 9] (L' := [(2, .int .u32 a2), (4, .pointer (some ⟨b1, 0, none⟩)), (7, .slice A33 r24.1.length c34), (9, .int .i64 (wi (Int.tmod (IntKind.wrap .u64 a1_0) (IntKind.wrap .u64 (wi (Int.tdiv (r24.1.length : Int) 264))))))]) (w' := w31) (by kernel_rfl) ?_
          refine WR.nil ?_
          refine At.go ?_
          refine WC.seq (by kernel_rfl) ?_
          refine WC.reg [0, 1, 2, 3, 4, 5, 6, 7, 8] (by kernel_rfl) (by kernel_rfl) ?_
          refine WR.runk [0, 1, 2] [3, 4, 5, 6, 7, 8] [2, 7, 47, 48] (L' := [(2, .int .u32 a2), (7, .slice A33 r24.1.length c34), (47, .int .i64 (wi (2112 * (wi (Int.tmod (IntKind.wrap .u64 a1_0) (IntKind.wrap .u64 (wi (Int.tdiv (r24.1.length : Int) 264)))))))), (48, .pointer (some ⟨b1, 1, none⟩))]) (w' := w31) (by kernel_rfl) ?_
          refine WR.st (St.ofR (RSt.loadObj (t := 3) (k := 1) (v := .int .i64 a1_1) (.tmp 48) (by kernel_rfl) (by kernel_rfl) (by kernel_rfl) 1 hS rfl (by kernel_rfl) rfl ?_))
          refine WR.runk [4, 5, 6, 7, 8] [] [2, 7, 10] (L' := [(2, .int .u32 a2), (7, .slice A33 r24.1.length c34), (10, .int .i64 (wi ((wi (2112 * (wi (Int.tmod (IntKind.wrap .u64 a1_0) (IntKind.wrap .u64 (wi (Int.tdiv (r24.1.length : Int) 264))))))) + (wi (Int.tmod (IntKind.wrap .u64 a1_1) 2081)))))]) (w' := w31) (by kernel_rfl) ?_
          refine WR.nil ?_
          refine At.go ?_
          refine WC.seq (by kernel_rfl) ?_
          refine WC.seq (by kernel_rfl) ?_
          refine WC.reg [0] (by kernel_rfl) (by kernel_rfl) ?_
          refine WR.runk [0] [] [2, 7, 10, 11] (L' := [(2, .int .u32 a2), (7, .slice A33 r24.1.length c34), (10, .int .i64 (wi ((wi (2112 * (wi (Int.tmod (IntKind.wrap .u64 a1_0) (IntKind.wrap .u64 (wi (Int.tdiv (r24.1.length : Int) 264))))))) + (wi (Int.tmod (IntKind.wrap .u64 a1_1) 2081))))), (11, .int .i64 0)]) (w' := w31) (by kernel_rfl) ?_
          refine WR.nil ?_
          refine At.go ?_
          refine WC.block (by kernel_rfl) ?_
          have hS : Sat w31 (rf w0) [osl 5 (r0 (.int .u8)) 1 A33 c34 r24.1] := hS.sel [0] (by kernel_rfl)
          obtain ⟨o48, e49, H⟩ := bind_ex H
          refine WC.loop (by kernel_rfl) ?_
          refine WL.weaken [2, 7, 10, 11] (L' := [(2, .int .u32 a2), (7, .slice A33 r24.1.length c34), (10, .int .i64 (wi ((wi (2112 * (wi (Int.tmod (IntKind.wrap .u64 a1_0) (IntKind.wrap .u64 (wi (Int.tdiv (r24.1.length : Int) 264))))))) + (wi (Int.tmod (IntKind.wrap .u64 a1_1) 2081))))), (11, .int .i64 0)]) (by kernel_rfl) ?_
          refine colophonlaw06_ImageRows.l1_ok w0 a1_0 a1_1 a2 r24 o48 (fun A7_q50 c7_q50 w51 hS => ?_) FU r24.1 0 A33 c34 _ hS e49
          refine At.hit ?_
          refine At.go ?_
          refine WC.seq (by kernel_rfl) ?_
          refine WC.reg [0, 1, 2, 3, 4, 5, 6] (by kernel_rfl) (by kernel_rfl) ?_
          refine WR.runk [0] [1, 2, 3, 4, 5, 6] [80] (L' := [(80, .slice A7_q50 o48.length c7_q50)]) (w' := w51) (by kernel_rfl) ?_
          obtain ⟨r53, e54, H⟩ := bind_ex H
          refine WR.st (St.call (by kernel_rfl) (f := 10) (args := #[.slice A7_q50 o48.length c7_q50]) (by kernel_rfl) (image_Open.calls w51 A7_q50 c7_q50 o48 (Sat.rdAt 0 hS rfl) r53 e54) ?_)
          rintro _ w60 ⟨pv62, rfl, hS61⟩
          have hS : Sat w60 (rf w0) [optP O52 pv62 r53.1, osl 5 (r0 (.int .u8)) 1 A7_q50 c7_q50 o48] := hS.ext hS61
          refine WR.runk [2, 3, 4, 5, 6] [] [12, 13] (L' := [(12, pv62), (13, .int .i64 r53.2)]) (w' := w60) (by kernel_rfl) ?_
          refine WR.nil ?_
          refine At.go ?_
          refine WC.seq (by kernel_rfl) ?_
          refine WC.reg [0, 1, 2, 3, 4, 5, 6] (by kernel_rfl) (by kernel_rfl) ?_
          refine WR.runk [0] [1, 2, 3, 4, 5, 6] [13, 84] (L' := [(13, .int .i64 r53.2), (84, pv62)]) (w' := w60) (by kernel_rfl) ?_
          rcases hr64 : r53.1 with _ | y63
          · rw [hr64] at H
            dsimp only at H
            have hv65 := optP.none hS hr64
            subst hv65
            have hS : Sat w60 (rf w0) [osl 5 (r0 (.int .u8)) 1 A7_q50 c7_q50 o48] := hS.sel [1] (by kernel_rfl)
            refine WR.runk [1, 2, 3, 4, 5, 6] [] [6] (L' := [(6, .bool (r53.2 == 10))]) (w' := w60) (by kernel_rfl) ?_
            refine WR.nil ?_
            refine At.go ?_
            refine WC.ret (by kernel_rfl) ?_
            obtain rfl := Option.some.inj H
            have hS : Sat w60 (rf w0) [] := hS.sel [] (by kernel_rfl)
            exact At.body [.bool (r53.2 == 10)] (by kernel_rfl) ⟨_, rfl, rfl, hS⟩
          · rw [hr64] at H
            dsimp only at H
            obtain ⟨b66, hv65, hN68⟩ := optP.some hS hr64
            subst hv65
            have hS : Sat w60 (rf w0) [O52 b66 y63, osl 5 (r0 (.int .u8)) 1 A7_q50 c7_q50 o48] := hN68
            refine WR.runk [1, 2, 3, 4, 5, 6] [] [6] (L' := [(6, .bool false)]) (w' := w60) (by kernel_rfl) ?_
            refine WR.nil ?_
            refine At.go ?_
            refine WC.ret (by kernel_rfl) ?_
            obtain rfl := Option.some.inj H
            have hS : Sat w60 (rf w0) [] := hS.sel [] (by kernel_rfl)
            exact At.body [.bool false] (by kernel_rfl) ⟨_, rfl, rfl, hS⟩
end Go.Proofs.Ytejjdfnelalnoaa
