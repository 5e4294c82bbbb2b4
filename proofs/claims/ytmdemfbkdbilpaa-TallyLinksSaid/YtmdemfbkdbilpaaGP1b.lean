/-
  Printed by gen.py (my own tool): for each Go function a plain Lean function and the proof that a call of it does what that function says.
-/
import Derived.Test.YtmdemfbkdbilpaaGP1
set_option linter.unusedVariables false
set_option linter.unusedSimpArgs false
set_option maxRecDepth 100000
namespace Go.Proofs.Ytmdemfbkdbilpaa
open Go Go.Gol
/-! ### 37 (*colophon/pack.Ints).Words -/
def pack_Ints_Words.f (p0 : Option (Int × Int × (List Int))) : Option (List Int) := (match p0 with | none => some ([] : List Int) | some y3 => ((slices_Clone_44.f y3.2.2).bind fun r12 => some r12))
def pack_Ints_Words.post (w : World) (r : (List Int)) (v : Value) (w' : World) : Prop := ∃ (A0' : Option Addr) (c0' : Nat), v = (.slice A0' r.length c0' : Value) ∧ Sat w' (rf w) [osl 55 (r0 (.int .u64)) 1 A0' c0' r]
theorem pack_Ints_Words.calls (w0 : World) (v0 : Value) (p0 : Option (Int × Int × (List Int))) (R0 : rd (hp w0) (.ptr 72 (.pair (.int .i64) (.pair (.int .i64) (.slice 55 (.int .u64))))) [v0] p0) (r : (List Int)) (H : pack_Ints_Words.f p0 = some r) :
    Calls Try.prog 37 #[v0] w0 (fun e w' => ∃ v, e = .returned v ∧ pack_Ints_Words.post w0 r v w') := by
  have hS : Sat w0 (rf w0) [] := Sat.start w0
  unfold pack_Ints_Words.f at H
  refine calls_of_WC (vs := [v0]) Try.func37 (c := C37) (n := 10) (by kernel_rfl) (by kernel_rfl) (by kernel_rfl) ?_
  refine WC.seq (by kernel_rfl) ?_
  refine WC.reg [0] (by kernel_rfl) (by kernel_rfl) ?_
  refine WR.runk [0] [] [0] (L' := [(0, v0)]) (w' := w0) (by kernel_rfl) ?_
  refine WR.nil ?_
  refine At.go ?_
  refine WC.seq (by kernel_rfl) ?_
  refine WC.seq (by kernel_rfl) ?_
  refine WC.reg [0, 1] (by kernel_rfl) (by kernel_rfl) ?_
  refine WR.runk [0] [1] [0, 3] (L' := [(0, v0), (3, v0)]) (w' := w0) (by kernel_rfl) ?_
  rcases opt_cases p0 with hr1 | ⟨y3, hr1⟩
  · rw [hr1] at H
    dsimp only at H
    have hx2 := rd_ptr_none R0 hr1
    try subst hx2
    refine WR.runk [1] [] [0, 4] (L' := [(0, .pointer none), (4, .bool true)]) (w' := w0) (by kernel_rfl) ?_
    refine WR.nil ?_
    refine At.go ?_
    refine WC.condT (by kernel_rfl) (by kernel_rfl) (by kernel_rfl) ?_
    refine WC.seq (by kernel_rfl) ?_
    refine WC.reg [0] (by kernel_rfl) (by kernel_rfl) ?_
    refine WR.runk [0] [] [2] (L' := [(2, .slice none 0 0)]) (w' := w0) (by kernel_rfl) ?_
    refine WR.nil ?_
    refine At.go ?_
    refine WC.ret (by kernel_rfl) ?_
    refine At.thenRet ?_
    obtain rfl := Option.some.inj H
    have hS := hS.addNil (α := Int) 55 (r0 (.int .u64)) 1
    have hS : Sat w0 (rf w0) [osl 55 (r0 (.int .u64)) 1 none 0 ([] : List Int)] := hS.sel [0] (by kernel_rfl)
    exact At.body [.slice none 0 0] (by kernel_rfl) ⟨_, rfl, _, _, rfl, hS⟩
  · rw [hr1] at H
    dsimp only at H
    obtain ⟨b4, fr5, A9, c10, hv6, hb7, R11⟩ := P72.open R0 hr1
    have R8 := R0
    rw [hv6, hr1] at R8
    try subst hv6
    replace R11 : rdS (r0 (.int .u64)) 1 (hp w0) A9 c10 y3.2.2 := R11
    refine WR.runk [1] [] [0, 4] (L' := [(0, .pointer (some ⟨b4, 0, none⟩)), (4, .bool false)]) (w' := w0) (by kernel_rfl) ?_
    refine WR.nil ?_
    refine At.go ?_
    refine WC.condF (by kernel_rfl) (by kernel_rfl) (by kernel_rfl) ?_
    refine WC.skip (by kernel_rfl) ?_
    refine At.go ?_
    refine WC.seq (by kernel_rfl) ?_
    refine WC.reg [0, 1, 2, 3, 4, 5] (by kernel_rfl) (by kernel_rfl) ?_
    refine WR.runk [0, 1, 2] [3, 4, 5] [7] (L' := [(7, .pointer (some ⟨b4, 2, none⟩))]) (w' := w0) (by kernel_rfl) ?_
    refine WR.st (St.ofR (RSt.loadRo (t := 70) (k := 2) (v := .slice A9 y3.2.2.length c10) (.tmp 7) (by kernel_rfl) (by kernel_rfl) (by kernel_rfl) hS.sub0 hb7 (by kernel_rfl) rfl ?_))
    refine WR.runk [] [4, 5] [8] (L' := [(8, .slice A9 y3.2.2.length c10)]) (w' := w0) (by kernel_rfl) ?_
    obtain ⟨r12, e13, H⟩ := bind_ex H
    refine WR.st (St.call (by kernel_rfl) (f := 44) (args := #[.slice A9 y3.2.2.length c10]) (by kernel_rfl) (slices_Clone_44.calls w0 A9 c10 y3.2.2 (rdS.up R11 hS.sub0) r12 e13) ?_)
    rintro _ w19 ⟨A21, c22, rfl, hS20⟩
    have hS : Sat w19 (rf w0) [osl 55 (r0 (.int .u64)) 1 A21 c22 r12] := hS.ext hS20
    refine WR.runk [5] [] [2] (L' := [(2, .slice A21 r12.length c22)]) (w' := w19) (by kernel_rfl) ?_
    refine WR.nil ?_
    refine At.go ?_
    refine WC.ret (by kernel_rfl) ?_
    obtain rfl := Option.some.inj H
    have hS : Sat w19 (rf w0) [osl 55 (r0 (.int .u64)) 1 A21 c22 r12] := hS.sel [0] (by kernel_rfl)
    exact At.body [.slice A21 r12.length c22] (by kernel_rfl) ⟨_, rfl, _, _, rfl, hS⟩
/-! ### 38 math/bits.OnesCount64 -/
def bits_OnesCount64.f (a0 : Int) : Option Int := some (iand .i64 (wi (IntKind.wrap .u64 ((IntKind.wrap .u64 ((IntKind.wrap .u64 ((iand .u64 (IntKind.wrap .u64 ((ishr .u64 (IntKind.wrap .u64 ((iand .u64 (ishr .u64 (IntKind.wrap .u64 ((iand .u64 (ishr .u64 a0 1) 6148914691236517205) + (iand .u64 a0 6148914691236517205))) 2) 3689348814741910323) + (iand .u64 (IntKind.wrap .u64 ((iand .u64 (ishr .u64 a0 1) 6148914691236517205) + (iand .u64 a0 6148914691236517205))) 3689348814741910323))) 4) + (IntKind.wrap .u64 ((iand .u64 (ishr .u64 (IntKind.wrap .u64 ((iand .u64 (ishr .u64 a0 1) 6148914691236517205) + (iand .u64 a0 6148914691236517205))) 2) 3689348814741910323) + (iand .u64 (IntKind.wrap .u64 ((iand .u64 (ishr .u64 a0 1) 6148914691236517205) + (iand .u64 a0 6148914691236517205))) 3689348814741910323))))) 1085102592571150095) + (ishr .u64 (iand .u64 (IntKind.wrap .u64 ((ishr .u64 (IntKind.wrap .u64 ((iand .u64 (ishr .u64 (IntKind.wrap .u64 ((iand .u64 (ishr .u64 a0 1) 6148914691236517205) + (iand .u64 a0 6148914691236517205))) 2) 3689348814741910323) + (iand .u64 (IntKind.wrap .u64 ((iand .u64 (ishr .u64 a0 1) 6148914691236517205) + (iand .u64 a0 6148914691236517205))) 3689348814741910323))) 4) + (IntKind.wrap .u64 ((iand .u64 (ishr .u64 (IntKind.wrap .u64 ((iand .u64 (ishr .u64 a0 1) 6148914691236517205) + (iand .u64 a0 6148914691236517205))) 2) 3689348814741910323) + (iand .u64 (IntKind.wrap .u64 ((iand .u64 (ishr .u64 a0 1) 6148914691236517205) + (iand .u64 a0 6148914691236517205))) 3689348814741910323))))) 1085102592571150095) 8))) + (ishr .u64 (IntKind.wrap .u64 ((iand .u64 (IntKind.wrap .u64 ((ishr .u64 (IntKind.wrap .u64 ((iand .u64 (ishr .u64 (IntKind.wrap .u64 ((iand .u64 (ishr .u64 a0 1) 6148914691236517205) + (iand .u64 a0 6148914691236517205))) 2) 3689348814741910323) + (iand .u64 (IntKind.wrap .u64 ((iand .u64 (ishr .u64 a0 1) 6148914691236517205) + (iand .u64 a0 6148914691236517205))) 3689348814741910323))) 4) + (IntKind.wrap .u64 ((iand .u64 (ishr .u64 (IntKind.wrap .u64 ((iand .u64 (ishr .u64 a0 1) 6148914691236517205) + (iand .u64 a0 6148914691236517205))) 2) 3689348814741910323) + (iand .u64 (IntKind.wrap .u64 ((iand .u64 (ishr .u64 a0 1) 6148914691236517205) + (iand .u64 a0 6148914691236517205))) 3689348814741910323))))) 1085102592571150095) + (ishr .u64 (iand .u64 (IntKind.wrap .u64 ((ishr .u64 (IntKind.wrap .u64 ((iand .u64 (ishr .u64 (IntKind.wrap .u64 ((iand .u64 (ishr .u64 a0 1) 6148914691236517205) + (iand .u64 a0 6148914691236517205))) 2) 3689348814741910323) + (iand .u64 (IntKind.wrap .u64 ((iand .u64 (ishr .u64 a0 1) 6148914691236517205) + (iand .u64 a0 6148914691236517205))) 3689348814741910323))) 4) + (IntKind.wrap .u64 ((iand .u64 (ishr .u64 (IntKind.wrap .u64 ((iand .u64 (ishr .u64 a0 1) 6148914691236517205) + (iand .u64 a0 6148914691236517205))) 2) 3689348814741910323) + (iand .u64 (IntKind.wrap .u64 ((iand .u64 (ishr .u64 a0 1) 6148914691236517205) + (iand .u64 a0 6148914691236517205))) 3689348814741910323))))) 1085102592571150095) 8))) 16))) + (ishr .u64 (IntKind.wrap .u64 ((IntKind.wrap .u64 ((iand .u64 (IntKind.wrap .u64 ((ishr .u64 (IntKind.wrap .u64 ((iand .u64 (ishr .u64 (IntKind.wrap .u64 ((iand .u64 (ishr .u64 a0 1) 6148914691236517205) + (iand .u64 a0 6148914691236517205))) 2) 3689348814741910323) + (iand .u64 (IntKind.wrap .u64 ((iand .u64 (ishr .u64 a0 1) 6148914691236517205) + (iand .u64 a0 6148914691236517205))) 3689348814741910323))) 4) + (IntKind.wrap .u64 ((iand .u64 (ishr .u64 (IntKind.wrap .u64 ((iand .u64 (ishr .u64 a0 1) 6148914691236517205) + (iand .u64 a0 6148914691236517205))) 2) 3689348814741910323) + (iand .u64 (IntKind.wrap .u64 ((iand .u64 (ishr .u64 a0 1) 6148914691236517205) + (iand .u64 a0 6148914691236517205))) 3689348814741910323))))) 1085102592571150095) + (ishr .u64 (iand .u64 (IntKind.wrap .u64 ((ishr .u64 (IntKind.wrap .u64 ((iand .u64 (ishr .u64 (IntKind.wrap .u64 ((iand .u64 (ishr .u64 a0 1) 6148914691236517205) + (iand .u64 a0 6148914691236517205))) 2) 3689348814741910323) + (iand .u64 (IntKind.wrap .u64 ((iand .u64 (ishr .u64 a0 1) 6148914691236517205) + (iand .u64 a0 6148914691236517205))) 3689348814741910323))) 4) + (IntKind.wrap .u64 ((iand .u64 (ishr .u64 (IntKind.wrap .u64 ((iand .u64 (ishr .u64 a0 1) 6148914691236517205) + (iand .u64 a0 6148914691236517205))) 2) 3689348814741910323) + (iand .u64 (IntKind.wrap .u64 ((iand .u64 (ishr .u64 a0 1) 6148914691236517205) + (iand .u64 a0 6148914691236517205))) 3689348814741910323))))) 1085102592571150095) 8))) + (ishr .u64 (IntKind.wrap .u64 ((iand .u64 (IntKind.wrap .u64 ((ishr .u64 (IntKind.wrap .u64 ((iand .u64 (ishr .u64 (IntKind.wrap .u64 ((iand .u64 (ishr .u64 a0 1) 6148914691236517205) + (iand .u64 a0 6148914691236517205))) 2) 3689348814741910323) + (iand .u64 (IntKind.wrap .u64 ((iand .u64 (ishr .u64 a0 1) 6148914691236517205) + (iand .u64 a0 6148914691236517205))) 3689348814741910323))) 4) + (IntKind.wrap .u64 ((iand .u64 (ishr .u64 (IntKind.wrap .u64 ((iand .u64 (ishr .u64 a0 1) 6148914691236517205) + (iand .u64 a0 6148914691236517205))) 2) 3689348814741910323) + (iand .u64 (IntKind.wrap .u64 ((iand .u64 (ishr .u64 a0 1) 6148914691236517205) + (iand .u64 a0 6148914691236517205))) 3689348814741910323))))) 1085102592571150095) + (ishr .u64 (iand .u64 (IntKind.wrap .u64 ((ishr .u64 (IntKind.wrap .u64 ((iand .u64 (ishr .u64 (IntKind.wrap .u64 ((iand .u64 (ishr .u64 a0 1) 6148914691236517205) + (iand .u64 a0 6148914691236517205))) 2) 3689348814741910323) + (iand .u64 (IntKind.wrap .u64 ((iand .u64 (ishr .u64 a0 1) 6148914691236517205) + (iand .u64 a0 6148914691236517205))) 3689348814741910323))) 4) + (IntKind.wrap .u64 ((iand .u64 (ishr .u64 (IntKind.wrap .u64 ((iand .u64 (ishr .u64 a0 1) 6148914691236517205) + (iand .u64 a0 6148914691236517205))) 2) 3689348814741910323) + (iand .u64 (IntKind.wrap .u64 ((iand .u64 (ishr .u64 a0 1) 6148914691236517205) + (iand .u64 a0 6148914691236517205))) 3689348814741910323))))) 1085102592571150095) 8))) 16))) 32)))) 127)
def bits_OnesCount64.post (w : World) (r : Int) (v : Value) (w' : World) : Prop := v = (.int .i64 r : Value) ∧ Sat w' (rf w) []
theorem bits_OnesCount64.calls (w0 : World) (a0 : Int) (r : Int) (H : bits_OnesCount64.f a0 = some r) :
    Calls Try.prog 38 #[.int .u64 a0] w0 (fun e w' => ∃ v, e = .returned v ∧ bits_OnesCount64.post w0 r v w') := by
  have hS : Sat w0 (rf w0) [] := Sat.start w0
  unfold bits_OnesCount64.f at H
  refine calls_of_WC (vs := [.int .u64 a0]) Try.func38 (c := C38) (n := 35) (by kernel_rfl) (by kernel_rfl) (by kernel_rfl) ?_
  refine WC.seq (by kernel_rfl) ?_
  refine WC.reg [0] (by kernel_rfl) (by kernel_rfl) ?_
  refine WR.runk [0] [] [0] (L' := [(0, .int .u64 a0)]) (w' := w0) (by kernel_rfl) ?_
  refine WR.nil ?_
  refine At.go ?_
  refine WC.seq (by kernel_rfl) ?_
  refine WC.reg [0, 1, 2, 3, 4, 5, 6] (by kernel_rfl) (by kernel_rfl) ?_
  refine WR.runk [0, 1, 2, 3, 4, 5, 6] [] [0] (L' := [(0, .int .u64 (IntKind.wrap .u64 ((iand .u64 (ishr .u64 a0 1) 6148914691236517205) + (iand .u64 a0 6148914691236517205))))]) (w' := w0) (by kernel_rfl) ?_
  refine WR.nil ?_
  refine At.go ?_
  refine WC.seq (by kernel_rfl) ?_
  refine WC.reg [0, 1, 2, 3, 4, 5, 6] (by kernel_rfl) (by kernel_rfl) ?_
  refine WR.runk [0, 1, 2, 3, 4, 5, 6] [] [0] (L' := [(0, .int .u64 (IntKind.wrap .u64 ((iand .u64 (ishr .u64 (IntKind.wrap .u64 ((iand .u64 (ishr .u64 a0 1) 6148914691236517205) + (iand .u64 a0 6148914691236517205))) 2) 3689348814741910323) + (iand .u64 (IntKind.wrap .u64 ((iand .u64 (ishr .u64 a0 1) 6148914691236517205) + (iand .u64 a0 6148914691236517205))) 3689348814741910323))))]) (w' := w0) (by kernel_rfl) ?_
  refine WR.nil ?_
  refine At.go ?_
  refine WC.seq (by kernel_rfl) ?_
  refine WC.reg [0, 1, 2, 3, 4, 5] (by kernel_rfl) (by kernel_rfl) ?_
  refine WR.runk [0, 1, 2, 3, 4, 5] [] [0] (L' := [(0, .int .u64 (iand .u64 (IntKind.wrap .u64 ((ishr .u64 (IntKind.wrap .u64 ((iand .u64 (ishr .u64 (IntKind.wrap .u64 ((iand .u64 (ishr .u64 a0 1) 6148914691236517205) + (iand .u64 a0 6148914691236517205))) 2) 3689348814741910323) + (iand .u64 (IntKind.wrap .u64 ((iand .u64 (ishr .u64 a0 1) 6148914691236517205) + (iand .u64 a0 6148914691236517205))) 3689348814741910323))) 4) + (IntKind.wrap .u64 ((iand .u64 (ishr .u64 (IntKind.wrap .u64 ((iand .u64 (ishr .u64 a0 1) 6148914691236517205) + (iand .u64 a0 6148914691236517205))) 2) 3689348814741910323) + (iand .u64 (IntKind.wrap .u64 ((iand .u64 (ishr .u64 a0 1) 6148914691236517205) + (iand .u64 a0 6148914691236517205))) 3689348814741910323))))) 1085102592571150095))]) (w' := w0) (by kernel_rfl) ?_
  refine WR.nil ?_
  refine At.go ?_
  refine WC.seq (by kernel_rfl) ?_
  refine WC.reg [0, 1, 2, 3, 4] (by kernel_rfl) (by kernel_rfl) ?_
  refine WR.runk [0, 1, 2, 3, 4] [] [0] (L' := [(0, .int .u64 (IntKind.wrap .u64 ((iand .u64 (IntKind.wrap .u64 ((ishr .u64 (IntKind.wrap .u64 ((iand .u64 (ishr .u64 (IntKind.wrap .u64 ((iand .u64 (ishr .u64 a0 1) 6148914691236517205) + (iand .u64 a0 6148914691236517205))) 2) 3689348814741910323) + (iand .u64 (IntKind.wrap .u64 ((iand .u64 (ishr .u64 a0 1) 6148914691236517205) + (iand .u64 a0 6148914691236517205))) 3689348814741910323))) 4) + (IntKind.wrap .u64 ((iand .u64 (ishr .u64 (IntKind.wrap .u64 ((iand .u64 (ishr .u64 a0 1) 6148914691236517205) + (iand .u64 a0 6148914691236517205))) 2) 3689348814741910323) + (iand .u64 (IntKind.wrap .u64 ((iand .u64 (ishr .u64 a0 1) 6148914691236517205) + (iand .u64 a0 6148914691236517205))) 3689348814741910323))))) 1085102592571150095) + (ishr .u64 (iand .u64 (IntKind.wrap .u64 ((ishr .u64 (IntKind.wrap .u64 ((iand .u64 (ishr .u64 (IntKind.wrap .u64 ((iand .u64 (ishr .u64 a0 1) 6148914691236517205) + (iand .u64 a0 6148914691236517205))) 2) 3689348814741910323) + (iand .u64 (IntKind.wrap .u64 ((iand .u64 (ishr .u64 a0 1) 6148914691236517205) + (iand .u64 a0 6148914691236517205))) 3689348814741910323))) 4) + (IntKind.wrap .u64 ((iand .u64 (ishr .u64 (IntKind.wrap .u64 ((iand .u64 (ishr .u64 a0 1) 6148914691236517205) + (iand .u64 a0 6148914691236517205))) 2) 3689348814741910323) + (iand .u64 (IntKind.wrap .u64 ((iand .u64 (ishr .u64 a0 1) 6148914691236517205) + (iand .u64 a0 6148914691236517205))) 3689348814741910323))))) 1085102592571150095) 8))))]) (w' := w0) (by kernel_rfl) ?_
  refine WR.nil ?_
  refine At.go ?_
  refine WC.seq (by kernel_rfl) ?_
  refine WC.reg [0, 1, 2, 3, 4] (by kernel_rfl) (by kernel_rfl) ?_
  refine WR.runk [0, 1, 2, 3, 4] [] [0] (L' := [(0, .int .u64 (IntKind.wrap .u64 ((IntKind.wrap .u64 ((iand .u64 (IntKind.wrap .u64 ((ishr .u64 (IntKind.wrap .u64 ((iand .u64 (ishr .u64 (IntKind.wrap .u64 ((iand .u64 (ishr .u64 a0 1) 6148914691236517205) + (iand .u64 a0 6148914691236517205))) 2) 3689348814741910323) + (iand .u64 (IntKind.wrap .u64 ((iand .u64 (ishr .u64 a0 1) 6148914691236517205) + (iand .u64 a0 6148914691236517205))) 3689348814741910323))) 4) + (IntKind.wrap .u64 ((iand .u64 (ishr .u64 (IntKind.wrap .u64 ((iand .u64 (ishr .u64 a0 1) 6148914691236517205) + (iand .u64 a0 6148914691236517205))) 2) 3689348814741910323) + (iand .u64 (IntKind.wrap .u64 ((iand .u64 (ishr .u64 a0 1) 6148914691236517205) + (iand .u64 a0 6148914691236517205))) 3689348814741910323))))) 1085102592571150095) + (ishr .u64 (iand .u64 (IntKind.wrap .u64 ((ishr .u64 (IntKind.wrap .u64 ((iand .u64 (ishr .u64 (IntKind.wrap .u64 ((iand .u64 (ishr .u64 a0 1) 6148914691236517205) + (iand .u64 a0 6148914691236517205))) 2) 3689348814741910323) + (iand .u64 (IntKind.wrap .u64 ((iand .u64 (ishr .u64 a0 1) 6148914691236517205) + (iand .u64 a0 6148914691236517205))) 3689348814741910323))) 4) + (IntKind.wrap .u64 ((iand .u64 (ishr .u64 (IntKind.wrap .u64 ((iand .u64 (ishr .u64 a0 1) 6148914691236517205) + (iand .u64 a0 6148914691236517205))) 2) 3689348814741910323) + (iand .u64 (IntKind.wrap .u64 ((iand .u64 (ishr .u64 a0 1) 6148914691236517205) + (iand .u64 a0 6148914691236517205))) 3689348814741910323))))) 1085102592571150095) 8))) + (ishr .u64 (IntKind.wrap .u64 ((iand .u64 (IntKind.wrap .u64 ((ishr .u64 (IntKind.wrap .u64 ((iand .u64 (ishr .u64 (IntKind.wrap .u64 ((iand .u64 (ishr .u64 a0 1) 6148914691236517205) + (iand .u64 a0 6148914691236517205))) 2) 3689348814741910323) + (iand .u64 (IntKind.wrap .u64 ((iand .u64 (ishr .u64 a0 1) 6148914691236517205) + (iand .u64 a0 6148914691236517205))) 3689348814741910323))) 4) + (IntKind.wrap .u64 ((iand .u64 (ishr .u64 (IntKind.wrap .u64 ((iand .u64 (ishr .u64 a0 1) 6148914691236517205) + (iand .u64 a0 6148914691236517205))) 2) 3689348814741910323) + (iand .u64 (IntKind.wrap .u64 ((iand .u64 (ishr .u64 a0 1) 6148914691236517205) + (iand .u64 a0 6148914691236517205))) 3689348814741910323))))) 1085102592571150095) + (ishr .u64 (iand .u64 (IntKind.wrap .u64 ((ishr .u64 (IntKind.wrap .u64 ((iand .u64 (ishr .u64 (IntKind.wrap .u64 ((iand .u64 (ishr .u64 a0 1) 6148914691236517205) + (iand .u64 a0 6148914691236517205))) 2) 3689348814741910323) + (iand .u64 (IntKind.wrap .u64 ((iand .u64 (ishr .u64 a0 1) 6148914691236517205) + (iand .u64 a0 6148914691236517205))) 3689348814741910323))) 4) + (IntKind.wrap .u64 ((iand .u64 (ishr .u64 (IntKind.wrap .u64 ((iand .u64 (ishr .u64 a0 1) 6148914691236517205) + (iand .u64 a0 6148914691236517205))) 2) 3689348814741910323) + (iand .u64 (IntKind.wrap .u64 ((iand .u64 (ishr .u64 a0 1) 6148914691236517205) + (iand .u64 a0 6148914691236517205))) 3689348814741910323))))) 1085102592571150095) 8))) 16))))]) (w' := w0) (by kernel_rfl) ?_
  refine WR.nil ?_
  refine At.go ?_
  refine WC.seq (by kernel_rfl) ?_
  refine WC.reg [0, 1, 2, 3, 4] (by kernel_rfl) (by kernel_rfl) ?_
  refine WR.runk [0, 1, 2, 3, 4] [] [0] (L' := [(0, .int .u64 (IntKind.wrap .u64 ((IntKind.wrap .u64 ((IntKind.wrap .u64 ((iand .u64 (IntKind.wrap .u64 ((ishr .u64 (IntKind.wrap .u64 ((iand .u64 (ishr .u64 (IntKind.wrap .u64 ((iand .u64 (ishr .u64 a0 1) 6148914691236517205) + (iand .u64 a0 6148914691236517205))) 2) 3689348814741910323) + (iand .u64 (IntKind.wrap .u64 ((iand .u64 (ishr .u64 a0 1) 6148914691236517205) + (iand .u64 a0 6148914691236517205))) 3689348814741910323))) 4) + (IntKind.wrap .u64 ((iand .u64 (ishr .u64 (IntKind.wrap .u64 ((iand .u64 (ishr .u64 a0 1) 6148914691236517205) + (iand .u64 a0 6148914691236517205))) 2) 3689348814741910323) + (iand .u64 (IntKind.wrap .u64 ((iand .u64 (ishr .u64 a0 1) 6148914691236517205) + (iand .u64 a0 6148914691236517205))) 3689348814741910323))))) 1085102592571150095) + (ishr .u64 (iand .u64 (IntKind.wrap .u64 ((ishr .u64 (IntKind.wrap .u64 ((iand .u64 (ishr .u64 (IntKind.wrap .u64 ((iand .u64 (ishr .u64 a0 1) 6148914691236517205) + (iand .u64 a0 6148914691236517205))) 2) 3689348814741910323) + (iand .u64 (IntKind.wrap .u64 ((iand .u64 (ishr .u64 a0 1) 6148914691236517205) + (iand .u64 a0 6148914691236517205))) 3689348814741910323))) 4) + (IntKind.wrap .u64 ((iand .u64 (ishr .u64 (IntKind.wrap .u64 ((iand .u64 (ishr .u64 a0 1) 6148914691236517205) + (iand .u64 a0 6148914691236517205))) 2) 3689348814741910323) + (iand .u64 (IntKind.wrap .u64 ((iand .u64 (ishr .u64 a0 1) 6148914691236517205) + (iand .u64 a0 6148914691236517205))) 3689348814741910323))))) 1085102592571150095) 8))) + (ishr .u64 (IntKind.wrap .u64 ((iand .u64 (IntKind.wrap .u64 ((ishr .u64 (IntKind.wrap .u64 ((iand .u64 (ishr .u64 (IntKind.wrap .u64 ((iand .u64 (ishr .u64 a0 1) 6148914691236517205) + (iand .u64 a0 6148914691236517205))) 2) 3689348814741910323) + (iand .u64 (IntKind.wrap .u64 ((iand .u64 (ishr .u64 a0 1) 6148914691236517205) + (iand .u64 a0 6148914691236517205))) 3689348814741910323))) 4) + (IntKind.wrap .u64 ((iand .u64 (ishr .u64 (IntKind.wrap .u64 ((iand .u64 (ishr .u64 a0 1) 6148914691236517205) + (iand .u64 a0 6148914691236517205))) 2) 3689348814741910323) + (iand .u64 (IntKind.wrap .u64 ((iand .u64 (ishr .u64 a0 1) 6148914691236517205) + (iand .u64 a0 6148914691236517205))) 3689348814741910323))))) 1085102592571150095) + (ishr .u64 (iand .u64 (IntKind.wrap .u64 ((ishr .u64 (IntKind.wrap .u64 ((iand .u64 (ishr .u64 (IntKind.wrap .u64 ((iand .u64 (ishr .u64 a0 1) 6148914691236517205) + (iand .u64 a0 6148914691236517205))) 2) 3689348814741910323) + (iand .u64 (IntKind.wrap .u64 ((iand .u64 (ishr .u64 a0 1) 6148914691236517205) + (iand .u64 a0 6148914691236517205))) 3689348814741910323))) 4) + (IntKind.wrap .u64 ((iand .u64 (ishr .u64 (IntKind.wrap .u64 ((iand .u64 (ishr .u64 a0 1) 6148914691236517205) + (iand .u64 a0 6148914691236517205))) 2) 3689348814741910323) + (iand .u64 (IntKind.wrap .u64 ((iand .u64 (ishr .u64 a0 1) 6148914691236517205) + (iand .u64 a0 6148914691236517205))) 3689348814741910323))))) 1085102592571150095) 8))) 16))) + (ishr .u64 (IntKind.wrap .u64 ((IntKind.wrap .u64 ((iand .u64 (IntKind.wrap .u64 ((ishr .u64 (IntKind.wrap .u64 ((iand .u64 (ishr .u64 (IntKind.wrap .u64 ((iand .u64 (ishr .u64 a0 1) 6148914691236517205) + (iand .u64 a0 6148914691236517205))) 2) 3689348814741910323) + (iand .u64 (IntKind.wrap .u64 ((iand .u64 (ishr .u64 a0 1) 6148914691236517205) + (iand .u64 a0 6148914691236517205))) 3689348814741910323))) 4) + (IntKind.wrap .u64 ((iand .u64 (ishr .u64 (IntKind.wrap .u64 ((iand .u64 (ishr .u64 a0 1) 6148914691236517205) + (iand .u64 a0 6148914691236517205))) 2) 3689348814741910323) + (iand .u64 (IntKind.wrap .u64 ((iand .u64 (ishr .u64 a0 1) 6148914691236517205) + (iand .u64 a0 6148914691236517205))) 3689348814741910323))))) 1085102592571150095) + (ishr .u64 (iand .u64 (IntKind.wrap .u64 ((ishr .u64 (IntKind.wrap .u64 ((iand .u64 (ishr .u64 (IntKind.wrap .u64 ((iand .u64 (ishr .u64 a0 1) 6148914691236517205) + (iand .u64 a0 6148914691236517205))) 2) 3689348814741910323) + (iand .u64 (IntKind.wrap .u64 ((iand .u64 (ishr .u64 a0 1) 6148914691236517205) + (iand .u64 a0 6148914691236517205))) 3689348814741910323))) 4) + (IntKind.wrap .u64 ((iand .u64 (ishr .u64 (IntKind.wrap .u64 ((iand .u64 (ishr .u64 a0 1) 6148914691236517205) + (iand .u64 a0 6148914691236517205))) 2) 3689348814741910323) + (iand .u64 (IntKind.wrap .u64 ((iand .u64 (ishr .u64 a0 1) 6148914691236517205) + (iand .u64 a0 6148914691236517205))) 3689348814741910323))))) 1085102592571150095) 8))) + (ishr .u64 (IntKind.wrap .u64 ((iand .u64 (IntKind.wrap .u64 ((ishr .u64 (IntKind.wrap .u64 ((iand .u64 (ishr .u64 (IntKind.wrap .u64 ((iand .u64 (ishr .u64 a0 1) 6148914691236517205) + (iand .u64 a0 6148914691236517205))) 2) 3689348814741910323) + (iand .u64 (IntKind.wrap .u64 ((iand .u64 (ishr .u64 a0 1) 6148914691236517205) + (iand .u64 a0 6148914691236517205))) 3689348814741910323))) 4) + (IntKind.wrap .u64 ((iand .u64 (ishr .u64 (IntKind.wrap .u64 ((iand .u64 (ishr .u64 a0 1) 6148914691236517205) + (iand .u64 a0 6148914691236517205))) 2) 3689348814741910323) + (iand .u64 (IntKind.wrap .u64 ((iand .u64 (ishr .u64 a0 1) 6148914691236517205) + (iand .u64 a0 6148914691236517205))) 3689348814741910323))))) 1085102592571150095) + (ishr .u64 (iand .u64 (IntKind.wrap .u64 ((ishr .u64 (IntKind.wrap .u64 ((iand .u64 (ishr .u64 (IntKind.wrap .u64 ((iand .u64 (ishr .u64 a0 1) 6148914691236517205) + (iand .u64 a0 6148914691236517205))) 2) 3689348814741910323) + (iand .u64 (IntKind.wrap .u64 ((iand .u64 (ishr .u64 a0 1) 6148914691236517205) + (iand .u64 a0 6148914691236517205))) 3689348814741910323))) 4) + (IntKind.wrap .u64 ((iand .u64 (ishr .u64 (IntKind.wrap .u64 ((iand .u64 (ishr .u64 a0 1) 6148914691236517205) + (iand .u64 a0 6148914691236517205))) 2) 3689348814741910323) + (iand .u64 (IntKind.wrap .u64 ((iand .u64 (ishr .u64 a0 1) 6148914691236517205) + (iand .u64 a0 6148914691236517205))) 3689348814741910323))))) 1085102592571150095) 8))) 16))) 32))))]) (w' := w0) (by kernel_rfl) ?_
  refine WR.nil ?_
  refine At.go ?_
  refine WC.seq (by kernel_rfl) ?_
  refine WC.reg [0, 1, 2, 3] (by kernel_rfl) (by kernel_rfl) ?_
  refine WR.runk [0, 1, 2, 3] [] [2] (L' := [(2, .int .i64 (iand .i64 (wi (IntKind.wrap .u64 ((IntKind.wrap .u64 ((IntKind.wrap .u64 ((iand .u64 (IntKind.wrap .u64 ((ishr .u64 (IntKind.wrap .u64 ((iand .u64 (ishr .u64 (IntKind.wrap .u64 ((iand .u64 (ishr .u64 a0 1) 6148914691236517205) + (iand .u64 a0 6148914691236517205))) 2) 3689348814741910323) + (iand .u64 (IntKind.wrap .u64 ((iand .u64 (ishr .u64 a0 1) 6148914691236517205) + (iand .u64 a0 6148914691236517205))) 3689348814741910323))) 4) + (IntKind.wrap .u64 ((iand .u64 (ishr .u64 (IntKind.wrap .u64 ((iand .u64 (ishr .u64 a0 1) 6148914691236517205) + (iand .u64 a0 6148914691236517205))) 2) 3689348814741910323) + (iand .u64 (IntKind.wrap .u64 ((iand .u64 (ishr .u64 a0 1) 6148914691236517205) + (iand .u64 a0 6148914691236517205))) 3689348814741910323))))) 1085102592571150095) + (ishr .u64 (iand .u64 (IntKind.wrap .u64 ((ishr .u64 (IntKind.wrap .u64 ((iand .u64 (ishr .u64 (IntKind.wrap .u64 ((iand .u64 (ishr .u64 a0 1) 6148914691236517205) + (iand .u64 a0 6148914691236517205))) 2) 3689348814741910323) + (iand .u64 (IntKind.wrap .u64 ((iand .u64 (ishr .u64 a0 1) 6148914691236517205) + (iand .u64 a0 6148914691236517205))) 3689348814741910323))) 4) + (IntKind.wrap .u64 ((iand .u64 (ishr .u64 (IntKind.wrap .u64 ((iand .u64 (ishr .u64 a0 1) 6148914691236517205) + (iand .u64 a0 6148914691236517205))) 2) 3689348814741910323) + (iand .u64 (IntKind.wrap .u64 ((iand .u64 (ishr .u64 a0 1) 6148914691236517205) + (iand .u64 a0 6148914691236517205))) 3689348814741910323))))) 1085102592571150095) 8))) + (ishr .u64 (IntKind.wrap .u64 ((iand .u64 (IntKind.wrap .u64 ((ishr .u64 (IntKind.wrap .u64 ((iand .u64 (ishr .u64 (IntKind.wrap .u64 ((iand .u64 (ishr .u64 a0 1) 6148914691236517205) + (iand .u64 a0 6148914691236517205))) 2) 3689348814741910323) + (iand .u64 (IntKind.wrap .u64 ((iand .u64 (ishr .u64 a0 1) 6148914691236517205) + (iand .u64 a0 6148914691236517205))) 3689348814741910323))) 4) + (IntKind.wrap .u64 ((iand .u64 (ishr .u64 (IntKind.wrap .u64 ((iand .u64 (ishr .u64 a0 1) 6148914691236517205) + (iand .u64 a0 6148914691236517205))) 2) 3689348814741910323) + (iand .u64 (IntKind.wrap .u64 ((iand .u64 (ishr .u64 a0 1) 6148914691236517205) + (iand .u64 a0 6148914691236517205))) 3689348814741910323))))) 1085102592571150095) + (ishr .u64 (iand .u64 (IntKind.wrap .u64 ((ishr .u64 (IntKind.wrap .u64 ((iand .u64 (ishr .u64 (IntKind.wrap .u64 ((iand .u64 (ishr .u64 a0 1) 6148914691236517205) + (iand .u64 a0 6148914691236517205))) 2) 3689348814741910323) + (iand .u64 (IntKind.wrap .u64 ((iand .u64 (ishr .u64 a0 1) 6148914691236517205) + (iand .u64 a0 6148914691236517205))) 3689348814741910323))) 4) + (IntKind.wrap .u64 ((iand .u64 (ishr .u64 (IntKind.wrap .u64 ((iand .u64 (ishr .u64 a0 1) 6148914691236517205) + (iand .u64 a0 6148914691236517205))) 2) 3689348814741910323) + (iand .u64 (IntKind.wrap .u64 ((iand .u64 (ishr .u64 a0 1) 6148914691236517205) + (iand .u64 a0 6148914691236517205))) 3689348814741910323))))) 1085102592571150095) 8))) 16))) + (ishr .u64 (IntKind.wrap .u64 ((IntKind.wrap .u64 ((iand .u64 (IntKind.wrap .u64 ((ishr .u64 (IntKind.wrap .u64 ((iand .u64 (ishr .u64 (IntKind.wrap .u64 ((iand .u64 (ishr .u64 a0 1) 6148914691236517205) + (iand .u64 a0 6148914691236517205))) 2) 3689348814741910323) + (iand .u64 (IntKind.wrap .u64 ((iand .u64 (ishr .u64 a0 1) 6148914691236517205) + (iand .u64 a0 6148914691236517205))) 3689348814741910323))) 4) + (IntKind.wrap .u64 ((iand .u64 (ishr .u64 (IntKind.wrap .u64 ((iand .u64 (ishr .u64 a0 1) 6148914691236517205) + (iand .u64 a0 6148914691236517205))) 2) 3689348814741910323) + (iand .u64 (IntKind.wrap .u64 ((iand .u64 (ishr .u64 a0 1) 6148914691236517205) + (iand .u64 a0 6148914691236517205))) 3689348814741910323))))) 1085102592571150095) + (ishr .u64 (iand .u64 (IntKind.wrap .u64 ((ishr .u64 (IntKind.wrap .u64 ((iand .u64 (ishr .u64 (IntKind.wrap .u64 ((iand .u64 (ishr .u64 a0 1) 6148914691236517205) + (iand .u64 a0 6148914691236517205))) 2) 3689348814741910323) + (iand .u64 (IntKind.wrap .u64 ((iand .u64 (ishr .u64 a0 1) 6148914691236517205) + (iand .u64 a0 6148914691236517205))) 3689348814741910323))) 4) + (IntKind.wrap .u64 ((iand .u64 (ishr .u64 (IntKind.wrap .u64 ((iand .u64 (ishr .u64 a0 1) 6148914691236517205) + (iand .u64 a0 6148914691236517205))) 2) 3689348814741910323) + (iand .u64 (IntKind.wrap .u64 ((iand .u64 (ishr .u64 a0 1) 6148914691236517205) + (iand .u64 a0 6148914691236517205))) 3689348814741910323))))) 1085102592571150095) 8))) + (ishr .u64 (IntKind.wrap .u64 ((iand .u64 (IntKind.wrap .u64 ((ishr .u64 (IntKind.wrap .u64 ((iand .u64 (ishr .u64 (IntKind.wrap .u64 ((iand .u64 (ishr .u64 a0 1) 6148914691236517205) + (iand .u64 a0 6148914691236517205))) 2) 3689348814741910323) + (iand .u64 (IntKind.wrap .u64 ((iand .u64 (ishr .u64 a0 1) 6148914691236517205) + (iand .u64 a0 6148914691236517205))) 3689348814741910323))) 4) + (IntKind.wrap .u64 ((iand .u64 (ishr .u64 (IntKind.wrap .u64 ((iand .u64 (ishr .u64 a0 1) 6148914691236517205) + (iand .u64 a0 6148914691236517205))) 2) 3689348814741910323) + (iand .u64 (IntKind.wrap .u64 ((iand .u64 (ishr .u64 a0 1) 6148914691236517205) + (iand .u64 a0 6148914691236517205))) 3689348814741910323))))) 1085102592571150095) + (ishr .u64 (iand .u64 (IntKind.wrap .u64 ((ishr .u64 (IntKind.wrap .u64 ((iand .u64 (ishr .u64 (IntKind.wrap .u64 ((iand .u64 (ishr .u64 a0 1) 6148914691236517205) + (iand .u64 a0 6148914691236517205))) 2) 3689348814741910323) + (iand .u64 (IntKind.wrap .u64 ((iand .u64 (ishr .u64 a0 1) 6148914691236517205) + (iand .u64 a0 6148914691236517205))) 3689348814741910323))) 4) + (IntKind.wrap .u64 ((iand .u64 (ishr .u64 (IntKind.wrap .u64 ((iand .u64 (ishr .u64 a0 1) 6148914691236517205) + (iand .u64 a0 6148914691236517205))) 2) 3689348814741910323) + (iand .u64 (IntKind.wrap .u64 ((iand .u64 (ishr .u64 a0 1) 6148914691236517205) + (iand .u64 a0 6148914691236517205))) 3689348814741910323))))) 1085102592571150095) 8))) 16))) 32)))) 127))]) (w' := w0) (by kernel_rfl) ?_
  refine WR.nil ?_
  refine At.go ?_
  refine WC.ret (by kernel_rfl) ?_
  obtain rfl := Option.some.inj H
  have hS : Sat w0 (rf w0) [] := hS.sel [] (by kernel_rfl)
  exact At.body [.int .i64 (iand .i64 (wi (IntKind.wrap .u64 ((IntKind.wrap .u64 ((IntKind.wrap .u64 ((iand .u64 (IntKind.wrap .u64 ((ishr .u64 (IntKind.wrap .u64 ((iand .u64 (ishr .u64 (IntKind.wrap .u64 ((iand .u64 (ishr .u64 a0 1) 6148914691236517205) + (iand .u64 a0 6148914691236517205))) 2) 3689348814741910323) + (iand .u64 (IntKind.wrap .u64 ((iand .u64 (ishr .u64 a0 1) 6148914691236517205) + (iand .u64 a0 6148914691236517205))) 3689348814741910323))) 4) + (IntKind.wrap .u64 ((iand .u64 (ishr .u64 (IntKind.wrap .u64 ((iand .u64 (ishr .u64 a0 1) 6148914691236517205) + (iand .u64 a0 6148914691236517205))) 2) 3689348814741910323) + (iand .u64 (IntKind.wrap .u64 ((iand .u64 (ishr .u64 a0 1) 6148914691236517205) + (iand .u64 a0 6148914691236517205))) 3689348814741910323))))) 1085102592571150095) + (ishr .u64 (iand .u64 (IntKind.wrap .u64 ((ishr .u64 (IntKind.wrap .u64 ((iand .u64 (ishr .u64 (IntKind.wrap .u64 ((iand .u64 (ishr .u64 a0 1) 6148914691236517205) + (iand .u64 a0 6148914691236517205))) 2) 3689348814741910323) + (iand .u64 (IntKind.wrap .u64 ((iand .u64 (ishr .u64 a0 1) 6148914691236517205) + (iand .u64 a0 6148914691236517205))) 3689348814741910323))) 4) + (IntKind.wrap .u64 ((iand .u64 (ishr .u64 (IntKind.wrap .u64 ((iand .u64 (ishr .u64 a0 1) 6148914691236517205) + (iand .u64 a0 6148914691236517205))) 2) 3689348814741910323) + (iand .u64 (IntKind.wrap .u64 ((iand .u64 (ishr .u64 a0 1) 6148914691236517205) + (iand .u64 a0 6148914691236517205))) 3689348814741910323))))) 1085102592571150095) 8))) + (ishr .u64 (IntKind.wrap .u64 ((iand .u64 (IntKind.wrap .u64 ((ishr .u64 (IntKind.wrap .u64 ((iand .u64 (ishr .u64 (IntKind.wrap .u64 ((iand .u64 (ishr .u64 a0 1) 6148914691236517205) + (iand .u64 a0 6148914691236517205))) 2) 3689348814741910323) + (iand .u64 (IntKind.wrap .u64 ((iand .u64 (ishr .u64 a0 1) 6148914691236517205) + (iand .u64 a0 6148914691236517205))) 3689348814741910323))) 4) + (IntKind.wrap .u64 ((iand .u64 (ishr .u64 (IntKind.wrap .u64 ((iand .u64 (ishr .u64 a0 1) 6148914691236517205) + (iand .u64 a0 6148914691236517205))) 2) 3689348814741910323) + (iand .u64 (IntKind.wrap .u64 ((iand .u64 (ishr .u64 a0 1) 6148914691236517205) + (iand .u64 a0 6148914691236517205))) 3689348814741910323))))) 1085102592571150095) + (ishr .u64 (iand .u64 (IntKind.wrap .u64 ((ishr .u64 (IntKind.wrap .u64 ((iand .u64 (ishr .u64 (IntKind.wrap .u64 ((iand .u64 (ishr .u64 a0 1) 6148914691236517205) + (iand .u64 a0 6148914691236517205))) 2) 3689348814741910323) + (iand .u64 (IntKind.wrap .u64 ((iand .u64 (ishr .u64 a0 1) 6148914691236517205) + (iand .u64 a0 6148914691236517205))) 3689348814741910323))) 4) + (IntKind.wrap .u64 ((iand .u64 (ishr .u64 (IntKind.wrap .u64 ((iand .u64 (ishr .u64 a0 1) 6148914691236517205) + (iand .u64 a0 6148914691236517205))) 2) 3689348814741910323) + (iand .u64 (IntKind.wrap .u64 ((iand .u64 (ishr .u64 a0 1) 6148914691236517205) + (iand .u64 a0 6148914691236517205))) 3689348814741910323))))) 1085102592571150095) 8))) 16))) + (ishr .u64 (IntKind.wrap .u64 ((IntKind.wrap .u64 ((iand .u64 (IntKind.wrap .u64 ((ishr .u64 (IntKind.wrap .u64 ((iand .u64 (ishr .u64 (IntKind.wrap .u64 ((iand .u64 (ishr .u64 a0 1) 6148914691236517205) + (iand .u64 a0 6148914691236517205))) 2) 3689348814741910323) + (iand .u64 (IntKind.wrap .u64 ((iand .u64 (ishr .u64 a0 1) 6148914691236517205) + (iand .u64 a0 6148914691236517205))) 3689348814741910323))) 4) + (IntKind.wrap .u64 ((iand .u64 (ishr .u64 (IntKind.wrap .u64 ((iand .u64 (ishr .u64 a0 1) 6148914691236517205) + (iand .u64 a0 6148914691236517205))) 2) 3689348814741910323) + (iand .u64 (IntKind.wrap .u64 ((iand .u64 (ishr .u64 a0 1) 6148914691236517205) + (iand .u64 a0 6148914691236517205))) 3689348814741910323))))) 1085102592571150095) + (ishr .u64 (iand .u64 (IntKind.wrap .u64 ((ishr .u64 (IntKind.wrap .u64 ((iand .u64 (ishr .u64 (IntKind.wrap .u64 ((iand .u64 (ishr .u64 a0 1) 6148914691236517205) + (iand .u64 a0 6148914691236517205))) 2) 3689348814741910323) + (iand .u64 (IntKind.wrap .u64 ((iand .u64 (ishr .u64 a0 1) 6148914691236517205) + (iand .u64 a0 6148914691236517205))) 3689348814741910323))) 4) + (IntKind.wrap .u64 ((iand .u64 (ishr .u64 (IntKind.wrap .u64 ((iand .u64 (ishr .u64 a0 1) 6148914691236517205) + (iand .u64 a0 6148914691236517205))) 2) 3689348814741910323) + (iand .u64 (IntKind.wrap .u64 ((iand .u64 (ishr .u64 a0 1) 6148914691236517205) + (iand .u64 a0 6148914691236517205))) 3689348814741910323))))) 1085102592571150095) 8))) + (ishr .u64 (IntKind.wrap .u64 ((iand .u64 (IntKind.wrap .u64 ((ishr .u64 (IntKind.wrap .u64 ((iand .u64 (ishr .u64 (IntKind.wrap .u64 ((iand .u64 (ishr .u64 a0 1) 6148914691236517205) + (iand .u64 a0 6148914691236517205))) 2) 3689348814741910323) + (iand .u64 (IntKind.wrap .u64 ((iand .u64 (ishr .u64 a0 1) 6148914691236517205) + (iand .u64 a0 6148914691236517205))) 3689348814741910323))) 4) + (IntKind.wrap .u64 ((iand .u64 (ishr .u64 (IntKind.wrap .u64 ((iand .u64 (ishr .u64 a0 1) 6148914691236517205) + (iand .u64 a0 6148914691236517205))) 2) 3689348814741910323) + (iand .u64 (IntKind.wrap .u64 ((iand .u64 (ishr .u64 a0 1) 6148914691236517205) + (iand .u64 a0 6148914691236517205))) 3689348814741910323))))) 1085102592571150095) + (ishr .u64 (iand .u64 (IntKind.wrap .u64 ((ishr .u64 (IntKind.wrap .u64 ((iand .u64 (ishr .u64 (IntKind.wrap .u64 ((iand .u64 (ishr .u64 a0 1) 6148914691236517205) + (iand .u64 a0 6148914691236517205))) 2) 3689348814741910323) + (iand .u64 (IntKind.wrap .u64 ((iand .u64 (ishr .u64 a0 1) 6148914691236517205) + (iand .u64 a0 6148914691236517205))) 3689348814741910323))) 4) + (IntKind.wrap .u64 ((iand .u64 (ishr .u64 (IntKind.wrap .u64 ((iand .u64 (ishr .u64 a0 1) 6148914691236517205) + (iand .u64 a0 6148914691236517205))) 2) 3689348814741910323) + (iand .u64 (IntKind.wrap .u64 ((iand .u64 (ishr .u64 a0 1) 6148914691236517205) + (iand .u64 a0 6148914691236517205))) 3689348814741910323))))) 1085102592571150095) 8))) 16))) 32)))) 127)] (by kernel_rfl) ⟨_, rfl, rfl, hS⟩
/-! ### 22 colophon/rank.New -/
def rank_New.l1 (r31 : (List Int)) : Nat → Int → (List Int) → Int → Option ((List Int) × Int)
  | 0, _, _, _ => none
  | k + 1, x25_l1, q44p2_l1, q44p3_l1 => (if decide (x25_l1 < (r31.length : Int)) then ((at? r31 x25_l1).bind fun v46 => (if ((Int.tmod x25_l1 8) == 0) then ((app? 17592186044416 q44p2_l1 ([q44p3_l1] : List Int)).bind fun y54 => ((bits_OnesCount64.f v46).bind fun r61 => rank_New.l1 r31 k (wi (x25_l1 + 1)) y54 (wi (q44p3_l1 + r61)))) else ((bits_OnesCount64.f v46).bind fun r73 => rank_New.l1 r31 k (wi (x25_l1 + 1)) q44p2_l1 (wi (q44p3_l1 + r73))))) else some (q44p2_l1, q44p3_l1))
def rank_New.f (p0 : Option (Int × Int × (List Int))) : Option ((Option (Int × (List Int) × (List Int) × Int)) × Int) := (match p0 with | none => some (none, 1) | some y3 => ((pack_Ints_Width.f (some y3)).bind fun r12 => (if (r12 != 1) then some (none, 2) else ((pack_Ints_Len.f (some y3)).bind fun r22 => ((pack_Ints_Words.f (some y3)).bind fun r31 => ((rank_New.l1 r31 FU 0 ([] : List Int) 0).bind fun o83 => some (some (r22, r31, o83.1, o83.2), 0)))))))
def rank_New.post (w : World) (r : (Option (Int × (List Int) × (List Int) × Int)) × Int) (v : Value) (w' : World) : Prop := ∃ (v0 : Value), v = .tuple #[v0, .int .i64 r.2] ∧ Sat w' (rf w) [optP O76 v0 r.1]
theorem rank_New.l1_ok {Q} (w0 : World) (r22 : Int) (r31 : (List Int)) (A40 : Option Addr) (c41 : Nat) (b42 : Nat) (out : (List Int) × Int) (hn0 : ∀ (Aq44p2_q : Option Addr) (cq44p2_q : Nat) (w : World), Sat w (rf w0) [pts b42 (.cells #[.int .i64 r22, .slice A40 r31.length c41, .slice Aq44p2_q out.1.length cq44p2_q, .int .i64 out.2] 76 (0, 0)), osl 3 (r0 (.int .i64)) 1 Aq44p2_q cq44p2_q out.1, osl 55 (r0 (.int .u64)) 1 A40 c41 r31] → At Q (.exit 1) 57 [(4, .pointer (some ⟨b42, 0, none⟩))] w) :
    ∀ (k : Nat) (x25_l1 : Int) (q44p2_l1 : List Int) (q44p3_l1 : Int) (Aq44p2_l1 : Option Addr) (cq44p2_l1 : Nat) (w : World), Sat w (rf w0) [osl 55 (r0 (.int .u64)) 1 A40 c41 r31, pts b42 (.cells #[.int .i64 r22, .slice A40 r31.length c41, .slice Aq44p2_l1 q44p2_l1.length cq44p2_l1, .int .i64 q44p3_l1] 76 (0, 0)), osl 3 (r0 (.int .i64)) 1 Aq44p2_l1 cq44p2_l1 q44p2_l1] → rank_New.l1 r31 k x25_l1 q44p2_l1 q44p3_l1 = some out → WL Try.prog (cbody (cbody (cr (cl (cr (cr (cr C22))))))) Q 57 [(4, .pointer (some ⟨b42, 0, none⟩)), (23, .slice A40 r31.length c41), (24, .int .i64 (r31.length : Int)), (25, .int .i64 x25_l1)] w := by
  intro k
  induction k with
  | zero => intro x25_l1 q44p2_l1 q44p3_l1 Aq44p2_l1 cq44p2_l1 w hS H; exact absurd (show none = some out from H) (by simp)
  | succ k ih =>
    intro x25_l1 q44p2_l1 q44p3_l1 Aq44p2_l1 cq44p2_l1 w hS H
    unfold rank_New.l1 at H
    refine WL.round ?_
    refine WC.seq (by kernel_rfl) ?_
    refine WC.reg [0] (by kernel_rfl) (by kernel_rfl) ?_
    refine WR.runk [0] [] [4, 23, 24, 25, 26] (L' := [(4, .pointer (some ⟨b42, 0, none⟩)), (23, .slice A40 r31.length c41), (24, .int .i64 (r31.length : Int)), (25, .int .i64 x25_l1), (26, .bool (decide (x25_l1 < (r31.length : Int))))]) (w' := w) (by kernel_rfl) ?_
    refine WR.nil ?_
    refine At.go ?_
    refine WC.seq (by kernel_rfl) ?_
    refine WC.cond (by kernel_rfl) (decide (x25_l1 < (r31.length : Int))) (by kernel_rfl) (by kernel_rfl) (fun hb45 => ?_) (fun hb45 => ?_)
    · replace H := ite_t H hb45
      refine WC.skip (by kernel_rfl) ?_
      refine At.go ?_
      refine WC.seq (by kernel_rfl) ?_
      refine WC.block (by kernel_rfl) ?_
      refine WC.seq (by kernel_rfl) ?_
      refine WC.reg [0, 1, 2, 3, 4] (by kernel_rfl) (by kernel_rfl) ?_
      refine WR.runk [0] [1, 2, 3, 4] [4, 23, 24, 25, 27] (L' := [(4, .pointer (some ⟨b42, 0, none⟩)), (23, .slice A40 r31.length c41), (24, .int .i64 (r31.length : Int)), (25, .int .i64 x25_l1), (27, .int .i64 x25_l1)]) (w' := w) (by kernel_rfl) ?_
      obtain ⟨v46, e47, H⟩ := bind_ex H
      refine WR.st (St.ofP (PSt.idx (k := .i64) (.tmp 23) (.tmp 25) (by kernel_rfl) (by kernel_rfl) E70 (by kernel_rfl) (by kernel_rfl) (Sat.rdAt 0 hS rfl) e47 ?_))
      refine WR.runk [] [2, 3, 4] [4, 23, 24, 25, 27, 28] (L' := [(4, .pointer (some ⟨b42, 0, none⟩)), (23, .slice A40 r31.length c41), (24, .int .i64 (r31.length : Int)), (25, .int .i64 x25_l1), (27, .int .i64 x25_l1), (28, .pointer (some (adr A40 x25_l1.toNat 1)))]) (w' := w) (by kernel_rfl) ?_
      refine WR.st (St.ofR (RSt.loadInt (t := 55) (.tmp 28) (by kernel_rfl) (by kernel_rfl) (by kernel_rfl) (by kernel_rfl) (Sat.rdAt 0 hS rfl) e47 ?_))
      refine WR.runk [3, 4] [] [4, 5, 6, 23, 24, 25] (L' := [(4, .pointer (some ⟨b42, 0, none⟩)), (5, .int .i64 x25_l1), (6, .int .u64 v46), (23, .slice A40 r31.length c41), (24, .int .i64 (r31.length : Int)), (25, .int .i64 x25_l1)]) (w' := w) (by kernel_rfl) ?_
      refine WR.nil ?_
      refine At.go ?_
      refine WC.seq (by kernel_rfl) ?_
      refine WC.seq (by kernel_rfl) ?_
      refine WC.reg [0, 1, 2] (by kernel_rfl) (by kernel_rfl) ?_
      refine WR.runk [0, 1, 2] [] [4, 6, 23, 24, 25, 32] (L' := [(4, .pointer (some ⟨b42, 0, none⟩)), (6, .int .u64 v46), (23, .slice A40 r31.length c41), (24, .int .i64 (r31.length : Int)), (25, .int .i64 x25_l1), (32, .bool ((Int.tmod x25_l1 8) == 0))]) (w' := w) (by kernel_rfl) ?_
      refine WR.nil ?_
      refine At.go ?_
      refine WC.cond (by kernel_rfl) ((Int.tmod x25_l1 8) == 0) (by kernel_rfl) (by kernel_rfl) (fun hb48 => ?_) (fun hb48 => ?_)
      · replace H := ite_t H hb48
        refine WC.drawn (by kernel_rfl) (by kernel_rfl) 14 (by kernel_rfl) (fun w49 hw50 => ?_)
        have hS := hS.heap hw50.1 hw50.2
        refine WD.weaken [4, 6, 23, 24, 25] (L' := [(4, .pointer (some ⟨b42, 0, none⟩)), (6, .int .u64 v46), (23, .slice A40 r31.length c41), (24, .int .i64 (r31.length : Int)), (25, .int .i64 x25_l1)]) (by kernel_rfl) ?_
        refine WD.pure (i := 0) (v := .pointer (some ⟨b42, 0, none⟩)) (by kernel_rfl) (by kernel_rfl) (fun _ => by kernel_rfl) ?_
        refine WD.weaken [4, 6, 23, 24, 25, 33] (L' := [(4, .pointer (some ⟨b42, 0, none⟩)), (6, .int .u64 v46), (23, .slice A40 r31.length c41), (24, .int .i64 (r31.length : Int)), (25, .int .i64 x25_l1), (33, .pointer (some ⟨b42, 0, none⟩))]) (by kernel_rfl) ?_
        refine WD.pure (i := 1) (v := .pointer (some ⟨b42, 0, none⟩)) (by kernel_rfl) (by kernel_rfl) (fun _ => by kernel_rfl) ?_
        refine WD.weaken [4, 6, 23, 24, 25, 33, 34] (L' := [(4, .pointer (some ⟨b42, 0, none⟩)), (6, .int .u64 v46), (23, .slice A40 r31.length c41), (24, .int .i64 (r31.length : Int)), (25, .int .i64 x25_l1), (33, .pointer (some ⟨b42, 0, none⟩)), (34, .pointer (some ⟨b42, 0, none⟩))]) (by kernel_rfl) ?_
        refine WD.pure (i := 2) (v := .pointer (some ⟨b42, 0, none⟩)) (by kernel_rfl) (by kernel_rfl) (fun _ => by kernel_rfl) ?_
        refine WD.weaken [4, 6, 23, 24, 25, 33, 35] (L' := [(4, .pointer (some ⟨b42, 0, none⟩)), (6, .int .u64 v46), (23, .slice A40 r31.length c41), (24, .int .i64 (r31.length : Int)), (25, .int .i64 x25_l1), (33, .pointer (some ⟨b42, 0, none⟩)), (35, .pointer (some ⟨b42, 0, none⟩))]) (by kernel_rfl) ?_
        refine WD.pure (i := 3) (v := .pointer (some ⟨b42, 2, none⟩)) (by kernel_rfl) (by kernel_rfl) (fun _ => by kernel_rfl) ?_
        refine WD.weaken [4, 6, 23, 24, 25, 33, 36] (L' := [(4, .pointer (some ⟨b42, 0, none⟩)), (6, .int .u64 v46), (23, .slice A40 r31.length c41), (24, .int .i64 (r31.length : Int)), (25, .int .i64 x25_l1), (33, .pointer (some ⟨b42, 0, none⟩)), (36, .pointer (some ⟨b42, 2, none⟩))]) (by kernel_rfl) ?_
        refine WD.ofR (i := 4) (by kernel_rfl) (RSt.loadObj (t := 22) (k := 2) (v := .slice Aq44p2_l1 q44p2_l1.length cq44p2_l1) (.tmp 36) (by kernel_rfl) (by kernel_rfl) (by kernel_rfl) 1 hS rfl (by kernel_rfl) rfl ?_)
        refine WD.weaken [4, 6, 23, 24, 25, 33, 37] (L' := [(4, .pointer (some ⟨b42, 0, none⟩)), (6, .int .u64 v46), (23, .slice A40 r31.length c41), (24, .int .i64 (r31.length : Int)), (25, .int .i64 x25_l1), (33, .pointer (some ⟨b42, 0, none⟩)), (37, .slice Aq44p2_l1 q44p2_l1.length cq44p2_l1)]) (by kernel_rfl) ?_
        refine WD.pure (i := 5) (v := .pointer (some ⟨b42, 0, none⟩)) (by kernel_rfl) (by kernel_rfl) (fun _ => by kernel_rfl) ?_
        refine WD.weaken [4, 6, 23, 24, 25, 33, 37, 38] (L' := [(4, .pointer (some ⟨b42, 0, none⟩)), (6, .int .u64 v46), (23, .slice A40 r31.length c41), (24, .int .i64 (r31.length : Int)), (25, .int .i64 x25_l1), (33, .pointer (some ⟨b42, 0, none⟩)), (37, .slice Aq44p2_l1 q44p2_l1.length cq44p2_l1), (38, .pointer (some ⟨b42, 0, none⟩))]) (by kernel_rfl) ?_
        refine WD.pure (i := 6) (v := .pointer (some ⟨b42, 0, none⟩)) (by kernel_rfl) (by kernel_rfl) (fun _ => by kernel_rfl) ?_
        refine WD.weaken [4, 6, 23, 24, 25, 33, 37, 39] (L' := [(4, .pointer (some ⟨b42, 0, none⟩)), (6, .int .u64 v46), (23, .slice A40 r31.length c41), (24, .int .i64 (r31.length : Int)), (25, .int .i64 x25_l1), (33, .pointer (some ⟨b42, 0, none⟩)), (37, .slice Aq44p2_l1 q44p2_l1.length cq44p2_l1), (39, .pointer (some ⟨b42, 0, none⟩))]) (by kernel_rfl) ?_
        refine WD.pure (i := 7) (v := .pointer (some ⟨b42, 3, none⟩)) (by kernel_rfl) (by kernel_rfl) (fun _ => by kernel_rfl) ?_
        refine WD.weaken [4, 6, 23, 24, 25, 33, 37, 40] (L' := [(4, .pointer (some ⟨b42, 0, none⟩)), (6, .int .u64 v46), (23, .slice A40 r31.length c41), (24, .int .i64 (r31.length : Int)), (25, .int .i64 x25_l1), (33, .pointer (some ⟨b42, 0, none⟩)), (37, .slice Aq44p2_l1 q44p2_l1.length cq44p2_l1), (40, .pointer (some ⟨b42, 3, none⟩))]) (by kernel_rfl) ?_
        refine WD.ofR (i := 8) (by kernel_rfl) (RSt.loadObj (t := 3) (k := 3) (v := .int .i64 q44p3_l1) (.tmp 40) (by kernel_rfl) (by kernel_rfl) (by kernel_rfl) 1 hS rfl (by kernel_rfl) rfl ?_)
        refine WD.weaken [4, 6, 23, 24, 25, 33, 37, 41] (L' := [(4, .pointer (some ⟨b42, 0, none⟩)), (6, .int .u64 v46), (23, .slice A40 r31.length c41), (24, .int .i64 (r31.length : Int)), (25, .int .i64 x25_l1), (33, .pointer (some ⟨b42, 0, none⟩)), (37, .slice Aq44p2_l1 q44p2_l1.length cq44p2_l1), (41, .int .i64 q44p3_l1)]) (by kernel_rfl) ?_
        refine WD.act (i := 9) (by kernel_rfl) (St.box hS (by kernel_rfl) (.cells #[.int .i64 q44p3_l1] 3) (fun b51 => .slice (some ⟨b51, 0, none⟩) 1 1) (fun _ => by kernel_rfl) (fun b51 w52 hS => ?_))
        refine ⟨(asked.anc (by kernel_rfl) (asked.cons (RSt.run (n := 57) (RSt.loadObj (t := 22) (k := 2) (v := .slice Aq44p2_l1 q44p2_l1.length cq44p2_l1) (.tmp 36) (by kernel_rfl) (by kernel_rfl) (by kernel_rfl) 2 hS rfl (by kernel_rfl) rfl rfl)) (asked.nil _ _))), ?_⟩
        refine WD.weaken [4, 6, 23, 24, 25, 33, 37, 42] (L' := [(4, .pointer (some ⟨b42, 0, none⟩)), (6, .int .u64 v46), (23, .slice A40 r31.length c41), (24, .int .i64 (r31.length : Int)), (25, .int .i64 x25_l1), (33, .pointer (some ⟨b42, 0, none⟩)), (37, .slice Aq44p2_l1 q44p2_l1.length cq44p2_l1), (42, .slice (some ⟨b51, 0, none⟩) 1 1)]) (by kernel_rfl) ?_
        have hS : Sat w52 (rf w0) [osl 3 (r0 (.int .i64)) 1 Aq44p2_l1 cq44p2_l1 q44p2_l1, pts b51 (.cells #[.int .i64 q44p3_l1] 3 (0, 0)), osl 55 (r0 (.int .u64)) 1 A40 c41 r31, pts b42 (.cells #[.int .i64 r22, .slice A40 r31.length c41, .slice Aq44p2_l1 q44p2_l1.length cq44p2_l1, .int .i64 q44p3_l1] 76 (0, 0))] := hS.sel [3, 0, 1, 2] (by kernel_rfl)
        obtain ⟨y54, e53, H⟩ := bind_ex H
        refine WD.act (i := 10) (by kernel_rfl) (St.append' (.tmp 37) (.tmp 42) (by kernel_rfl) (by kernel_rfl) E22 (r0_one _) hS (by kernel_rfl) (by kernel_rfl) (Sat.ptsAt 1 (r0 (.int .i64)) 1 ([q44p3_l1] : List Int) hS rfl rfl (rdL.cons1 rfl (rdL.nil _ _))) 17592186044416 (by kernel_rfl) (by kernel_rfl) e53 (fun A55 c56 w57 hS => ?_))
        refine ⟨(asked.anc (by kernel_rfl) (asked.anc (by kernel_rfl) (asked.nil _ _))), ?_⟩
        refine WD.weaken [4, 6, 23, 24, 25, 33, 43] (L' := [(4, .pointer (some ⟨b42, 0, none⟩)), (6, .int .u64 v46), (23, .slice A40 r31.length c41), (24, .int .i64 (r31.length : Int)), (25, .int .i64 x25_l1), (33, .pointer (some ⟨b42, 0, none⟩)), (43, .slice A55 y54.length c56)]) (by kernel_rfl) ?_
        refine WD.pure (i := 11) (v := .pointer (some ⟨b42, 0, none⟩)) (by kernel_rfl) (by kernel_rfl) (fun _ => by kernel_rfl) ?_
        refine WD.weaken [4, 6, 23, 24, 25, 43, 44] (L' := [(4, .pointer (some ⟨b42, 0, none⟩)), (6, .int .u64 v46), (23, .slice A40 r31.length c41), (24, .int .i64 (r31.length : Int)), (25, .int .i64 x25_l1), (43, .slice A55 y54.length c56), (44, .pointer (some ⟨b42, 0, none⟩))]) (by kernel_rfl) ?_
        refine WD.pure (i := 12) (v := .pointer (some ⟨b42, 2, none⟩)) (by kernel_rfl) (by kernel_rfl) (fun _ => by kernel_rfl) ?_
        refine WD.weaken [4, 6, 23, 24, 25, 43, 45] (L' := [(4, .pointer (some ⟨b42, 0, none⟩)), (6, .int .u64 v46), (23, .slice A40 r31.length c41), (24, .int .i64 (r31.length : Int)), (25, .int .i64 x25_l1), (43, .slice A55 y54.length c56), (45, .pointer (some ⟨b42, 2, none⟩))]) (by kernel_rfl) ?_
        have hS : Sat w57 (rf w0) [pts b42 (.cells #[.int .i64 r22, .slice A40 r31.length c41, .slice Aq44p2_l1 q44p2_l1.length cq44p2_l1, .int .i64 q44p3_l1] 76 (0, 0)), osl 3 (r0 (.int .i64)) 1 A55 c56 y54, pts b51 (.cells #[.int .i64 q44p3_l1] 3 (0, 0)), osl 55 (r0 (.int .u64)) 1 A40 c41 r31] := hS.sel [3, 0, 1, 2] (by kernel_rfl)
        refine WD.act (i := 13) (by kernel_rfl) (St.storeObj (t := 22) (k := 2) (cur' := #[.int .i64 r22, .slice A40 r31.length c41, .slice A55 y54.length c56, .int .i64 q44p3_l1]) (.tmp 45) (.tmp 43) (by kernel_rfl) (by kernel_rfl) (by kernel_rfl) hS (by kernel_rfl) (by kernel_rfl) (by kernel_rfl) rfl rfl (fun w58 hS => ?_))
        refine ⟨(asked.anc (by kernel_rfl) (asked.anc (by kernel_rfl) (asked.nil _ _))), ?_⟩
        refine WD.weaken [4, 6, 23, 24, 25] (L' := [(4, .pointer (some ⟨b42, 0, none⟩)), (6, .int .u64 v46), (23, .slice A40 r31.length c41), (24, .int .i64 (r31.length : Int)), (25, .int .i64 x25_l1)]) (by kernel_rfl) ?_
        refine WD.nil (by kernel_rfl) ?_
        refine At.go ?_
        refine WC.drawn (by kernel_rfl) (by kernel_rfl) 10 (by kernel_rfl) (fun w59 hw60 => ?_)
        have hS := hS.heap hw60.1 hw60.2
        refine WD.weaken [4, 6, 23, 24, 25] (L' := [(4, .pointer (some ⟨b42, 0, none⟩)), (6, .int .u64 v46), (23, .slice A40 r31.length c41), (24, .int .i64 (r31.length : Int)), (25, .int .i64 x25_l1)]) (by kernel_rfl) ?_
        refine WD.pure (i := 0) (v := .pointer (some ⟨b42, 0, none⟩)) (by kernel_rfl) (by kernel_rfl) (fun _ => by kernel_rfl) ?_
        refine WD.weaken [4, 6, 23, 24, 25, 46] (L' := [(4, .pointer (some ⟨b42, 0, none⟩)), (6, .int .u64 v46), (23, .slice A40 r31.length c41), (24, .int .i64 (r31.length : Int)), (25, .int .i64 x25_l1), (46, .pointer (some ⟨b42, 0, none⟩))]) (by kernel_rfl) ?_
        refine WD.pure (i := 1) (v := .pointer (some ⟨b42, 0, none⟩)) (by kernel_rfl) (by kernel_rfl) (fun _ => by kernel_rfl) ?_
        refine WD.weaken [4, 6, 23, 24, 25, 46, 47] (L' := [(4, .pointer (some ⟨b42, 0, none⟩)), (6, .int .u64 v46), (23, .slice A40 r31.length c41), (24, .int .i64 (r31.length : Int)), (25, .int .i64 x25_l1), (46, .pointer (some ⟨b42, 0, none⟩)), (47, .pointer (some ⟨b42, 0, none⟩))]) (by kernel_rfl) ?_
        refine WD.pure (i := 2) (v := .pointer (some ⟨b42, 3, none⟩)) (by kernel_rfl) (by kernel_rfl) (fun _ => by kernel_rfl) ?_
        refine WD.weaken [4, 6, 23, 24, 25, 46, 48] (L' := [(4, .pointer (some ⟨b42, 0, none⟩)), (6, .int .u64 v46), (23, .slice A40 r31.length c41), (24, .int .i64 (r31.length : Int)), (25, .int .i64 x25_l1), (46, .pointer (some ⟨b42, 0, none⟩)), (48, .pointer (some ⟨b42, 3, none⟩))]) (by kernel_rfl) ?_
        refine WD.ofR (i := 3) (by kernel_rfl) (RSt.loadObj (t := 3) (k := 3) (v := .int .i64 q44p3_l1) (.tmp 48) (by kernel_rfl) (by kernel_rfl) (by kernel_rfl) 0 hS rfl (by kernel_rfl) rfl ?_)
        refine WD.weaken [4, 6, 23, 24, 25, 46, 49] (L' := [(4, .pointer (some ⟨b42, 0, none⟩)), (6, .int .u64 v46), (23, .slice A40 r31.length c41), (24, .int .i64 (r31.length : Int)), (25, .int .i64 x25_l1), (46, .pointer (some ⟨b42, 0, none⟩)), (49, .int .i64 q44p3_l1)]) (by kernel_rfl) ?_
        refine WD.pure (i := 4) (v := .int .u64 v46) (by kernel_rfl) (by kernel_rfl) (fun _ => by kernel_rfl) ?_
        refine WD.weaken [4, 23, 24, 25, 46, 49, 50] (L' := [(4, .pointer (some ⟨b42, 0, none⟩)), (23, .slice A40 r31.length c41), (24, .int .i64 (r31.length : Int)), (25, .int .i64 x25_l1), (46, .pointer (some ⟨b42, 0, none⟩)), (49, .int .i64 q44p3_l1), (50, .int .u64 v46)]) (by kernel_rfl) ?_
        obtain ⟨r61, e62, H⟩ := bind_ex H
        refine WD.act (i := 5) (by kernel_rfl) (St.call (by kernel_rfl) (f := 38) (args := #[.int .u64 v46]) (by kernel_rfl) (bits_OnesCount64.calls w59 v46 r61 e62) ?_)
        rintro _ w68 ⟨rfl, hS69⟩
        have hS : Sat w68 (rf w0) [pts b42 (.cells #[.int .i64 r22, .slice A40 r31.length c41, .slice A55 y54.length c56, .int .i64 q44p3_l1] 76 (0, 0)), osl 3 (r0 (.int .i64)) 1 A55 c56 y54, pts b51 (.cells #[.int .i64 q44p3_l1] 3 (0, 0)), osl 55 (r0 (.int .u64)) 1 A40 c41 r31] := hS.ext hS69
        refine ⟨(asked.cons (RSt.run (n := 57) (RSt.loadObj (t := 3) (k := 3) (v := .int .i64 q44p3_l1) (.tmp 48) (by kernel_rfl) (by kernel_rfl) (by kernel_rfl) 0 hS rfl (by kernel_rfl) rfl rfl)) (asked.nil _ _)), ?_⟩
        refine WD.weaken [4, 23, 24, 25, 46, 49, 51] (L' := [(4, .pointer (some ⟨b42, 0, none⟩)), (23, .slice A40 r31.length c41), (24, .int .i64 (r31.length : Int)), (25, .int .i64 x25_l1), (46, .pointer (some ⟨b42, 0, none⟩)), (49, .int .i64 q44p3_l1), (51, .int .i64 r61)]) (by kernel_rfl) ?_
        refine WD.pure (i := 6) (v := .int .i64 (wi (q44p3_l1 + r61))) (by kernel_rfl) (by kernel_rfl) (fun _ => by kernel_rfl) ?_
        refine WD.weaken [4, 23, 24, 25, 46, 52] (L' := [(4, .pointer (some ⟨b42, 0, none⟩)), (23, .slice A40 r31.length c41), (24, .int .i64 (r31.length : Int)), (25, .int .i64 x25_l1), (46, .pointer (some ⟨b42, 0, none⟩)), (52, .int .i64 (wi (q44p3_l1 + r61)))]) (by kernel_rfl) ?_
        refine WD.pure (i := 7) (v := .pointer (some ⟨b42, 0, none⟩)) (by kernel_rfl) (by kernel_rfl) (fun _ => by kernel_rfl) ?_
        refine WD.weaken [4, 23, 24, 25, 52, 53] (L' := [(4, .pointer (some ⟨b42, 0, none⟩)), (23, .slice A40 r31.length c41), (24, .int .i64 (r31.length : Int)), (25, .int .i64 x25_l1), (52, .int .i64 (wi (q44p3_l1 + r61))), (53, .pointer (some ⟨b42, 0, none⟩))]) (by kernel_rfl) ?_
        refine WD.pure (i := 8) (v := .pointer (some ⟨b42, 3, none⟩)) (by kernel_rfl) (by kernel_rfl) (fun _ => by kernel_rfl) ?_
        refine WD.weaken [4, 23, 24, 25, 52, 54] (L' := [(4, .pointer (some ⟨b42, 0, none⟩)), (23, .slice A40 r31.length c41), (24, .int .i64 (r31.length : Int)), (25, .int .i64 x25_l1), (52, .int .i64 (wi (q44p3_l1 + r61))), (54, .pointer (some ⟨b42, 3, none⟩))]) (by kernel_rfl) ?_
        refine WD.act (i := 9) (by kernel_rfl) (St.storeObj (t := 3) (k := 3) (cur' := #[.int .i64 r22, .slice A40 r31.length c41, .slice A55 y54.length c56, .int .i64 (wi (q44p3_l1 + r61))]) (.tmp 54) (.tmp 52) (by kernel_rfl) (by kernel_rfl) (by kernel_rfl) hS (by kernel_rfl) (by kernel_rfl) (by kernel_rfl) rfl rfl (fun w70 hS => ?_))
        refine ⟨(asked.anc (by kernel_rfl) (asked.nil _ _)), ?_⟩
        refine WD.weaken [4, 23, 24, 25] (L' := [(4, .pointer (some ⟨b42, 0, none⟩)), (23, .slice A40 r31.length c41), (24, .int .i64 (r31.length : Int)), (25, .int .i64 x25_l1)]) (by kernel_rfl) ?_
        refine WD.nil (by kernel_rfl) ?_
        refine At.blockNormal ?_
        refine At.go ?_
        refine WC.reg [0, 1] (by kernel_rfl) (by kernel_rfl) ?_
        refine WR.runk [0, 1] [] [4, 23, 24, 25] (L' := [(4, .pointer (some ⟨b42, 0, none⟩)), (23, .slice A40 r31.length c41), (24, .int .i64 (r31.length : Int)), (25, .int .i64 (wi (x25_l1 + 1)))]) (w' := w70) (by kernel_rfl) ?_
        refine WR.nil ?_
        have hS : Sat w70 (rf w0) [osl 55 (r0 (.int .u64)) 1 A40 c41 r31, pts b42 (.cells #[.int .i64 r22, .slice A40 r31.length c41, .slice A55 y54.length c56, .int .i64 (wi (q44p3_l1 + r61))] 76 (0, 0)), osl 3 (r0 (.int .i64)) 1 A55 c56 y54] := hS.sel [3, 0, 1] (by kernel_rfl)
        refine At.again ?_
        refine WL.weaken [4, 23, 24, 25] (L' := [(4, .pointer (some ⟨b42, 0, none⟩)), (23, .slice A40 r31.length c41), (24, .int .i64 (r31.length : Int)), (25, .int .i64 (wi (x25_l1 + 1)))]) (by kernel_rfl) ?_
        exact ih (wi (x25_l1 + 1)) y54 (wi (q44p3_l1 + r61)) A55 c56 _ hS H
      · replace H := ite_f H hb48
        refine WC.skip (by kernel_rfl) ?_
        refine At.go ?_
        refine WC.drawn (by kernel_rfl) (by kernel_rfl) 10 (by kernel_rfl) (fun w71 hw72 => ?_)
        have hS := hS.heap hw72.1 hw72.2
        refine WD.weaken [4, 6, 23, 24, 25] (L' := [(4, .pointer (some ⟨b42, 0, none⟩)), (6, .int .u64 v46), (23, .slice A40 r31.length c41), (24, .int .i64 (r31.length : Int)), (25, .int .i64 x25_l1)]) (by kernel_rfl) ?_
        refine WD.pure (i := 0) (v := .pointer (some ⟨b42, 0, none⟩)) (by kernel_rfl) (by kernel_rfl) (fun _ => by kernel_rfl) ?_
        refine WD.weaken [4, 6, 23, 24, 25, 46] (L' := [(4, .pointer (some ⟨b42, 0, none⟩)), (6, .int .u64 v46), (23, .slice A40 r31.length c41), (24, .int .i64 (r31.length : Int)), (25, .int .i64 x25_l1), (46, .pointer (some ⟨b42, 0, none⟩))]) (by kernel_rfl) ?_
        refine WD.pure (i := 1) (v := .pointer (some ⟨b42, 0, none⟩)) (by kernel_rfl) (by kernel_rfl) (fun _ => by kernel_rfl) ?_
        refine WD.weaken [4, 6, 23, 24, 25, 46, 47] (L' := [(4, .pointer (some ⟨b42, 0, none⟩)), (6, .int .u64 v46), (23, .slice A40 r31.length c41), (24, .int .i64 (r31.length : Int)), (25, .int .i64 x25_l1), (46, .pointer (some ⟨b42, 0, none⟩)), (47, .pointer (some ⟨b42, 0, none⟩))]) (by kernel_rfl) ?_
        refine WD.pure (i := 2) (v := .pointer (some ⟨b42, 3, none⟩)) (by kernel_rfl) (by kernel_rfl) (fun _ => by kernel_rfl) ?_
        refine WD.weaken [4, 6, 23, 24, 25, 46, 48] (L' := [(4, .pointer (some ⟨b42, 0, none⟩)), (6, .int .u64 v46), (23, .slice A40 r31.length c41), (24, .int .i64 (r31.length : Int)), (25, .int .i64 x25_l1), (46, .pointer (some ⟨b42, 0, none⟩)), (48, .pointer (some ⟨b42, 3, none⟩))]) (by kernel_rfl) ?_
        refine WD.ofR (i := 3) (by kernel_rfl) (RSt.loadObj (t := 3) (k := 3) (v := .int .i64 q44p3_l1) (.tmp 48) (by kernel_rfl) (by kernel_rfl) (by kernel_rfl) 1 hS rfl (by kernel_rfl) rfl ?_)
        refine WD.weaken [4, 6, 23, 24, 25, 46, 49] (L' := [(4, .pointer (some ⟨b42, 0, none⟩)), (6, .int .u64 v46), (23, .slice A40 r31.length c41), (24, .int .i64 (r31.length : Int)), (25, .int .i64 x25_l1), (46, .pointer (some ⟨b42, 0, none⟩)), (49, .int .i64 q44p3_l1)]) (by kernel_rfl) ?_
        refine WD.pure (i := 4) (v := .int .u64 v46) (by kernel_rfl) (by kernel_rfl) (fun _ => by kernel_rfl) ?_
        refine WD.weaken [4, 23, 24, 25, 46, 49, 50] (L' := [(4, .pointer (some ⟨b42, 0, none⟩)), (23, .slice A40 r31.length c41), (24, .int .i64 (r31.length : Int)), (25, .int .i64 x25_l1), (46, .pointer (some ⟨b42, 0, none⟩)), (49, .int .i64 q44p3_l1), (50, .int .u64 v46)]) (by kernel_rfl) ?_
        obtain ⟨r73, e74, H⟩ := bind_ex H
        refine WD.act (i := 5) (by kernel_rfl) (St.call (by kernel_rfl) (f := 38) (args := #[.int .u64 v46]) (by kernel_rfl) (bits_OnesCount64.calls w71 v46 r73 e74) ?_)
        rintro _ w80 ⟨rfl, hS81⟩
        have hS : Sat w80 (rf w0) [osl 55 (r0 (.int .u64)) 1 A40 c41 r31, pts b42 (.cells #[.int .i64 r22, .slice A40 r31.length c41, .slice Aq44p2_l1 q44p2_l1.length cq44p2_l1, .int .i64 q44p3_l1] 76 (0, 0)), osl 3 (r0 (.int .i64)) 1 Aq44p2_l1 cq44p2_l1 q44p2_l1] := hS.ext hS81
        refine ⟨(asked.cons (RSt.run (n := 57) (RSt.loadObj (t := 3) (k := 3) (v := .int .i64 q44p3_l1) (.tmp 48) (by kernel_rfl) (by kernel_rfl) (by kernel_rfl) 1 hS rfl (by kernel_rfl) rfl rfl)) (asked.nil _ _)), ?_⟩
        refine WD.weaken [4, 23, 24, 25, 46, 49, 51] (L' := [(4, .pointer (some ⟨b42, 0, none⟩)), (23, .slice A40 r31.length c41), (24, .int .i64 (r31.length : Int)), (25, .int .i64 x25_l1), (46, .pointer (some ⟨b42, 0, none⟩)), (49, .int .i64 q44p3_l1), (51, .int .i64 r73)]) (by kernel_rfl) ?_
        refine WD.pure (i := 6) (v := .int .i64 (wi (q44p3_l1 + r73))) (by kernel_rfl) (by kernel_rfl) (fun _ => by kernel_rfl) ?_
        refine WD.weaken [4, 23, 24, 25, 46, 52] (L' := [(4, .pointer (some ⟨b42, 0, none⟩)), (23, .slice A40 r31.length c41), (24, .int .i64 (r31.length : Int)), (25, .int .i64 x25_l1), (46, .pointer (some ⟨b42, 0, none⟩)), (52, .int .i64 (wi (q44p3_l1 + r73)))]) (by kernel_rfl) ?_
        refine WD.pure (i := 7) (v := .pointer (some ⟨b42, 0, none⟩)) (by kernel_rfl) (by kernel_rfl) (fun _ => by kernel_rfl) ?_
        refine WD.weaken [4, 23, 24, 25, 52, 53] (L' := [(4, .pointer (some ⟨b42, 0, none⟩)), (23, .slice A40 r31.length c41), (24, .int .i64 (r31.length : Int)), (25, .int .i64 x25_l1), (52, .int .i64 (wi (q44p3_l1 + r73))), (53, .pointer (some ⟨b42, 0, none⟩))]) (by kernel_rfl) ?_
        refine WD.pure (i := 8) (v := .pointer (some ⟨b42, 3, none⟩)) (by kernel_rfl) (by kernel_rfl) (fun _ => by kernel_rfl) ?_
        refine WD.weaken [4, 23, 24, 25, 52, 54] (L' := [(4, .pointer (some ⟨b42, 0, none⟩)), (23, .slice A40 r31.length c41), (24, .int .i64 (r31.length : Int)), (25, .int .i64 x25_l1), (52, .int .i64 (wi (q44p3_l1 + r73))), (54, .pointer (some ⟨b42, 3, none⟩))]) (by kernel_rfl) ?_
        have hS : Sat w80 (rf w0) [pts b42 (.cells #[.int .i64 r22, .slice A40 r31.length c41, .slice Aq44p2_l1 q44p2_l1.length cq44p2_l1, .int .i64 q44p3_l1] 76 (0, 0)), osl 55 (r0 (.int .u64)) 1 A40 c41 r31, osl 3 (r0 (.int .i64)) 1 Aq44p2_l1 cq44p2_l1 q44p2_l1] := hS.sel [1, 0, 2] (by kernel_rfl)
        refine WD.act (i := 9) (by kernel_rfl) (St.storeObj (t := 3) (k := 3) (cur' := #[.int .i64 r22, .slice A40 r31.length c41, .slice Aq44p2_l1 q44p2_l1.length cq44p2_l1, .int .i64 (wi (q44p3_l1 + r73))]) (.tmp 54) (.tmp 52) (by kernel_rfl) (by kernel_rfl) (by kernel_rfl) hS (by kernel_rfl) (by kernel_rfl) (by kernel_rfl) rfl rfl (fun w82 hS => ?_))
        refine ⟨(asked.anc (by kernel_rfl) (asked.nil _ _)), ?_⟩
        refine WD.weaken [4, 23, 24, 25] (L' := [(4, .pointer (some ⟨b42, 0, none⟩)), (23, .slice A40 r31.length c41), (24, .int .i64 (r31.length : Int)), (25, .int .i64 x25_l1)]) (by kernel_rfl) ?_
        refine WD.nil (by kernel_rfl) ?_
        refine At.blockNormal ?_
        refine At.go ?_
        refine WC.reg [0, 1] (by kernel_rfl) (by kernel_rfl) ?_
        refine WR.runk [0, 1] [] [4, 23, 24, 25] (L' := [(4, .pointer (some ⟨b42, 0, none⟩)), (23, .slice A40 r31.length c41), (24, .int .i64 (r31.length : Int)), (25, .int .i64 (wi (x25_l1 + 1)))]) (w' := w82) (by kernel_rfl) ?_
        refine WR.nil ?_
        have hS : Sat w82 (rf w0) [osl 55 (r0 (.int .u64)) 1 A40 c41 r31, pts b42 (.cells #[.int .i64 r22, .slice A40 r31.length c41, .slice Aq44p2_l1 q44p2_l1.length cq44p2_l1, .int .i64 (wi (q44p3_l1 + r73))] 76 (0, 0)), osl 3 (r0 (.int .i64)) 1 Aq44p2_l1 cq44p2_l1 q44p2_l1] := hS.sel [1, 0, 2] (by kernel_rfl)
        refine At.again ?_
        refine WL.weaken [4, 23, 24, 25] (L' := [(4, .pointer (some ⟨b42, 0, none⟩)), (23, .slice A40 r31.length c41), (24, .int .i64 (r31.length : Int)), (25, .int .i64 (wi (x25_l1 + 1)))]) (by kernel_rfl) ?_
        exact ih (wi (x25_l1 + 1)) q44p2_l1 (wi (q44p3_l1 + r73)) Aq44p2_l1 cq44p2_l1 _ hS H
    · replace H := ite_f H hb45
      refine WC.exit (by kernel_rfl) ?_
      refine At.thenExit ?_
      refine At.thenExit ?_
      obtain rfl := Option.some.inj H
      have hS : Sat w (rf w0) [pts b42 (.cells #[.int .i64 r22, .slice A40 r31.length c41, .slice Aq44p2_l1 q44p2_l1.length cq44p2_l1, .int .i64 q44p3_l1] 76 (0, 0)), osl 3 (r0 (.int .i64)) 1 Aq44p2_l1 cq44p2_l1 q44p2_l1, osl 55 (r0 (.int .u64)) 1 A40 c41 r31] := hS.sel [1, 2, 0] (by kernel_rfl)
      refine At.weaken [4] (L' := [(4, .pointer (some ⟨b42, 0, none⟩))]) (by kernel_rfl) ?_
      exact hn0 Aq44p2_l1 cq44p2_l1 _ hS
theorem rank_New.calls (w0 : World) (v0 : Value) (p0 : Option (Int × Int × (List Int))) (R0 : rd (hp w0) (.ptr 72 (.pair (.int .i64) (.pair (.int .i64) (.slice 55 (.int .u64))))) [v0] p0) (r : (Option (Int × (List Int) × (List Int) × Int)) × Int) (H : rank_New.f p0 = some r) :
    Calls Try.prog 22 #[v0] w0 (fun e w' => ∃ v, e = .returned v ∧ rank_New.post w0 r v w') := by
  have hS : Sat w0 (rf w0) [] := Sat.start w0
  unfold rank_New.f at H
  refine calls_of_WC (vs := [v0]) Try.func22 (c := C22) (n := 57) (by kernel_rfl) (by kernel_rfl) (by kernel_rfl) ?_
  refine WC.seq (by kernel_rfl) ?_
  refine WC.reg [0, 1] (by kernel_rfl) (by kernel_rfl) ?_
  refine WR.runk [0, 1] [] [0] (L' := [(0, v0)]) (w' := w0) (by kernel_rfl) ?_
  refine WR.nil ?_
  refine At.go ?_
  refine WC.seq (by kernel_rfl) ?_
  refine WC.block (by kernel_rfl) ?_
  refine WC.seq (by kernel_rfl) ?_
  refine WC.reg [0, 1, 2] (by kernel_rfl) (by kernel_rfl) ?_
  refine WR.runk [0] [1, 2] [0, 8] (L' := [(0, v0), (8, v0)]) (w' := w0) (by kernel_rfl) ?_
  rcases opt_cases p0 with hr1 | ⟨y3, hr1⟩
  · rw [hr1] at H
    dsimp only at H
    have hx2 := rd_ptr_none R0 hr1
    try subst hx2
    refine WR.runk [1, 2] [] [0, 7] (L' := [(0, .pointer none), (7, .bool true)]) (w' := w0) (by kernel_rfl) ?_
    refine WR.nil ?_
    refine At.go ?_
    refine WC.condT (by kernel_rfl) (by kernel_rfl) (by kernel_rfl) ?_
    refine WC.seq (by kernel_rfl) ?_
    refine WC.reg [0, 1] (by kernel_rfl) (by kernel_rfl) ?_
    refine WR.runk [0, 1] [] [2, 3] (L' := [(2, .pointer none), (3, .int .i64 1)]) (w' := w0) (by kernel_rfl) ?_
    refine WR.nil ?_
    refine At.go ?_
    refine WC.ret (by kernel_rfl) ?_
    refine At.blockRet ?_
    refine At.thenRet ?_
    obtain rfl := Option.some.inj H
    have hS := optP.nil (O := O76) hS
    have hS : Sat w0 (rf w0) [optP O76 (.pointer none) none] := hS.sel [0] (by kernel_rfl)
    exact At.body [.pointer none, .int .i64 1] (by kernel_rfl) ⟨_, rfl, _, rfl, hS⟩
  · rw [hr1] at H
    dsimp only at H
    obtain ⟨b4, fr5, A9, c10, hv6, hb7, R11⟩ := P72.open R0 hr1
    have R8 := R0
    rw [hv6, hr1] at R8
    try subst hv6
    replace R11 : rdS (r0 (.int .u64)) 1 (hp w0) A9 c10 y3.2.2 := R11
    refine WR.runk [1, 2] [] [0, 7] (L' := [(0, .pointer (some ⟨b4, 0, none⟩)), (7, .bool false)]) (w' := w0) (by kernel_rfl) ?_
    refine WR.nil ?_
    refine At.go ?_
    refine WC.condF (by kernel_rfl) (by kernel_rfl) (by kernel_rfl) ?_
    refine WC.seq (by kernel_rfl) ?_
    refine WC.reg [0, 1, 2, 3] (by kernel_rfl) (by kernel_rfl) ?_
    refine WR.runk [0] [1, 2, 3] [0, 11] (L' := [(0, .pointer (some ⟨b4, 0, none⟩)), (11, .pointer (some ⟨b4, 0, none⟩))]) (w' := w0) (by kernel_rfl) ?_
    obtain ⟨r12, e13, H⟩ := bind_ex H
    refine WR.st (St.call (by kernel_rfl) (f := 35) (args := #[.pointer (some ⟨b4, 0, none⟩)]) (by kernel_rfl) (pack_Ints_Width.calls w0 (.pointer (some ⟨b4, 0, none⟩)) (some y3) (rd.mono hS.sub0 _ _ _ R8) r12 e13) ?_)
    rintro _ w19 ⟨rfl, hS20⟩
    have hS : Sat w19 (rf w0) [] := hS.ext hS20
    refine WR.runk [2, 3] [] [0, 10] (L' := [(0, .pointer (some ⟨b4, 0, none⟩)), (10, .bool (r12 != 1))]) (w' := w19) (by kernel_rfl) ?_
    refine WR.nil ?_
    refine At.go ?_
    refine WC.cond (by kernel_rfl) (r12 != 1) (by kernel_rfl) (by kernel_rfl) (fun hb21 => ?_) (fun hb21 => ?_)
    · replace H := ite_t H hb21
      refine WC.seq (by kernel_rfl) ?_
      refine WC.reg [0, 1] (by kernel_rfl) (by kernel_rfl) ?_
      refine WR.runk [0, 1] [] [2, 3] (L' := [(2, .pointer none), (3, .int .i64 2)]) (w' := w19) (by kernel_rfl) ?_
      refine WR.nil ?_
      refine At.go ?_
      refine WC.ret (by kernel_rfl) ?_
      refine At.blockRet ?_
      refine At.thenRet ?_
      obtain rfl := Option.some.inj H
      have hS := optP.nil (O := O76) hS
      have hS : Sat w19 (rf w0) [optP O76 (.pointer none) none] := hS.sel [0] (by kernel_rfl)
      exact At.body [.pointer none, .int .i64 2] (by kernel_rfl) ⟨_, rfl, _, rfl, hS⟩
    · replace H := ite_f H hb21
      refine WC.skip (by kernel_rfl) ?_
      refine At.blockNormal ?_
      refine At.go ?_
      refine WC.seq (by kernel_rfl) ?_
      refine WC.reg [0, 1, 2, 3, 4, 5, 6] (by kernel_rfl) (by kernel_rfl) ?_
      refine WR.runk [0] [1, 2, 3, 4, 5, 6] [0, 14] (L' := [(0, .pointer (some ⟨b4, 0, none⟩)), (14, .pointer (some ⟨b4, 0, none⟩))]) (w' := w19) (by kernel_rfl) ?_
      obtain ⟨r22, e23, H⟩ := bind_ex H
      refine WR.st (St.call (by kernel_rfl) (f := 36) (args := #[.pointer (some ⟨b4, 0, none⟩)]) (by kernel_rfl) (pack_Ints_Len.calls w19 (.pointer (some ⟨b4, 0, none⟩)) (some y3) (rd.mono hS.sub0 _ _ _ R8) r22 e23) ?_)
      rintro _ w29 ⟨rfl, hS30⟩
      have hS : Sat w29 (rf w0) [] := hS.ext hS30
      refine WR.runk [2] [3, 4, 5, 6] [15, 16] (L' := [(15, .int .i64 r22), (16, .pointer (some ⟨b4, 0, none⟩))]) (w' := w29) (by kernel_rfl) ?_
      obtain ⟨r31, e32, H⟩ := bind_ex H
      refine WR.st (St.call (by kernel_rfl) (f := 37) (args := #[.pointer (some ⟨b4, 0, none⟩)]) (by kernel_rfl) (pack_Ints_Words.calls w29 (.pointer (some ⟨b4, 0, none⟩)) (some y3) (rd.mono hS.sub0 _ _ _ R8) r31 e32) ?_)
      rintro _ w38 ⟨A40, c41, rfl, hS39⟩
      have hS : Sat w38 (rf w0) [osl 55 (r0 (.int .u64)) 1 A40 c41 r31] := hS.ext hS39
      refine WR.runk [4] [5, 6] [18] (L' := [(18, .agg #[.int .i64 r22, .slice A40 r31.length c41, .slice none 0 0, .int .i64 0])]) (w' := w38) (by kernel_rfl) ?_
      refine WR.st (St.box hS (by kernel_rfl) (.cells #[.int .i64 r22, .slice A40 r31.length c41, .slice none 0 0, .int .i64 0] 76) (fun b42 => .pointer (some ⟨b42, 0, none⟩)) (fun _ => by kernel_rfl) (fun b42 w43 hS => ?_))
      refine WR.runk [6] [] [4] (L' := [(4, .pointer (some ⟨b42, 0, none⟩))]) (w' := w43) (by kernel_rfl) ?_
      refine WR.nil ?_
      refine At.go ?_
      refine WC.seq (by kernel_rfl) ?_
      refine WC.seq (by kernel_rfl) ?_
      refine WC.reg [0, 1, 2, 3, 4, 5] (by kernel_rfl) (by kernel_rfl) ?_
      refine WR.runk [0, 1, 2] [3, 4, 5] [4, 22] (L' := [(4, .pointer (some ⟨b42, 0, none⟩)), (22, .pointer (some ⟨b42, 1, none⟩))]) (w' := w43) (by kernel_rfl) ?_
      refine WR.st (St.ofR (RSt.loadObj (t := 70) (k := 1) (v := .slice A40 r31.length c41) (.tmp 22) (by kernel_rfl) (by kernel_rfl) (by kernel_rfl) 0 hS rfl (by kernel_rfl) rfl ?_))
      refine WR.runk [4, 5] [] [4, 23, 24, 25] (L' := [(4, .pointer (some ⟨b42, 0, none⟩)), (23, .slice A40 r31.length c41), (24, .int .i64 (r31.length : Int)), (25, .int .i64 0)]) (w' := w43) (by kernel_rfl) ?_
      refine WR.nil ?_
      refine At.go ?_
      refine WC.block (by kernel_rfl) ?_
      have hS := hS.addNil (α := Int) 3 (r0 (.int .i64)) 1
      have hS : Sat w43 (rf w0) [osl 55 (r0 (.int .u64)) 1 A40 c41 r31, pts b42 (.cells #[.int .i64 r22, .slice A40 r31.length c41, .slice none 0 0, .int .i64 0] 76 (0, 0)), osl 3 (r0 (.int .i64)) 1 none 0 ([] : List Int)] := hS.sel [2, 1, 0] (by kernel_rfl)
      obtain ⟨o83, e84, H⟩ := bind_ex H
      refine WC.loop (by kernel_rfl) ?_
      refine WL.weaken [4, 23, 24, 25] (L' := [(4, .pointer (some ⟨b42, 0, none⟩)), (23, .slice A40 r31.length c41), (24, .int .i64 (r31.length : Int)), (25, .int .i64 0)]) (by kernel_rfl) ?_
      refine rank_New.l1_ok w0 r22 r31 A40 c41 b42 o83 (fun Aq44p2_q85 cq44p2_q85 w86 hS => ?_) FU 0 ([] : List Int) 0 none 0 _ hS e84
      refine At.hit ?_
      refine At.go ?_
      refine WC.seq (by kernel_rfl) ?_
      refine WC.reg [0, 1, 2] (by kernel_rfl) (by kernel_rfl) ?_
      refine WR.runk [0, 1, 2] [] [2, 3] (L' := [(2, .pointer (some ⟨b42, 0, none⟩)), (3, .int .i64 0)]) (w' := w86) (by kernel_rfl) ?_
      refine WR.nil ?_
      refine At.go ?_
      refine WC.ret (by kernel_rfl) ?_
      obtain rfl := Option.some.inj H
      have hS : Sat w86 (rf w0) [pts b42 (.cells #[.int .i64 r22, .slice A40 r31.length c41, .slice Aq44p2_q85 o83.1.length cq44p2_q85, .int .i64 o83.2] 76 (0, 0)), osl 55 (r0 (.int .u64)) 1 A40 c41 r31, osl 3 (r0 (.int .i64)) 1 Aq44p2_q85 cq44p2_q85 o83.1] := hS.sel [0, 2, 1] (by kernel_rfl)
      have hS : Sat w86 (rf w0) [O76 b42 (r22, r31, o83.1, o83.2)] := O76.close (r22, r31, o83.1, o83.2) A40 c41 Aq44p2_q85 cq44p2_q85 hS
      have hS : Sat w86 (rf w0) [optP O76 (.pointer (some ⟨b42, 0, none⟩)) (some (r22, r31, o83.1, o83.2))] := optP.mk hS
      have hS : Sat w86 (rf w0) [optP O76 (.pointer (some ⟨b42, 0, none⟩)) (some (r22, r31, o83.1, o83.2))] := hS.sel [0] (by kernel_rfl)
      exact At.body [.pointer (some ⟨b42, 0, none⟩), .int .i64 0] (by kernel_rfl) ⟨_, rfl, _, rfl, hS⟩
/-! ### 8 colophon/tally.New -/
def tally_New.l1 (l1 : List Int) (r19 : (List Int)) (y30 : (List Int) × (List (List Int))) : Nat → (List Int) → Int → Int → Option ((List Int) × Int)
  | 0, _, _, _ => none
  | k + 1, x8_l1, x9_l1, x45_l1 => (if decide (x45_l1 < (r19.length : Int)) then ((at? r19 x45_l1).bind fun v36 => (if decide (v36 ≥ 0) then ((rmq_Table_Least.f (some y30) (wi (v36 + 1)) (wi (x45_l1 + 1))).bind fun r39 => ((at? x8_l1 r39).bind fun v48 => ((set? x8_l1 r39 (wi (v48 + 1))).bind fun y50 => tally_New.l1 l1 r19 y30 k y50 (wi (x9_l1 + 1)) (wi (x45_l1 + 1))))) else tally_New.l1 l1 r19 y30 k x8_l1 x9_l1 (wi (x45_l1 + 1)))) else some (x8_l1, x9_l1))
def tally_New.l3 (v75 : Int) : Nat → Int → Int → (Int × Int × (List Int)) → Option (Int × (Int × Int × (List Int)))
  | 0, _, _, _ => none
  | k + 1, x14_l3, x78_l3, q73_l3 => (if decide (x78_l3 < v75) then ((pack_Ints_Set.f q73_l3 x14_l3 1).bind fun r78 => tally_New.l3 v75 k (wi (x14_l3 + 1)) (wi (x78_l3 + 1)) r78.2) else some (x14_l3, q73_l3))
def tally_New.l2 (o54 : (List Int) × Int) : Nat → Int → Int → (Int × Int × (List Int)) → Option (Int × Int × (List Int))
  | 0, _, _, _ => none
  | k + 1, x14_l2, x73_l2, q73_l2 => (if decide (x73_l2 < (o54.1.length : Int)) then ((at? o54.1 x73_l2).bind fun v75 => ((tally_New.l3 v75 FU x14_l2 0 q73_l2).bind fun o87 => tally_New.l2 o54 k (wi (o87.1 + 1)) (wi (x73_l2 + 1)) o87.2)) else some q73_l2)
def tally_New.f (l0 : List Int) (l1 : List Int) : Option ((Option (Int × (Option (Int × (List Int) × (List Int) × Int)))) × Int) := ((rmq_New.f l1).bind fun r1 => (if (r1.2 != 0) then some (none, 2) else (if ((l0.length : Int) != (l1.length : Int)) then some (none, 2) else (if decide ((l0.length : Int) > 2097152) then some (none, 2) else ((make? 17592186044416 0 (l0.length : Int)).bind fun y14 => ((docs_Back.f l0).bind fun r19 => (r1.1.bind fun y30 => ((tally_New.l1 l1 r19 y30 FU y14 (l0.length : Int) 0).bind fun o54 => ((pack_New.f 1 o54.2).bind fun r59 => (r59.1.bind fun y69 => ((tally_New.l2 o54 FU 0 0 y69).bind fun o92 => ((rank_New.f (some o92)).bind fun r100 => some (some ((l0.length : Int), r100.1), 0)))))))))))))
def tally_New.post (w : World) (r : (Option (Int × (Option (Int × (List Int) × (List Int) × Int)))) × Int) (v : Value) (w' : World) : Prop := ∃ (v0 : Value), v = .tuple #[v0, .int .i64 r.2] ∧ Sat w' (rf w) [optP O58 v0 r.1]
theorem tally_New.l1_ok {Q} (w0 : World) (A0 : Option Addr) (c0 : Nat) (l0 : List Int) (l1 : List Int) (r19 : (List Int)) (A28 : Option Addr) (c29 : Nat) (y30 : (List Int) × (List (List Int))) (b33 : Nat) (out : (List Int) × Int) (hn0 : ∀ (A8_q : Option Addr) (c8_q : Nat) (w : World), Sat w (rf w0) [osl 3 (r0 (.int .i64)) 1 A8_q c8_q out.1, O65 b33 y30] → At Q (.exit 0) 102 [(0, .slice A0 l0.length c0), (8, .slice A8_q out.1.length c8_q), (9, .int .i64 out.2)] w) :
    ∀ (k : Nat) (x8_l1 : List Int) (x9_l1 : Int) (x45_l1 : Int) (A8_l1 : Option Addr) (c8_l1 : Nat) (w : World), Sat w (rf w0) [osl 3 (r0 (.int .i64)) 1 A8_l1 c8_l1 x8_l1, osl 3 (r0 (.int .i64)) 1 A28 c29 r19, O65 b33 y30] → tally_New.l1 l1 r19 y30 k x8_l1 x9_l1 x45_l1 = some out → WL Try.prog (cbody (cbody (cr (cl (cr (cr (cr (cr (cr C8))))))))) Q 102 [(0, .slice A0 l0.length c0), (6, .pointer (some ⟨b33, 0, none⟩)), (8, .slice A8_l1 x8_l1.length c8_l1), (9, .int .i64 x9_l1), (43, .slice A28 r19.length c29), (44, .int .i64 (r19.length : Int)), (45, .int .i64 x45_l1)] w := by
  intro k
  induction k with
  | zero => intro x8_l1 x9_l1 x45_l1 A8_l1 c8_l1 w hS H; exact absurd (show none = some out from H) (by simp)
  | succ k ih =>
    intro x8_l1 x9_l1 x45_l1 A8_l1 c8_l1 w hS H
    unfold tally_New.l1 at H
    refine WL.round ?_
    refine WC.seq (by kernel_rfl) ?_
    refine WC.reg [0] (by kernel_rfl) (by kernel_rfl) ?_
    refine WR.runk [0] [] [0, 6, 8, 9, 43, 44, 45, 46] (L' := [(0, .slice A0 l0.length c0), (6, .pointer (some ⟨b33, 0, none⟩)), (8, .slice A8_l1 x8_l1.length c8_l1), (9, .int .i64 x9_l1), (43, .slice A28 r19.length c29), (44, .int .i64 (r19.length : Int)), (45, .int .i64 x45_l1), (46, .bool (decide (x45_l1 < (r19.length : Int))))]) (w' := w) (by kernel_rfl) ?_
    refine WR.nil ?_
    refine At.go ?_
    refine WC.seq (by kernel_rfl) ?_
    refine WC.cond (by kernel_rfl) (decide (x45_l1 < (r19.length : Int))) (by kernel_rfl) (by kernel_rfl) (fun hb35 => ?_) (fun hb35 => ?_)
    · replace H := ite_t H hb35
      refine WC.skip (by kernel_rfl) ?_
      refine At.go ?_
      refine WC.seq (by kernel_rfl) ?_
      refine WC.block (by kernel_rfl) ?_
      refine WC.seq (by kernel_rfl) ?_
      refine WC.reg [0, 1, 2, 3, 4] (by kernel_rfl) (by kernel_rfl) ?_
      refine WR.runk [0] [1, 2, 3, 4] [0, 6, 8, 9, 43, 44, 45, 47] (L' := [(0, .slice A0 l0.length c0), (6, .pointer (some ⟨b33, 0, none⟩)), (8, .slice A8_l1 x8_l1.length c8_l1), (9, .int .i64 x9_l1), (43, .slice A28 r19.length c29), (44, .int .i64 (r19.length : Int)), (45, .int .i64 x45_l1), (47, .int .i64 x45_l1)]) (w' := w) (by kernel_rfl) ?_
      obtain ⟨v36, e37, H⟩ := bind_ex H
      refine WR.st (St.ofP (PSt.idx (k := .i64) (.tmp 43) (.tmp 45) (by kernel_rfl) (by kernel_rfl) E22 (by kernel_rfl) (by kernel_rfl) (Sat.rdAt 1 hS rfl) e37 ?_))
      refine WR.runk [] [2, 3, 4] [0, 6, 8, 9, 43, 44, 45, 47, 48] (L' := [(0, .slice A0 l0.length c0), (6, .pointer (some ⟨b33, 0, none⟩)), (8, .slice A8_l1 x8_l1.length c8_l1), (9, .int .i64 x9_l1), (43, .slice A28 r19.length c29), (44, .int .i64 (r19.length : Int)), (45, .int .i64 x45_l1), (47, .int .i64 x45_l1), (48, .pointer (some (adr A28 x45_l1.toNat 1)))]) (w' := w) (by kernel_rfl) ?_
      refine WR.st (St.ofR (RSt.loadInt (t := 3) (.tmp 48) (by kernel_rfl) (by kernel_rfl) (by kernel_rfl) (by kernel_rfl) (Sat.rdAt 1 hS rfl) e37 ?_))
      refine WR.runk [3, 4] [] [0, 6, 8, 9, 10, 11, 43, 44, 45] (L' := [(0, .slice A0 l0.length c0), (6, .pointer (some ⟨b33, 0, none⟩)), (8, .slice A8_l1 x8_l1.length c8_l1), (9, .int .i64 x9_l1), (10, .int .i64 x45_l1), (11, .int .i64 v36), (43, .slice A28 r19.length c29), (44, .int .i64 (r19.length : Int)), (45, .int .i64 x45_l1)]) (w' := w) (by kernel_rfl) ?_
      refine WR.nil ?_
      refine At.go ?_
      refine WC.seq (by kernel_rfl) ?_
      refine WC.reg [0, 1] (by kernel_rfl) (by kernel_rfl) ?_
      refine WR.runk [0, 1] [] [0, 6, 8, 9, 10, 11, 43, 44, 45, 51] (L' := [(0, .slice A0 l0.length c0), (6, .pointer (some ⟨b33, 0, none⟩)), (8, .slice A8_l1 x8_l1.length c8_l1), (9, .int .i64 x9_l1), (10, .int .i64 x45_l1), (11, .int .i64 v36), (43, .slice A28 r19.length c29), (44, .int .i64 (r19.length : Int)), (45, .int .i64 x45_l1), (51, .bool (decide (v36 ≥ 0)))]) (w' := w) (by kernel_rfl) ?_
      refine WR.nil ?_
      refine At.go ?_
      refine WC.cond (by kernel_rfl) (decide (v36 ≥ 0)) (by kernel_rfl) (by kernel_rfl) (fun hb38 => ?_) (fun hb38 => ?_)
      · replace H := ite_t H hb38
        refine WC.seq (by kernel_rfl) ?_
        refine WC.reg [0, 1, 2, 3, 4, 5, 6, 7, 8, 9, 10, 11] (by kernel_rfl) (by kernel_rfl) ?_
        refine WR.runk [0, 1, 2, 3, 4, 5] [6, 7, 8, 9, 10, 11] [0, 6, 8, 9, 43, 44, 45, 52, 53, 55, 57] (L' := [(0, .slice A0 l0.length c0), (6, .pointer (some ⟨b33, 0, none⟩)), (8, .slice A8_l1 x8_l1.length c8_l1), (9, .int .i64 x9_l1), (43, .slice A28 r19.length c29), (44, .int .i64 (r19.length : Int)), (45, .int .i64 x45_l1), (52, .slice A8_l1 x8_l1.length c8_l1), (53, .pointer (some ⟨b33, 0, none⟩)), (55, .int .i64 (wi (v36 + 1))), (57, .int .i64 (wi (x45_l1 + 1)))]) (w' := w) (by kernel_rfl) ?_
        obtain ⟨r39, e40, H⟩ := bind_ex H
        refine WR.st (St.call (by kernel_rfl) (f := 19) (args := #[.pointer (some ⟨b33, 0, none⟩), .int .i64 (wi (v36 + 1)), .int .i64 (wi (x45_l1 + 1))]) (by kernel_rfl) (rmq_Table_Least.calls w (.pointer (some ⟨b33, 0, none⟩)) (some y30) (Sat.rdAny 2 hS rfl (fun _ h => O65.rd _ _ _ h)) (wi (v36 + 1)) (wi (x45_l1 + 1)) r39 e40) ?_)
        rintro _ w46 ⟨rfl, hS47⟩
        have hS : Sat w46 (rf w0) [osl 3 (r0 (.int .i64)) 1 A8_l1 c8_l1 x8_l1, osl 3 (r0 (.int .i64)) 1 A28 c29 r19, O65 b33 y30] := hS.ext hS47
        refine WR.runk [] [7, 8, 9, 10, 11] [0, 6, 8, 9, 43, 44, 45, 52, 58] (L' := [(0, .slice A0 l0.length c0), (6, .pointer (some ⟨b33, 0, none⟩)), (8, .slice A8_l1 x8_l1.length c8_l1), (9, .int .i64 x9_l1), (43, .slice A28 r19.length c29), (44, .int .i64 (r19.length : Int)), (45, .int .i64 x45_l1), (52, .slice A8_l1 x8_l1.length c8_l1), (58, .int .i64 r39)]) (w' := w46) (by kernel_rfl) ?_
        obtain ⟨v48, e49, H⟩ := bind_ex H
        refine WR.st (St.ofP (PSt.idx (k := .i64) (.tmp 52) (.tmp 58) (by kernel_rfl) (by kernel_rfl) E22 (by kernel_rfl) (by kernel_rfl) (Sat.rdAt 0 hS rfl) e49 ?_))
        refine WR.runk [] [8, 9, 10, 11] [0, 6, 8, 9, 43, 44, 45, 52, 58, 59] (L' := [(0, .slice A0 l0.length c0), (6, .pointer (some ⟨b33, 0, none⟩)), (8, .slice A8_l1 x8_l1.length c8_l1), (9, .int .i64 x9_l1), (43, .slice A28 r19.length c29), (44, .int .i64 (r19.length : Int)), (45, .int .i64 x45_l1), (52, .slice A8_l1 x8_l1.length c8_l1), (58, .int .i64 r39), (59, .pointer (some (adr A8_l1 r39.toNat 1)))]) (w' := w46) (by kernel_rfl) ?_
        refine WR.st (St.ofR (RSt.loadInt (t := 3) (.tmp 59) (by kernel_rfl) (by kernel_rfl) (by kernel_rfl) (by kernel_rfl) (Sat.rdAt 0 hS rfl) e49 ?_))
        refine WR.runk [9] [10, 11] [0, 6, 8, 9, 43, 44, 45, 52, 58, 61] (L' := [(0, .slice A0 l0.length c0), (6, .pointer (some ⟨b33, 0, none⟩)), (8, .slice A8_l1 x8_l1.length c8_l1), (9, .int .i64 x9_l1), (43, .slice A28 r19.length c29), (44, .int .i64 (r19.length : Int)), (45, .int .i64 x45_l1), (52, .slice A8_l1 x8_l1.length c8_l1), (58, .int .i64 r39), (61, .int .i64 (wi (v48 + 1)))]) (w' := w46) (by kernel_rfl) ?_
        refine WR.st (St.ofP (PSt.idx (k := .i64) (.tmp 52) (.tmp 58) (by kernel_rfl) (by kernel_rfl) E22 (by kernel_rfl) (by kernel_rfl) (Sat.rdAt 0 hS rfl) e49 ?_))
        refine WR.runk [] [11] [0, 6, 8, 9, 43, 44, 45, 61, 62] (L' := [(0, .slice A0 l0.length c0), (6, .pointer (some ⟨b33, 0, none⟩)), (8, .slice A8_l1 x8_l1.length c8_l1), (9, .int .i64 x9_l1), (43, .slice A28 r19.length c29), (44, .int .i64 (r19.length : Int)), (45, .int .i64 x45_l1), (61, .int .i64 (wi (v48 + 1))), (62, .pointer (some (adr A8_l1 r39.toNat 1)))]) (w' := w46) (by kernel_rfl) ?_
        obtain ⟨y50, e51, H⟩ := bind_ex H
        refine WR.st (St.storeElem' (t := 3) (.tmp 62) (.tmp 61) (by kernel_rfl) (by kernel_rfl) (by kernel_rfl) hS (by kernel_rfl) (by kernel_rfl) rfl e51 rfl (fun w52 hS => ?_))
        have hl53 := set?_len e51
        refine WR.know 8 (.slice A8_l1 y50.length c8_l1) (.slice A8_l1 x8_l1.length c8_l1) (by kernel_rfl) (by rw [hl53]) ?_
        refine WR.runk [] [] [0, 6, 8, 9, 43, 44, 45] (L' := [(0, .slice A0 l0.length c0), (6, .pointer (some ⟨b33, 0, none⟩)), (8, .slice A8_l1 y50.length c8_l1), (9, .int .i64 x9_l1), (43, .slice A28 r19.length c29), (44, .int .i64 (r19.length : Int)), (45, .int .i64 x45_l1)]) (w' := w52) (by kernel_rfl) ?_
        refine WR.nil ?_
        refine At.go ?_
        refine WC.reg [0, 1, 2] (by kernel_rfl) (by kernel_rfl) ?_
        refine WR.runk [0, 1, 2] [] [0, 6, 8, 9, 43, 44, 45] (L' := [(0, .slice A0 l0.length c0), (6, .pointer (some ⟨b33, 0, none⟩)), (8, .slice A8_l1 y50.length c8_l1), (9, .int .i64 (wi (x9_l1 + 1))), (43, .slice A28 r19.length c29), (44, .int .i64 (r19.length : Int)), (45, .int .i64 x45_l1)]) (w' := w52) (by kernel_rfl) ?_
        refine WR.nil ?_
        refine At.blockNormal ?_
        refine At.go ?_
        refine WC.reg [0, 1] (by kernel_rfl) (by kernel_rfl) ?_
        refine WR.runk [0, 1] [] [0, 6, 8, 9, 43, 44, 45] (L' := [(0, .slice A0 l0.length c0), (6, .pointer (some ⟨b33, 0, none⟩)), (8, .slice A8_l1 y50.length c8_l1), (9, .int .i64 (wi (x9_l1 + 1))), (43, .slice A28 r19.length c29), (44, .int .i64 (r19.length : Int)), (45, .int .i64 (wi (x45_l1 + 1)))]) (w' := w52) (by kernel_rfl) ?_
        refine WR.nil ?_
        have hS : Sat w52 (rf w0) [osl 3 (r0 (.int .i64)) 1 A8_l1 c8_l1 y50, osl 3 (r0 (.int .i64)) 1 A28 c29 r19, O65 b33 y30] := hS.sel [0, 1, 2] (by kernel_rfl)
        refine At.again ?_
        refine WL.weaken [0, 6, 8, 9, 43, 44, 45] (L' := [(0, .slice A0 l0.length c0), (6, .pointer (some ⟨b33, 0, none⟩)), (8, .slice A8_l1 y50.length c8_l1), (9, .int .i64 (wi (x9_l1 + 1))), (43, .slice A28 r19.length c29), (44, .int .i64 (r19.length : Int)), (45, .int .i64 (wi (x45_l1 + 1)))]) (by kernel_rfl) ?_
        exact ih y50 (wi (x9_l1 + 1)) (wi (x45_l1 + 1)) A8_l1 c8_l1 _ hS H
      · replace H := ite_f H hb38
        refine WC.skip (by kernel_rfl) ?_
        refine At.blockNormal ?_
        refine At.go ?_
        refine WC.reg [0, 1] (by kernel_rfl) (by kernel_rfl) ?_
        refine WR.runk [0, 1] [] [0, 6, 8, 9, 43, 44, 45] (L' := [(0, .slice A0 l0.length c0), (6, .pointer (some ⟨b33, 0, none⟩)), (8, .slice A8_l1 x8_l1.length c8_l1), (9, .int .i64 x9_l1), (43, .slice A28 r19.length c29), (44, .int .i64 (r19.length : Int)), (45, .int .i64 (wi (x45_l1 + 1)))]) (w' := w) (by kernel_rfl) ?_
        refine WR.nil ?_
        have hS : Sat w (rf w0) [osl 3 (r0 (.int .i64)) 1 A8_l1 c8_l1 x8_l1, osl 3 (r0 (.int .i64)) 1 A28 c29 r19, O65 b33 y30] := hS.sel [0, 1, 2] (by kernel_rfl)
        refine At.again ?_
        refine WL.weaken [0, 6, 8, 9, 43, 44, 45] (L' := [(0, .slice A0 l0.length c0), (6, .pointer (some ⟨b33, 0, none⟩)), (8, .slice A8_l1 x8_l1.length c8_l1), (9, .int .i64 x9_l1), (43, .slice A28 r19.length c29), (44, .int .i64 (r19.length : Int)), (45, .int .i64 (wi (x45_l1 + 1)))]) (by kernel_rfl) ?_
        exact ih x8_l1 x9_l1 (wi (x45_l1 + 1)) A8_l1 c8_l1 _ hS H
    · replace H := ite_f H hb35
      refine WC.exit (by kernel_rfl) ?_
      refine At.thenExit ?_
      refine At.thenExit ?_
      obtain rfl := Option.some.inj H
      have hS : Sat w (rf w0) [osl 3 (r0 (.int .i64)) 1 A8_l1 c8_l1 x8_l1, O65 b33 y30] := hS.sel [0, 2] (by kernel_rfl)
      refine At.weaken [0, 8, 9] (L' := [(0, .slice A0 l0.length c0), (8, .slice A8_l1 x8_l1.length c8_l1), (9, .int .i64 x9_l1)]) (by kernel_rfl) ?_
      exact hn0 A8_l1 c8_l1 _ hS
theorem tally_New.l3_ok {Q} (w0 : World) (A0 : Option Addr) (c0 : Nat) (l0 : List Int) (o54 : (List Int) × Int) (A8_q56 : Option Addr) (c8_q56 : Nat) (b72 : Nat) (x73_l2 : Int) (v75 : Int) (out : Int × (Int × Int × (List Int))) (hn0 : ∀ (w : World), Sat w (rf w0) [osl 3 (r0 (.int .i64)) 1 A8_q56 c8_q56 o54.1, O72 b72 out.2] → At Q (.exit 4) 102 [(0, .slice A0 l0.length c0), (12, .pointer (some ⟨b72, 0, none⟩)), (14, .int .i64 out.1), (71, .slice A8_q56 o54.1.length c8_q56), (72, .int .i64 (o54.1.length : Int)), (73, .int .i64 x73_l2)] w) :
    ∀ (k : Nat) (x14_l3 : Int) (x78_l3 : Int) (q73_l3 : Int × Int × (List Int)) (w : World), Sat w (rf w0) [osl 3 (r0 (.int .i64)) 1 A8_q56 c8_q56 o54.1, O72 b72 q73_l3] → tally_New.l3 v75 k x14_l3 x78_l3 q73_l3 = some out → WL Try.prog (cbody (cbody (cr (cl (cr (cbody (cl (cr (cr (cbody (cbody (cr (cl (cr (cr (cr (cr (cr (cr (cr (cr C8))))))))))))))))))))) Q 102 [(0, .slice A0 l0.length c0), (12, .pointer (some ⟨b72, 0, none⟩)), (14, .int .i64 x14_l3), (71, .slice A8_q56 o54.1.length c8_q56), (72, .int .i64 (o54.1.length : Int)), (73, .int .i64 x73_l2), (77, .int .i64 v75), (78, .int .i64 x78_l3)] w := by
  intro k
  induction k with
  | zero => intro x14_l3 x78_l3 q73_l3 w hS H; exact absurd (show none = some out from H) (by simp)
  | succ k ih =>
    intro x14_l3 x78_l3 q73_l3 w hS H
    unfold tally_New.l3 at H
    refine WL.round ?_
    refine WC.seq (by kernel_rfl) ?_
    refine WC.reg [0] (by kernel_rfl) (by kernel_rfl) ?_
    refine WR.runk [0] [] [0, 12, 14, 71, 72, 73, 77, 78, 79] (L' := [(0, .slice A0 l0.length c0), (12, .pointer (some ⟨b72, 0, none⟩)), (14, .int .i64 x14_l3), (71, .slice A8_q56 o54.1.length c8_q56), (72, .int .i64 (o54.1.length : Int)), (73, .int .i64 x73_l2), (77, .int .i64 v75), (78, .int .i64 x78_l3), (79, .bool (decide (x78_l3 < v75)))]) (w' := w) (by kernel_rfl) ?_
    refine WR.nil ?_
    refine At.go ?_
    refine WC.seq (by kernel_rfl) ?_
    refine WC.cond (by kernel_rfl) (decide (x78_l3 < v75)) (by kernel_rfl) (by kernel_rfl) (fun hb77 => ?_) (fun hb77 => ?_)
    · replace H := ite_t H hb77
      refine WC.skip (by kernel_rfl) ?_
      refine At.go ?_
      refine WC.seq (by kernel_rfl) ?_
      refine WC.block (by kernel_rfl) ?_
      refine WC.seq (by kernel_rfl) ?_
      refine WC.reg [0, 1, 2] (by kernel_rfl) (by kernel_rfl) ?_
      refine WR.runk [0, 1] [2] [0, 12, 14, 71, 72, 73, 77, 78, 80, 81] (L' := [(0, .slice A0 l0.length c0), (12, .pointer (some ⟨b72, 0, none⟩)), (14, .int .i64 x14_l3), (71, .slice A8_q56 o54.1.length c8_q56), (72, .int .i64 (o54.1.length : Int)), (73, .int .i64 x73_l2), (77, .int .i64 v75), (78, .int .i64 x78_l3), (80, .pointer (some ⟨b72, 0, none⟩)), (81, .int .i64 x14_l3)]) (w' := w) (by kernel_rfl) ?_
      have hS : Sat w (rf w0) [O72 b72 q73_l3, osl 3 (r0 (.int .i64)) 1 A8_q56 c8_q56 o54.1] := hS.sel [1, 0] (by kernel_rfl)
      obtain ⟨r78, e79, H⟩ := bind_ex H
      obtain ⟨B84, hso83, hsub81, hcs82, hb80⟩ := Sat.lend [O72 b72 q73_l3] (cs := [osl 3 (r0 (.int .i64)) 1 A8_q56 c8_q56 o54.1]) hS
      refine WR.st (St.call (by kernel_rfl) (f := 21) (args := #[.pointer (some ⟨b72, 0, none⟩), .int .i64 x14_l3, .int .u64 1]) (by kernel_rfl) (pack_Ints_Set.calls B84 w b72 q73_l3 hso83 x14_l3 1 r78 e79) ?_)
      rintro _ w85 ⟨rfl, hS86⟩
      have hS : Sat w85 (rf w0) [O72 b72 r78.2, osl 3 (r0 (.int .i64)) 1 A8_q56 c8_q56 o54.1] := hb80 _ _ hS86
      refine WR.runk [] [] [0, 12, 14, 71, 72, 73, 77, 78] (L' := [(0, .slice A0 l0.length c0), (12, .pointer (some ⟨b72, 0, none⟩)), (14, .int .i64 x14_l3), (71, .slice A8_q56 o54.1.length c8_q56), (72, .int .i64 (o54.1.length : Int)), (73, .int .i64 x73_l2), (77, .int .i64 v75), (78, .int .i64 x78_l3)]) (w' := w85) (by kernel_rfl) ?_
      refine WR.nil ?_
      refine At.go ?_
      refine WC.reg [0, 1, 2] (by kernel_rfl) (by kernel_rfl) ?_
      refine WR.runk [0, 1, 2] [] [0, 12, 14, 71, 72, 73, 77, 78] (L' := [(0, .slice A0 l0.length c0), (12, .pointer (some ⟨b72, 0, none⟩)), (14, .int .i64 (wi (x14_l3 + 1))), (71, .slice A8_q56 o54.1.length c8_q56), (72, .int .i64 (o54.1.length : Int)), (73, .int .i64 x73_l2), (77, .int .i64 v75), (78, .int .i64 x78_l3)]) (w' := w85) (by kernel_rfl) ?_
      refine WR.nil ?_
      refine At.blockNormal ?_
      refine At.go ?_
      refine WC.reg [0, 1] (by kernel_rfl) (by kernel_rfl) ?_
      refine WR.runk [0, 1] [] [0, 12, 14, 71, 72, 73, 77, 78] (L' := [(0, .slice A0 l0.length c0), (12, .pointer (some ⟨b72, 0, none⟩)), (14, .int .i64 (wi (x14_l3 + 1))), (71, .slice A8_q56 o54.1.length c8_q56), (72, .int .i64 (o54.1.length : Int)), (73, .int .i64 x73_l2), (77, .int .i64 v75), (78, .int .i64 (wi (x78_l3 + 1)))]) (w' := w85) (by kernel_rfl) ?_
      refine WR.nil ?_
      have hS : Sat w85 (rf w0) [osl 3 (r0 (.int .i64)) 1 A8_q56 c8_q56 o54.1, O72 b72 r78.2] := hS.sel [1, 0] (by kernel_rfl)
      refine At.again ?_
      refine WL.weaken [0, 12, 14, 71, 72, 73, 77, 78] (L' := [(0, .slice A0 l0.length c0), (12, .pointer (some ⟨b72, 0, none⟩)), (14, .int .i64 (wi (x14_l3 + 1))), (71, .slice A8_q56 o54.1.length c8_q56), (72, .int .i64 (o54.1.length : Int)), (73, .int .i64 x73_l2), (77, .int .i64 v75), (78, .int .i64 (wi (x78_l3 + 1)))]) (by kernel_rfl) ?_
      exact ih (wi (x14_l3 + 1)) (wi (x78_l3 + 1)) r78.2 _ hS H
    · replace H := ite_f H hb77
      refine WC.exit (by kernel_rfl) ?_
      refine At.thenExit ?_
      refine At.thenExit ?_
      obtain rfl := Option.some.inj H
      have hS : Sat w (rf w0) [osl 3 (r0 (.int .i64)) 1 A8_q56 c8_q56 o54.1, O72 b72 q73_l3] := hS.sel [0, 1] (by kernel_rfl)
      refine At.weaken [0, 12, 14, 71, 72, 73] (L' := [(0, .slice A0 l0.length c0), (12, .pointer (some ⟨b72, 0, none⟩)), (14, .int .i64 x14_l3), (71, .slice A8_q56 o54.1.length c8_q56), (72, .int .i64 (o54.1.length : Int)), (73, .int .i64 x73_l2)]) (by kernel_rfl) ?_
      exact hn0 _ hS
theorem tally_New.l2_ok {Q} (w0 : World) (A0 : Option Addr) (c0 : Nat) (l0 : List Int) (o54 : (List Int) × Int) (A8_q56 : Option Addr) (c8_q56 : Nat) (b72 : Nat) (out : (Int × Int × (List Int))) (hn0 : ∀ (w : World), Sat w (rf w0) [O72 b72 out] → At Q (.exit 2) 102 [(0, .slice A0 l0.length c0), (12, .pointer (some ⟨b72, 0, none⟩))] w) :
    ∀ (k : Nat) (x14_l2 : Int) (x73_l2 : Int) (q73_l2 : Int × Int × (List Int)) (w : World), Sat w (rf w0) [osl 3 (r0 (.int .i64)) 1 A8_q56 c8_q56 o54.1, O72 b72 q73_l2] → tally_New.l2 o54 k x14_l2 x73_l2 q73_l2 = some out → WL Try.prog (cbody (cbody (cr (cl (cr (cr (cr (cr (cr (cr (cr (cr C8)))))))))))) Q 102 [(0, .slice A0 l0.length c0), (12, .pointer (some ⟨b72, 0, none⟩)), (14, .int .i64 x14_l2), (71, .slice A8_q56 o54.1.length c8_q56), (72, .int .i64 (o54.1.length : Int)), (73, .int .i64 x73_l2)] w := by
  intro k
  induction k with
  | zero => intro x14_l2 x73_l2 q73_l2 w hS H; exact absurd (show none = some out from H) (by simp)
  | succ k ih =>
    intro x14_l2 x73_l2 q73_l2 w hS H
    unfold tally_New.l2 at H
    refine WL.round ?_
    refine WC.seq (by kernel_rfl) ?_
    refine WC.reg [0] (by kernel_rfl) (by kernel_rfl) ?_
    refine WR.runk [0] [] [0, 12, 14, 71, 72, 73, 74] (L' := [(0, .slice A0 l0.length c0), (12, .pointer (some ⟨b72, 0, none⟩)), (14, .int .i64 x14_l2), (71, .slice A8_q56 o54.1.length c8_q56), (72, .int .i64 (o54.1.length : Int)), (73, .int .i64 x73_l2), (74, .bool (decide (x73_l2 < (o54.1.length : Int))))]) (w' := w) (by kernel_rfl) ?_
    refine WR.nil ?_
    refine At.go ?_
    refine WC.seq (by kernel_rfl) ?_
    refine WC.cond (by kernel_rfl) (decide (x73_l2 < (o54.1.length : Int))) (by kernel_rfl) (by kernel_rfl) (fun hb74 => ?_) (fun hb74 => ?_)
    · replace H := ite_t H hb74
      refine WC.skip (by kernel_rfl) ?_
      refine At.go ?_
      refine WC.seq (by kernel_rfl) ?_
      refine WC.block (by kernel_rfl) ?_
      refine WC.seq (by kernel_rfl) ?_
      refine WC.reg [0, 1, 2] (by kernel_rfl) (by kernel_rfl) ?_
      refine WR.runk [] [0, 1, 2] [0, 12, 14, 71, 72, 73] (L' := [(0, .slice A0 l0.length c0), (12, .pointer (some ⟨b72, 0, none⟩)), (14, .int .i64 x14_l2), (71, .slice A8_q56 o54.1.length c8_q56), (72, .int .i64 (o54.1.length : Int)), (73, .int .i64 x73_l2)]) (w' := w) (by kernel_rfl) ?_
      obtain ⟨v75, e76, H⟩ := bind_ex H
      refine WR.st (St.ofP (PSt.idx (k := .i64) (.tmp 71) (.tmp 73) (by kernel_rfl) (by kernel_rfl) E22 (by kernel_rfl) (by kernel_rfl) (Sat.rdAt 0 hS rfl) e76 ?_))
      refine WR.runk [] [1, 2] [0, 12, 14, 71, 72, 73, 75] (L' := [(0, .slice A0 l0.length c0), (12, .pointer (some ⟨b72, 0, none⟩)), (14, .int .i64 x14_l2), (71, .slice A8_q56 o54.1.length c8_q56), (72, .int .i64 (o54.1.length : Int)), (73, .int .i64 x73_l2), (75, .pointer (some (adr A8_q56 x73_l2.toNat 1)))]) (w' := w) (by kernel_rfl) ?_
      refine WR.st (St.ofR (RSt.loadInt (t := 3) (.tmp 75) (by kernel_rfl) (by kernel_rfl) (by kernel_rfl) (by kernel_rfl) (Sat.rdAt 0 hS rfl) e76 ?_))
      refine WR.runk [2] [] [0, 12, 14, 16, 71, 72, 73] (L' := [(0, .slice A0 l0.length c0), (12, .pointer (some ⟨b72, 0, none⟩)), (14, .int .i64 x14_l2), (16, .int .i64 v75), (71, .slice A8_q56 o54.1.length c8_q56), (72, .int .i64 (o54.1.length : Int)), (73, .int .i64 x73_l2)]) (w' := w) (by kernel_rfl) ?_
      refine WR.nil ?_
      refine At.go ?_
      refine WC.seq (by kernel_rfl) ?_
      refine WC.seq (by kernel_rfl) ?_
      refine WC.reg [0, 1] (by kernel_rfl) (by kernel_rfl) ?_
      refine WR.runk [0, 1] [] [0, 12, 14, 71, 72, 73, 77, 78] (L' := [(0, .slice A0 l0.length c0), (12, .pointer (some ⟨b72, 0, none⟩)), (14, .int .i64 x14_l2), (71, .slice A8_q56 o54.1.length c8_q56), (72, .int .i64 (o54.1.length : Int)), (73, .int .i64 x73_l2), (77, .int .i64 v75), (78, .int .i64 0)]) (w' := w) (by kernel_rfl) ?_
      refine WR.nil ?_
      refine At.go ?_
      refine WC.block (by kernel_rfl) ?_
      have hS : Sat w (rf w0) [osl 3 (r0 (.int .i64)) 1 A8_q56 c8_q56 o54.1, O72 b72 q73_l2] := hS.sel [0, 1] (by kernel_rfl)
      obtain ⟨o87, e88, H⟩ := bind_ex H
      refine WC.loop (by kernel_rfl) ?_
      refine WL.weaken [0, 12, 14, 71, 72, 73, 77, 78] (L' := [(0, .slice A0 l0.length c0), (12, .pointer (some ⟨b72, 0, none⟩)), (14, .int .i64 x14_l2), (71, .slice A8_q56 o54.1.length c8_q56), (72, .int .i64 (o54.1.length : Int)), (73, .int .i64 x73_l2), (77, .int .i64 v75), (78, .int .i64 0)]) (by kernel_rfl) ?_
      refine tally_New.l3_ok w0 A0 c0 l0 o54 A8_q56 c8_q56 b72 x73_l2 v75 o87 (fun w90 hS => ?_) FU x14_l2 0 q73_l2 _ hS e88
      refine At.hit ?_
      refine At.go ?_
      refine WC.reg [0, 1, 2] (by kernel_rfl) (by kernel_rfl) ?_
      refine WR.runk [0, 1, 2] [] [0, 12, 14, 71, 72, 73] (L' := [(0, .slice A0 l0.length c0), (12, .pointer (some ⟨b72, 0, none⟩)), (14, .int .i64 (wi (o87.1 + 1))), (71, .slice A8_q56 o54.1.length c8_q56), (72, .int .i64 (o54.1.length : Int)), (73, .int .i64 x73_l2)]) (w' := w90) (by kernel_rfl) ?_
      refine WR.nil ?_
      refine At.blockNormal ?_
      refine At.go ?_
      refine WC.reg [0, 1] (by kernel_rfl) (by kernel_rfl) ?_
      refine WR.runk [0, 1] [] [0, 12, 14, 71, 72, 73] (L' := [(0, .slice A0 l0.length c0), (12, .pointer (some ⟨b72, 0, none⟩)), (14, .int .i64 (wi (o87.1 + 1))), (71, .slice A8_q56 o54.1.length c8_q56), (72, .int .i64 (o54.1.length : Int)), (73, .int .i64 (wi (x73_l2 + 1)))]) (w' := w90) (by kernel_rfl) ?_
      refine WR.nil ?_
      have hS : Sat w90 (rf w0) [osl 3 (r0 (.int .i64)) 1 A8_q56 c8_q56 o54.1, O72 b72 o87.2] := hS.sel [0, 1] (by kernel_rfl)
      refine At.again ?_
      refine WL.weaken [0, 12, 14, 71, 72, 73] (L' := [(0, .slice A0 l0.length c0), (12, .pointer (some ⟨b72, 0, none⟩)), (14, .int .i64 (wi (o87.1 + 1))), (71, .slice A8_q56 o54.1.length c8_q56), (72, .int .i64 (o54.1.length : Int)), (73, .int .i64 (wi (x73_l2 + 1)))]) (by kernel_rfl) ?_
      exact ih (wi (o87.1 + 1)) (wi (x73_l2 + 1)) o87.2 _ hS H
    · replace H := ite_f H hb74
      refine WC.exit (by kernel_rfl) ?_
      refine At.thenExit ?_
      refine At.thenExit ?_
      obtain rfl := Option.some.inj H
      have hS : Sat w (rf w0) [O72 b72 q73_l2] := hS.sel [1] (by kernel_rfl)
      refine At.weaken [0, 12] (L' := [(0, .slice A0 l0.length c0), (12, .pointer (some ⟨b72, 0, none⟩))]) (by kernel_rfl) ?_
      exact hn0 _ hS
theorem tally_New.calls (w0 : World) (A0 : Option Addr) (c0 : Nat) (l0 : List Int) (R0 : rdS (r0 (.int .i64)) 1 (hp w0) A0 c0 l0) (A1 : Option Addr) (c1 : Nat) (l1 : List Int) (R1 : rdS (r0 (.int .i64)) 1 (hp w0) A1 c1 l1) (r : (Option (Int × (Option (Int × (List Int) × (List Int) × Int)))) × Int) (H : tally_New.f l0 l1 = some r) :
    Calls Try.prog 8 #[.slice A0 l0.length c0, .slice A1 l1.length c1] w0 (fun e w' => ∃ v, e = .returned v ∧ tally_New.post w0 r v w') := by
  have hS : Sat w0 (rf w0) [] := Sat.start w0
  unfold tally_New.f at H
  refine calls_of_WC (vs := [.slice A0 l0.length c0, .slice A1 l1.length c1]) Try.func8 (c := C8) (n := 102) (by kernel_rfl) (by kernel_rfl) (by kernel_rfl) ?_
  refine WC.seq (by kernel_rfl) ?_
  refine WC.reg [0, 1] (by kernel_rfl) (by kernel_rfl) ?_
  refine WR.runk [0, 1] [] [0, 1] (L' := [(0, .slice A0 l0.length c0), (1, .slice A1 l1.length c1)]) (w' := w0) (by kernel_rfl) ?_
  refine WR.nil ?_
  refine At.go ?_
  refine WC.seq (by kernel_rfl) ?_
  refine WC.reg [0, 1, 2, 3, 4, 5, 6] (by kernel_rfl) (by kernel_rfl) ?_
  refine WR.runk [0] [1, 2, 3, 4, 5, 6] [0, 1, 19] (L' := [(0, .slice A0 l0.length c0), (1, .slice A1 l1.length c1), (19, .slice A1 l1.length c1)]) (w' := w0) (by kernel_rfl) ?_
  obtain ⟨r1, e2, H⟩ := bind_ex H
  refine WR.st (St.call (by kernel_rfl) (f := 17) (args := #[.slice A1 l1.length c1]) (by kernel_rfl) (rmq_New.calls w0 A1 c1 l1 (rdS.up R1 hS.sub0) r1 e2) ?_)
  rintro _ w8 ⟨pv10, rfl, hS9⟩
  have hS : Sat w8 (rf w0) [optP O65 pv10 r1.1] := hS.ext hS9
  refine WR.runk [2, 3, 4, 5, 6] [] [0, 1, 6, 7] (L' := [(0, .slice A0 l0.length c0), (1, .slice A1 l1.length c1), (6, pv10), (7, .int .i64 r1.2)]) (w' := w8) (by kernel_rfl) ?_
  refine WR.nil ?_
  refine At.go ?_
  refine WC.seq (by kernel_rfl) ?_
  refine WC.seq (by kernel_rfl) ?_
  refine WC.reg [0, 1, 2, 3, 4, 5, 6, 7, 8, 9, 10, 11, 12, 13] (by kernel_rfl) (by kernel_rfl) ?_
  refine WR.runk [0, 1, 2] [3, 4, 5, 6, 7, 8, 9, 10, 11, 12, 13] [0, 1, 6, 25] (L' := [(0, .slice A0 l0.length c0), (1, .slice A1 l1.length c1), (6, pv10), (25, .bool (r1.2 != 0))]) (w' := w8) (by kernel_rfl) ?_
  refine WR.split 25 (b := (r1.2 != 0)) (by kernel_rfl) (fun hb11 => ?_) (fun hb11 => ?_)
  · replace H := ite_t H hb11
    refine WR.runk [3, 4, 5, 6, 7, 8, 9, 10, 11, 12, 13] [] [0, 6, 36] (L' := [(0, .slice A0 l0.length c0), (6, pv10), (36, .bool true)]) (w' := w8) (by kernel_rfl) ?_
    refine WR.nil ?_
    refine At.go ?_
    refine WC.condT (by kernel_rfl) (by kernel_rfl) (by kernel_rfl) ?_
    refine WC.seq (by kernel_rfl) ?_
    refine WC.reg [0, 1] (by kernel_rfl) (by kernel_rfl) ?_
    refine WR.runk [0, 1] [] [4, 5] (L' := [(4, .pointer none), (5, .int .i64 2)]) (w' := w8) (by kernel_rfl) ?_
    refine WR.nil ?_
    refine At.go ?_
    refine WC.ret (by kernel_rfl) ?_
    refine At.thenRet ?_
    obtain rfl := Option.some.inj H
    have hS := optP.nil (O := O58) hS
    have hS : Sat w8 (rf w0) [optP O58 (.pointer none) none] := hS.sel [0] (by kernel_rfl)
    exact At.body [.pointer none, .int .i64 2] (by kernel_rfl) ⟨_, rfl, _, rfl, hS⟩
  · replace H := ite_f H hb11
    refine WR.runk [3, 4, 5, 6, 7, 8, 9] [10, 11, 12, 13] [0, 6, 32] (L' := [(0, .slice A0 l0.length c0), (6, pv10), (32, .bool ((l0.length : Int) != (l1.length : Int)))]) (w' := w8) (by kernel_rfl) ?_
    refine WR.split 32 (b := ((l0.length : Int) != (l1.length : Int))) (by kernel_rfl) (fun hb12 => ?_) (fun hb12 => ?_)
    · replace H := ite_t H hb12
      refine WR.runk [10, 11, 12, 13] [] [0, 6, 36] (L' := [(0, .slice A0 l0.length c0), (6, pv10), (36, .bool true)]) (w' := w8) (by kernel_rfl) ?_
      refine WR.nil ?_
      refine At.go ?_
      refine WC.condT (by kernel_rfl) (by kernel_rfl) (by kernel_rfl) ?_
      refine WC.seq (by kernel_rfl) ?_
      refine WC.reg [0, 1] (by kernel_rfl) (by kernel_rfl) ?_
      refine WR.runk [0, 1] [] [4, 5] (L' := [(4, .pointer none), (5, .int .i64 2)]) (w' := w8) (by kernel_rfl) ?_
      refine WR.nil ?_
      refine At.go ?_
      refine WC.ret (by kernel_rfl) ?_
      refine At.thenRet ?_
      obtain rfl := Option.some.inj H
      have hS := optP.nil (O := O58) hS
      have hS : Sat w8 (rf w0) [optP O58 (.pointer none) none] := hS.sel [0] (by kernel_rfl)
      exact At.body [.pointer none, .int .i64 2] (by kernel_rfl) ⟨_, rfl, _, rfl, hS⟩
    · replace H := ite_f H hb12
      refine WR.runk [10, 11, 12, 13] [] [0, 6, 36] (L' := [(0, .slice A0 l0.length c0), (6, pv10), (36, .bool (decide ((l0.length : Int) > 2097152)))]) (w' := w8) (by kernel_rfl) ?_
      refine WR.nil ?_
      refine At.go ?_
      refine WC.cond (by kernel_rfl) (decide ((l0.length : Int) > 2097152)) (by kernel_rfl) (by kernel_rfl) (fun hb13 => ?_) (fun hb13 => ?_)
      · replace H := ite_t H hb13
        refine WC.seq (by kernel_rfl) ?_
        refine WC.reg [0, 1] (by kernel_rfl) (by kernel_rfl) ?_
        refine WR.runk [0, 1] [] [4, 5] (L' := [(4, .pointer none), (5, .int .i64 2)]) (w' := w8) (by kernel_rfl) ?_
        refine WR.nil ?_
        refine At.go ?_
        refine WC.ret (by kernel_rfl) ?_
        refine At.thenRet ?_
        obtain rfl := Option.some.inj H
        have hS := optP.nil (O := O58) hS
        have hS : Sat w8 (rf w0) [optP O58 (.pointer none) none] := hS.sel [0] (by kernel_rfl)
        exact At.body [.pointer none, .int .i64 2] (by kernel_rfl) ⟨_, rfl, _, rfl, hS⟩
      · replace H := ite_f H hb13
        refine WC.skip (by kernel_rfl) ?_
        refine At.go ?_
        refine WC.seq (by kernel_rfl) ?_
        refine WC.reg [0, 1, 2, 3] (by kernel_rfl) (by kernel_rfl) ?_
        refine WR.runk [0, 1] [2, 3] [0, 6, 38] (L' := [(0, .slice A0 l0.length c0), (6, pv10), (38, .int .i64 (l0.length : Int))]) (w' := w8) (by kernel_rfl) ?_
        obtain ⟨y14, e15, H⟩ := bind_ex H
        refine WR.st (St.make' (t := 22) (e := 3) (sz := 1) (bytes := 8) (k1 := .i64) (k2 := .i64) (R := (r0 (.int .i64))) (.tmp 38) (.tmp 38) (by kernel_rfl) (by kernel_rfl) (.int .i64 0) (by kernel_rfl) (by kernel_rfl) rfl (by kernel_rfl) hS (by kernel_rfl) (by kernel_rfl) 17592186044416 (by kernel_rfl) (by kernel_rfl) e15 (fun A16 c17 w18 hS => ?_))
        refine WR.runk [3] [] [0, 6, 8] (L' := [(0, .slice A0 l0.length c0), (6, pv10), (8, .slice A16 y14.length c17)]) (w' := w18) (by kernel_rfl) ?_
        refine WR.nil ?_
        refine At.go ?_
        refine WC.seq (by kernel_rfl) ?_
        refine WC.reg [0, 1, 2] (by kernel_rfl) (by kernel_rfl) ?_
        refine WR.runk [0, 1, 2] [] [0, 6, 8, 9] (L' := [(0, .slice A0 l0.length c0), (6, pv10), (8, .slice A16 y14.length c17), (9, .int .i64 (l0.length : Int))]) (w' := w18) (by kernel_rfl) ?_
        refine WR.nil ?_
        refine At.go ?_
        refine WC.seq (by kernel_rfl) ?_
        refine WC.seq (by kernel_rfl) ?_
        refine WC.reg [0, 1, 2, 3] (by kernel_rfl) (by kernel_rfl) ?_
        refine WR.runk [0] [1, 2, 3] [0, 6, 8, 9, 42] (L' := [(0, .slice A0 l0.length c0), (6, pv10), (8, .slice A16 y14.length c17), (9, .int .i64 (l0.length : Int)), (42, .slice A0 l0.length c0)]) (w' := w18) (by kernel_rfl) ?_
        obtain ⟨r19, e20, H⟩ := bind_ex H
        refine WR.st (St.call (by kernel_rfl) (f := 18) (args := #[.slice A0 l0.length c0]) (by kernel_rfl) (docs_Back.calls w18 A0 c0 l0 (rdS.up R0 hS.sub0) r19 e20) ?_)
        rintro _ w26 ⟨A28, c29, rfl, hS27⟩
        have hS : Sat w26 (rf w0) [osl 3 (r0 (.int .i64)) 1 A28 c29 r19, osl 3 (r0 (.int .i64)) 1 A16 c17 y14, optP O65 pv10 r1.1] := hS.ext hS27
        refine WR.runk [2, 3] [] [0, 6, 8, 9, 43, 44, 45] (L' := [(0, .slice A0 l0.length c0), (6, pv10), (8, .slice A16 y14.length c17), (9, .int .i64 (l0.length : Int)), (43, .slice A28 r19.length c29), (44, .int .i64 (r19.length : Int)), (45, .int .i64 0)]) (w' := w26) (by kernel_rfl) ?_
        refine WR.nil ?_
        refine At.go ?_
        refine WC.block (by kernel_rfl) ?_
        have hS : Sat w26 (rf w0) [optP O65 pv10 r1.1, osl 3 (r0 (.int .i64)) 1 A28 c29 r19, osl 3 (r0 (.int .i64)) 1 A16 c17 y14] := hS.sel [2, 0, 1] (by kernel_rfl)
        obtain ⟨y30, hr31, H⟩ := bind_ex H
        obtain ⟨b33, hv32, hN112⟩ := optP.some hS hr31
        subst hv32
        have hS : Sat w26 (rf w0) [O65 b33 y30, osl 3 (r0 (.int .i64)) 1 A28 c29 r19, osl 3 (r0 (.int .i64)) 1 A16 c17 y14] := hN112
        have hS : Sat w26 (rf w0) [osl 3 (r0 (.int .i64)) 1 A16 c17 y14, osl 3 (r0 (.int .i64)) 1 A28 c29 r19, O65 b33 y30] := hS.sel [2, 1, 0] (by kernel_rfl)
        obtain ⟨o54, e55, H⟩ := bind_ex H
        refine WC.loop (by kernel_rfl) ?_
        refine WL.weaken [0, 6, 8, 9, 43, 44, 45] (L' := [(0, .slice A0 l0.length c0), (6, .pointer (some ⟨b33, 0, none⟩)), (8, .slice A16 y14.length c17), (9, .int .i64 (l0.length : Int)), (43, .slice A28 r19.length c29), (44, .int .i64 (r19.length : Int)), (45, .int .i64 0)]) (by kernel_rfl) ?_
        refine tally_New.l1_ok w0 A0 c0 l0 l1 r19 A28 c29 y30 b33 o54 (fun A8_q56 c8_q56 w57 hS => ?_) FU y14 (l0.length : Int) 0 A16 c17 _ hS e55
        refine At.hit ?_
        refine At.go ?_
        refine WC.seq (by kernel_rfl) ?_
        refine WC.reg [0, 1, 2, 3, 4, 5, 6] (by kernel_rfl) (by kernel_rfl) ?_
        refine WR.runk [0] [1, 2, 3, 4, 5, 6] [0, 8, 67] (L' := [(0, .slice A0 l0.length c0), (8, .slice A8_q56 o54.1.length c8_q56), (67, .int .i64 o54.2)]) (w' := w57) (by kernel_rfl) ?_
        obtain ⟨r59, e60, H⟩ := bind_ex H
        refine WR.st (St.call (by kernel_rfl) (f := 20) (args := #[.int .i64 1, .int .i64 o54.2]) (by kernel_rfl) (pack_New.calls w57 1 o54.2 r59 e60) ?_)
        rintro _ w66 ⟨pv68, rfl, hS67⟩
        have hS : Sat w66 (rf w0) [optP O72 pv68 r59.1, osl 3 (r0 (.int .i64)) 1 A8_q56 c8_q56 o54.1, O65 b33 y30] := hS.ext hS67
        refine WR.runk [2, 3, 4, 5, 6] [] [0, 8, 12] (L' := [(0, .slice A0 l0.length c0), (8, .slice A8_q56 o54.1.length c8_q56), (12, pv68)]) (w' := w66) (by kernel_rfl) ?_
        refine WR.nil ?_
        refine At.go ?_
        refine WC.seq (by kernel_rfl) ?_
        refine WC.reg [0] (by kernel_rfl) (by kernel_rfl) ?_
        refine WR.runk [0] [] [0, 8, 12, 14] (L' := [(0, .slice A0 l0.length c0), (8, .slice A8_q56 o54.1.length c8_q56), (12, pv68), (14, .int .i64 0)]) (w' := w66) (by kernel_rfl) ?_
        refine WR.nil ?_
        refine At.go ?_
        refine WC.seq (by kernel_rfl) ?_
        refine WC.seq (by kernel_rfl) ?_
        refine WC.reg [0, 1, 2] (by kernel_rfl) (by kernel_rfl) ?_
        refine WR.runk [0, 1, 2] [] [0, 12, 14, 71, 72, 73] (L' := [(0, .slice A0 l0.length c0), (12, pv68), (14, .int .i64 0), (71, .slice A8_q56 o54.1.length c8_q56), (72, .int .i64 (o54.1.length : Int)), (73, .int .i64 0)]) (w' := w66) (by kernel_rfl) ?_
        refine WR.nil ?_
        refine At.go ?_
        refine WC.block (by kernel_rfl) ?_
        obtain ⟨y69, hr70, H⟩ := bind_ex H
        obtain ⟨b72, hv71, hN111⟩ := optP.some hS hr70
        subst hv71
        have hS : Sat w66 (rf w0) [O72 b72 y69, osl 3 (r0 (.int .i64)) 1 A8_q56 c8_q56 o54.1, O65 b33 y30] := hN111
        have hS : Sat w66 (rf w0) [osl 3 (r0 (.int .i64)) 1 A8_q56 c8_q56 o54.1, O72 b72 y69] := hS.sel [1, 0] (by kernel_rfl)
        obtain ⟨o92, e93, H⟩ := bind_ex H
        refine WC.loop (by kernel_rfl) ?_
        refine WL.weaken [0, 12, 14, 71, 72, 73] (L' := [(0, .slice A0 l0.length c0), (12, .pointer (some ⟨b72, 0, none⟩)), (14, .int .i64 0), (71, .slice A8_q56 o54.1.length c8_q56), (72, .int .i64 (o54.1.length : Int)), (73, .int .i64 0)]) (by kernel_rfl) ?_
        refine tally_New.l2_ok w0 A0 c0 l0 o54 A8_q56 c8_q56 b72 o92 (fun w95 hS => ?_) FU 0 0 y69 _ hS e93
        refine At.hit ?_
        refine At.go ?_
        refine WC.seq (by kernel_rfl) ?_
        refine WC.reg [0, 1, 2, 3, 4] (by kernel_rfl) (by kernel_rfl) ?_
        refine WR.runk [0, 1, 2] [3, 4] [12, 91] (L' := [(12, .pointer (some ⟨b72, 0, none⟩)), (91, .agg #[.int .i64 (l0.length : Int), .pointer none])]) (w' := w95) (by kernel_rfl) ?_
        refine WR.st (St.box hS (by kernel_rfl) (.cells #[.int .i64 (l0.length : Int), .pointer none] 58) (fun b97 => .pointer (some ⟨b97, 0, none⟩)) (fun _ => by kernel_rfl) (fun b97 w98 hS => ?_))
        refine WR.runk [4] [] [12, 17] (L' := [(12, .pointer (some ⟨b72, 0, none⟩)), (17, .pointer (some ⟨b97, 0, none⟩))]) (w' := w98) (by kernel_rfl) ?_
        refine WR.nil ?_
        refine At.go ?_
        refine WC.seq (by kernel_rfl) ?_
        refine WC.reg [0, 1, 2, 3, 4, 5, 6, 7, 8] (by kernel_rfl) (by kernel_rfl) ?_
        refine WR.runk [0, 1] [2, 3, 4, 5, 6, 7, 8] [17, 94, 95] (L' := [(17, .pointer (some ⟨b97, 0, none⟩)), (94, .pointer (some ⟨b97, 0, none⟩)), (95, .pointer (some ⟨b72, 0, none⟩))]) (w' := w98) (by kernel_rfl) ?_
        obtain ⟨r100, e101, H⟩ := bind_ex H
        refine WR.st (St.call (by kernel_rfl) (f := 22) (args := #[.pointer (some ⟨b72, 0, none⟩)]) (by kernel_rfl) (rank_New.calls w98 (.pointer (some ⟨b72, 0, none⟩)) (some o92) (Sat.rdAny 1 hS rfl (fun _ h => O72.rd _ _ _ h)) r100 e101) ?_)
        rintro _ w107 ⟨pv109, rfl, hS108⟩
        have hS : Sat w107 (rf w0) [optP O76 pv109 r100.1, pts b97 (.cells #[.int .i64 (l0.length : Int), .pointer none] 58 (0, 0)), O72 b72 o92] := hS.ext hS108
        refine WR.runk [3, 4, 5, 6, 7] [8] [17, 97, 100] (L' := [(17, .pointer (some ⟨b97, 0, none⟩)), (97, pv109), (100, .pointer (some ⟨b97, 1, none⟩))]) (w' := w107) (by kernel_rfl) ?_
        have hS : Sat w107 (rf w0) [pts b97 (.cells #[.int .i64 (l0.length : Int), .pointer none] 58 (0, 0)), optP O76 pv109 r100.1, O72 b72 o92] := hS.sel [1, 0, 2] (by kernel_rfl)
        refine WR.st (St.storeObj (t := 56) (k := 1) (cur' := #[.int .i64 (l0.length : Int), pv109]) (.tmp 100) (.tmp 97) (by kernel_rfl) (by kernel_rfl) (by kernel_rfl) hS (by kernel_rfl) (by kernel_rfl) (Sat.optOne 1 hS rfl) rfl rfl (fun w110 hS => ?_))
        refine WR.runk [] [] [17] (L' := [(17, .pointer (some ⟨b97, 0, none⟩))]) (w' := w110) (by kernel_rfl) ?_
        refine WR.nil ?_
        refine At.go ?_
        refine WC.seq (by kernel_rfl) ?_
        refine WC.reg [0, 1, 2] (by kernel_rfl) (by kernel_rfl) ?_
        refine WR.runk [0, 1, 2] [] [4, 5] (L' := [(4, .pointer (some ⟨b97, 0, none⟩)), (5, .int .i64 0)]) (w' := w110) (by kernel_rfl) ?_
        refine WR.nil ?_
        refine At.go ?_
        refine WC.ret (by kernel_rfl) ?_
        obtain rfl := Option.some.inj H
        have hS : Sat w110 (rf w0) [pts b97 (.cells #[.int .i64 (l0.length : Int), pv109] 58 (0, 0)), optP O76 pv109 r100.1, O72 b72 o92] := hS.sel [0, 1, 2] (by kernel_rfl)
        have hS : Sat w110 (rf w0) [O58 b97 ((l0.length : Int), r100.1), O72 b72 o92] := O58.close ((l0.length : Int), r100.1) pv109 hS
        have hS : Sat w110 (rf w0) [optP O58 (.pointer (some ⟨b97, 0, none⟩)) (some ((l0.length : Int), r100.1)), O72 b72 o92] := optP.mk hS
        have hS : Sat w110 (rf w0) [optP O58 (.pointer (some ⟨b97, 0, none⟩)) (some ((l0.length : Int), r100.1))] := hS.sel [0] (by kernel_rfl)
        exact At.body [.pointer (some ⟨b97, 0, none⟩), .int .i64 0] (by kernel_rfl) ⟨_, rfl, _, rfl, hS⟩
/-! ### 46 (*colophon/rank.Vec).Len -/
def rank_Vec_Len.f (p0 : Option (Int × (List Int) × (List Int) × Int)) : Option Int := (match p0 with | none => some 0 | some y3 => some y3.1)
def rank_Vec_Len.post (w : World) (r : Int) (v : Value) (w' : World) : Prop := v = (.int .i64 r : Value) ∧ Sat w' (rf w) []
theorem rank_Vec_Len.calls (w0 : World) (v0 : Value) (p0 : Option (Int × (List Int) × (List Int) × Int)) (R0 : rd (hp w0) (.ptr 76 (.pair (.int .i64) (.pair (.slice 55 (.int .u64)) (.pair (.slice 3 (.int .i64)) (.int .i64))))) [v0] p0) (r : Int) (H : rank_Vec_Len.f p0 = some r) :
    Calls Try.prog 46 #[v0] w0 (fun e w' => ∃ v, e = .returned v ∧ rank_Vec_Len.post w0 r v w') := by
  have hS : Sat w0 (rf w0) [] := Sat.start w0
  unfold rank_Vec_Len.f at H
  refine calls_of_WC (vs := [v0]) Try.func46 (c := C46) (n := 9) (by kernel_rfl) (by kernel_rfl) (by kernel_rfl) ?_
  refine WC.seq (by kernel_rfl) ?_
  refine WC.reg [0] (by kernel_rfl) (by kernel_rfl) ?_
  refine WR.runk [0] [] [0] (L' := [(0, v0)]) (w' := w0) (by kernel_rfl) ?_
  refine WR.nil ?_
  refine At.go ?_
  refine WC.seq (by kernel_rfl) ?_
  refine WC.seq (by kernel_rfl) ?_
  refine WC.reg [0, 1] (by kernel_rfl) (by kernel_rfl) ?_
  refine WR.runk [0] [1] [0, 3] (L' := [(0, v0), (3, v0)]) (w' := w0) (by kernel_rfl) ?_
  rcases opt_cases p0 with hr1 | ⟨y3, hr1⟩
  · rw [hr1] at H
    dsimp only at H
    have hx2 := rd_ptr_none R0 hr1
    try subst hx2
    refine WR.runk [1] [] [0, 4] (L' := [(0, .pointer none), (4, .bool true)]) (w' := w0) (by kernel_rfl) ?_
    refine WR.nil ?_
    refine At.go ?_
    refine WC.condT (by kernel_rfl) (by kernel_rfl) (by kernel_rfl) ?_
    refine WC.seq (by kernel_rfl) ?_
    refine WC.reg [0] (by kernel_rfl) (by kernel_rfl) ?_
    refine WR.runk [0] [] [2] (L' := [(2, .int .i64 0)]) (w' := w0) (by kernel_rfl) ?_
    refine WR.nil ?_
    refine At.go ?_
    refine WC.ret (by kernel_rfl) ?_
    refine At.thenRet ?_
    obtain rfl := Option.some.inj H
    have hS : Sat w0 (rf w0) [] := hS.sel [] (by kernel_rfl)
    exact At.body [.int .i64 0] (by kernel_rfl) ⟨_, rfl, rfl, hS⟩
  · rw [hr1] at H
    dsimp only at H
    obtain ⟨b4, fr5, A9, c10, A12, c13, hv6, hb7, R11, R14⟩ := P76.open R0 hr1
    have R8 := R0
    rw [hv6, hr1] at R8
    try subst hv6
    replace R11 : rdS (r0 (.int .u64)) 1 (hp w0) A9 c10 y3.2.1 := R11
    replace R14 : rdS (r0 (.int .i64)) 1 (hp w0) A12 c13 y3.2.2.1 := R14
    refine WR.runk [1] [] [0, 4] (L' := [(0, .pointer (some ⟨b4, 0, none⟩)), (4, .bool false)]) (w' := w0) (by kernel_rfl) ?_
    refine WR.nil ?_
    refine At.go ?_
    refine WC.condF (by kernel_rfl) (by kernel_rfl) (by kernel_rfl) ?_
    refine WC.skip (by kernel_rfl) ?_
    refine At.go ?_
    refine WC.seq (by kernel_rfl) ?_
    refine WC.reg [0, 1, 2, 3, 4] (by kernel_rfl) (by kernel_rfl) ?_
    refine WR.runk [0, 1, 2] [3, 4] [7] (L' := [(7, .pointer (some ⟨b4, 0, none⟩))]) (w' := w0) (by kernel_rfl) ?_
    refine WR.st (St.ofR (RSt.loadRo (t := 3) (k := 0) (v := .int .i64 y3.1) (.tmp 7) (by kernel_rfl) (by kernel_rfl) (by kernel_rfl) hS.sub0 hb7 (by kernel_rfl) rfl ?_))
    refine WR.runk [4] [] [2] (L' := [(2, .int .i64 y3.1)]) (w' := w0) (by kernel_rfl) ?_
    refine WR.nil ?_
    refine At.go ?_
    refine WC.ret (by kernel_rfl) ?_
    obtain rfl := Option.some.inj H
    have hS : Sat w0 (rf w0) [] := hS.sel [] (by kernel_rfl)
    exact At.body [.int .i64 y3.1] (by kernel_rfl) ⟨_, rfl, rfl, hS⟩
/-! ### 47 (*colophon/rank.Vec).Ones -/
def rank_Vec_Ones.f (p0 : Option (Int × (List Int) × (List Int) × Int)) : Option Int := (match p0 with | none => some 0 | some y3 => some y3.2.2.2)
def rank_Vec_Ones.post (w : World) (r : Int) (v : Value) (w' : World) : Prop := v = (.int .i64 r : Value) ∧ Sat w' (rf w) []
theorem rank_Vec_Ones.calls (w0 : World) (v0 : Value) (p0 : Option (Int × (List Int) × (List Int) × Int)) (R0 : rd (hp w0) (.ptr 76 (.pair (.int .i64) (.pair (.slice 55 (.int .u64)) (.pair (.slice 3 (.int .i64)) (.int .i64))))) [v0] p0) (r : Int) (H : rank_Vec_Ones.f p0 = some r) :
    Calls Try.prog 47 #[v0] w0 (fun e w' => ∃ v, e = .returned v ∧ rank_Vec_Ones.post w0 r v w') := by
  have hS : Sat w0 (rf w0) [] := Sat.start w0
  unfold rank_Vec_Ones.f at H
  refine calls_of_WC (vs := [v0]) Try.func47 (c := C47) (n := 9) (by kernel_rfl) (by kernel_rfl) (by kernel_rfl) ?_
  refine WC.seq (by kernel_rfl) ?_
  refine WC.reg [0] (by kernel_rfl) (by kernel_rfl) ?_
  refine WR.runk [0] [] [0] (L' := [(0, v0)]) (w' := w0) (by kernel_rfl) ?_
  refine WR.nil ?_
  refine At.go ?_
  refine WC.seq (by kernel_rfl) ?_
  refine WC.seq (by kernel_rfl) ?_
  refine WC.reg [0, 1] (by kernel_rfl) (by kernel_rfl) ?_
  refine WR.runk [0] [1] [0, 3] (L' := [(0, v0), (3, v0)]) (w' := w0) (by kernel_rfl) ?_
  rcases opt_cases p0 with hr1 | ⟨y3, hr1⟩
  · rw [hr1] at H
    dsimp only at H
    have hx2 := rd_ptr_none R0 hr1
    try subst hx2
    refine WR.runk [1] [] [0, 4] (L' := [(0, .pointer none), (4, .bool true)]) (w' := w0) (by kernel_rfl) ?_
    refine WR.nil ?_
    refine At.go ?_
    refine WC.condT (by kernel_rfl) (by kernel_rfl) (by kernel_rfl) ?_
    refine WC.seq (by kernel_rfl) ?_
    refine WC.reg [0] (by kernel_rfl) (by kernel_rfl) ?_
    refine WR.runk [0] [] [2] (L' := [(2, .int .i64 0)]) (w' := w0) (by kernel_rfl) ?_
    refine WR.nil ?_
    refine At.go ?_
    refine WC.ret (by kernel_rfl) ?_
    refine At.thenRet ?_
    obtain rfl := Option.some.inj H
    have hS : Sat w0 (rf w0) [] := hS.sel [] (by kernel_rfl)
    exact At.body [.int .i64 0] (by kernel_rfl) ⟨_, rfl, rfl, hS⟩
  · rw [hr1] at H
    dsimp only at H
    obtain ⟨b4, fr5, A9, c10, A12, c13, hv6, hb7, R11, R14⟩ := P76.open R0 hr1
    have R8 := R0
    rw [hv6, hr1] at R8
    try subst hv6
    replace R11 : rdS (r0 (.int .u64)) 1 (hp w0) A9 c10 y3.2.1 := R11
    replace R14 : rdS (r0 (.int .i64)) 1 (hp w0) A12 c13 y3.2.2.1 := R14
    refine WR.runk [1] [] [0, 4] (L' := [(0, .pointer (some ⟨b4, 0, none⟩)), (4, .bool false)]) (w' := w0) (by kernel_rfl) ?_
    refine WR.nil ?_
    refine At.go ?_
    refine WC.condF (by kernel_rfl) (by kernel_rfl) (by kernel_rfl) ?_
    refine WC.skip (by kernel_rfl) ?_
    refine At.go ?_
    refine WC.seq (by kernel_rfl) ?_
    refine WC.reg [0, 1, 2, 3, 4] (by kernel_rfl) (by kernel_rfl) ?_
    refine WR.runk [0, 1, 2] [3, 4] [7] (L' := [(7, .pointer (some ⟨b4, 3, none⟩))]) (w' := w0) (by kernel_rfl) ?_
    refine WR.st (St.ofR (RSt.loadRo (t := 3) (k := 3) (v := .int .i64 y3.2.2.2) (.tmp 7) (by kernel_rfl) (by kernel_rfl) (by kernel_rfl) hS.sub0 hb7 (by kernel_rfl) rfl ?_))
    refine WR.runk [4] [] [2] (L' := [(2, .int .i64 y3.2.2.2)]) (w' := w0) (by kernel_rfl) ?_
    refine WR.nil ?_
    refine At.go ?_
    refine WC.ret (by kernel_rfl) ?_
    obtain rfl := Option.some.inj H
    have hS : Sat w0 (rf w0) [] := hS.sel [] (by kernel_rfl)
    exact At.body [.int .i64 y3.2.2.2] (by kernel_rfl) ⟨_, rfl, rfl, hS⟩
/-! ### 51 (*colophon/rank.Vec).Rank -/
def rank_Vec_Rank.l1 (a1 : Int) (y3 : Int × (List Int) × (List Int) × Int) : Nat → Int → Int → Option Int
  | 0, _, _ => none
  | k + 1, x6_l1, x7_l1 => (if decide (x7_l1 < wi (Int.tdiv a1 64)) then ((at? y3.2.1 x7_l1).bind fun v20 => ((bits_OnesCount64.f v20).bind fun r22 => rank_Vec_Rank.l1 a1 y3 k (wi (x6_l1 + r22)) (wi (x7_l1 + 1)))) else some x6_l1)
def rank_Vec_Rank.f (p0 : Option (Int × (List Int) × (List Int) × Int)) (a1 : Int) : Option Int := (match p0 with | none => some 0 | some y3 => (if decide (a1 ≤ 0) then some 0 else (if decide (a1 ≥ y3.1) then some y3.2.2.2 else ((at? y3.2.2.1 (wi (Int.tdiv (wi (Int.tdiv a1 64)) 8))).bind fun v17 => ((rank_Vec_Rank.l1 a1 y3 FU v17 (wi ((wi (Int.tdiv (wi (Int.tdiv a1 64)) 8)) * 8))).bind fun o31 => ((at? y3.2.1 (wi (Int.tdiv a1 64))).bind fun v38 => ((chk? (decide (0 ≤ (Int.tmod a1 64)))).bind fun _ => ((bits_OnesCount64.f (iand .u64 v38 (IntKind.wrap .u64 ((ishl .u64 1 (Int.tmod a1 64)) - 1)))).bind fun r41 => some (wi (o31 + r41))))))))))
def rank_Vec_Rank.post (w : World) (r : Int) (v : Value) (w' : World) : Prop := v = (.int .i64 r : Value) ∧ Sat w' (rf w) []
theorem rank_Vec_Rank.l1_ok {Q} (w0 : World) (a1 : Int) (y3 : Int × (List Int) × (List Int) × Int) (b4 : Nat) (fr5 : Nat × Nat) (A9 : Option Addr) (c10 : Nat) (A12 : Option Addr) (c13 : Nat) (R11 : rdS (r0 (.int .u64)) 1 (hp w0) A9 c10 y3.2.1) (hb7 : (hp w0) b4 = some (.cells #[.int .i64 y3.1, .slice A9 y3.2.1.length c10, .slice A12 y3.2.2.1.length c13, .int .i64 y3.2.2.2] 76 fr5)) (out : Int) (hn0 : ∀ (w : World), Sat w (rf w0) [] → At Q (.exit 0) 67 [(0, .pointer (some ⟨b4, 0, none⟩)), (1, .int .i64 a1), (5, .int .i64 (wi (Int.tdiv a1 64))), (6, .int .i64 out)] w) :
    ∀ (k : Nat) (x6_l1 : Int) (x7_l1 : Int) (w : World), Sat w (rf w0) [] → rank_Vec_Rank.l1 a1 y3 k x6_l1 x7_l1 = some out → WL Try.prog (cbody (cbody (cr (cl (cr (cr (cr (cr (cr C51))))))))) Q 67 [(0, .pointer (some ⟨b4, 0, none⟩)), (1, .int .i64 a1), (5, .int .i64 (wi (Int.tdiv a1 64))), (6, .int .i64 x6_l1), (7, .int .i64 x7_l1)] w := by
  intro k
  induction k with
  | zero => intro x6_l1 x7_l1 w hS H; exact absurd (show none = some out from H) (by simp)
  | succ k ih =>
    intro x6_l1 x7_l1 w hS H
    unfold rank_Vec_Rank.l1 at H
    refine WL.round ?_
    refine WC.seq (by kernel_rfl) ?_
    refine WC.seq (by kernel_rfl) ?_
    refine WC.reg [0, 1, 2] (by kernel_rfl) (by kernel_rfl) ?_
    refine WR.runk [0, 1, 2] [] [0, 1, 5, 6, 7, 39] (L' := [(0, .pointer (some ⟨b4, 0, none⟩)), (1, .int .i64 a1), (5, .int .i64 (wi (Int.tdiv a1 64))), (6, .int .i64 x6_l1), (7, .int .i64 x7_l1), (39, .bool (decide (x7_l1 < wi (Int.tdiv a1 64))))]) (w' := w) (by kernel_rfl) ?_
    refine WR.nil ?_
    refine At.go ?_
    refine WC.cond (by kernel_rfl) (decide (x7_l1 < wi (Int.tdiv a1 64))) (by kernel_rfl) (by kernel_rfl) (fun hb19 => ?_) (fun hb19 => ?_)
    · replace H := ite_t H hb19
      refine WC.skip (by kernel_rfl) ?_
      refine At.go ?_
      refine WC.seq (by kernel_rfl) ?_
      refine WC.block (by kernel_rfl) ?_
      refine WC.reg [0, 1, 2, 3, 4, 5, 6, 7, 8, 9, 10] (by kernel_rfl) (by kernel_rfl) ?_
      refine WR.runk [0, 1, 2, 3] [4, 5, 6, 7, 8, 9, 10] [0, 1, 5, 6, 7, 42, 45] (L' := [(0, .pointer (some ⟨b4, 0, none⟩)), (1, .int .i64 a1), (5, .int .i64 (wi (Int.tdiv a1 64))), (6, .int .i64 x6_l1), (7, .int .i64 x7_l1), (42, .int .i64 x6_l1), (45, .pointer (some ⟨b4, 1, none⟩))]) (w' := w) (by kernel_rfl) ?_
      refine WR.st (St.ofR (RSt.loadRo (t := 70) (k := 1) (v := .slice A9 y3.2.1.length c10) (.tmp 45) (by kernel_rfl) (by kernel_rfl) (by kernel_rfl) hS.sub0 hb7 (by kernel_rfl) rfl ?_))
      refine WR.runk [5] [6, 7, 8, 9, 10] [0, 1, 5, 6, 7, 42, 46, 47] (L' := [(0, .pointer (some ⟨b4, 0, none⟩)), (1, .int .i64 a1), (5, .int .i64 (wi (Int.tdiv a1 64))), (6, .int .i64 x6_l1), (7, .int .i64 x7_l1), (42, .int .i64 x6_l1), (46, .slice A9 y3.2.1.length c10), (47, .int .i64 x7_l1)]) (w' := w) (by kernel_rfl) ?_
      obtain ⟨v20, e21, H⟩ := bind_ex H
      refine WR.st (St.ofP (PSt.idx (k := .i64) (.tmp 46) (.tmp 47) (by kernel_rfl) (by kernel_rfl) E70 (by kernel_rfl) (by kernel_rfl) (rdS.up R11 hS.sub0) e21 ?_))
      refine WR.runk [] [7, 8, 9, 10] [0, 1, 5, 6, 7, 42, 48] (L' := [(0, .pointer (some ⟨b4, 0, none⟩)), (1, .int .i64 a1), (5, .int .i64 (wi (Int.tdiv a1 64))), (6, .int .i64 x6_l1), (7, .int .i64 x7_l1), (42, .int .i64 x6_l1), (48, .pointer (some (adr A9 x7_l1.toNat 1)))]) (w' := w) (by kernel_rfl) ?_
      refine WR.st (St.ofR (RSt.loadInt (t := 55) (.tmp 48) (by kernel_rfl) (by kernel_rfl) (by kernel_rfl) (by kernel_rfl) (rdS.up R11 hS.sub0) e21 ?_))
      refine WR.runk [] [8, 9, 10] [0, 1, 5, 6, 7, 42, 49] (L' := [(0, .pointer (some ⟨b4, 0, none⟩)), (1, .int .i64 a1), (5, .int .i64 (wi (Int.tdiv a1 64))), (6, .int .i64 x6_l1), (7, .int .i64 x7_l1), (42, .int .i64 x6_l1), (49, .int .u64 v20)]) (w' := w) (by kernel_rfl) ?_
      obtain ⟨r22, e23, H⟩ := bind_ex H
      refine WR.st (St.call (by kernel_rfl) (f := 38) (args := #[.int .u64 v20]) (by kernel_rfl) (bits_OnesCount64.calls w v20 r22 e23) ?_)
      rintro _ w29 ⟨rfl, hS30⟩
      have hS : Sat w29 (rf w0) [] := hS.ext hS30
      refine WR.runk [9, 10] [] [0, 1, 5, 6, 7] (L' := [(0, .pointer (some ⟨b4, 0, none⟩)), (1, .int .i64 a1), (5, .int .i64 (wi (Int.tdiv a1 64))), (6, .int .i64 (wi (x6_l1 + r22))), (7, .int .i64 x7_l1)]) (w' := w29) (by kernel_rfl) ?_
      refine WR.nil ?_
      refine At.blockNormal ?_
      refine At.go ?_
      refine WC.reg [0, 1, 2] (by kernel_rfl) (by kernel_rfl) ?_
      refine WR.runk [0, 1, 2] [] [0, 1, 5, 6, 7] (L' := [(0, .pointer (some ⟨b4, 0, none⟩)), (1, .int .i64 a1), (5, .int .i64 (wi (Int.tdiv a1 64))), (6, .int .i64 (wi (x6_l1 + r22))), (7, .int .i64 (wi (x7_l1 + 1)))]) (w' := w29) (by kernel_rfl) ?_
      refine WR.nil ?_
      have hS : Sat w29 (rf w0) [] := hS.sel [] (by kernel_rfl)
      refine At.again ?_
      refine WL.weaken [0, 1, 5, 6, 7] (L' := [(0, .pointer (some ⟨b4, 0, none⟩)), (1, .int .i64 a1), (5, .int .i64 (wi (Int.tdiv a1 64))), (6, .int .i64 (wi (x6_l1 + r22))), (7, .int .i64 (wi (x7_l1 + 1)))]) (by kernel_rfl) ?_
      exact ih (wi (x6_l1 + r22)) (wi (x7_l1 + 1)) _ hS H
    · replace H := ite_f H hb19
      refine WC.exit (by kernel_rfl) ?_
      refine At.thenExit ?_
      refine At.thenExit ?_
      obtain rfl := Option.some.inj H
      have hS : Sat w (rf w0) [] := hS.sel [] (by kernel_rfl)
      refine At.weaken [0, 1, 5, 6] (L' := [(0, .pointer (some ⟨b4, 0, none⟩)), (1, .int .i64 a1), (5, .int .i64 (wi (Int.tdiv a1 64))), (6, .int .i64 x6_l1)]) (by kernel_rfl) ?_
      exact hn0 _ hS
theorem rank_Vec_Rank.calls (w0 : World) (v0 : Value) (p0 : Option (Int × (List Int) × (List Int) × Int)) (R0 : rd (hp w0) (.ptr 76 (.pair (.int .i64) (.pair (.slice 55 (.int .u64)) (.pair (.slice 3 (.int .i64)) (.int .i64))))) [v0] p0) (a1 : Int) (r : Int) (H : rank_Vec_Rank.f p0 a1 = some r) :
    Calls Try.prog 51 #[v0, .int .i64 a1] w0 (fun e w' => ∃ v, e = .returned v ∧ rank_Vec_Rank.post w0 r v w') := by
  have hS : Sat w0 (rf w0) [] := Sat.start w0
  unfold rank_Vec_Rank.f at H
  refine calls_of_WC (vs := [v0, .int .i64 a1]) Try.func51 (c := C51) (n := 67) (by kernel_rfl) (by kernel_rfl) (by kernel_rfl) ?_
  refine WC.seq (by kernel_rfl) ?_
  refine WC.reg [0] (by kernel_rfl) (by kernel_rfl) ?_
  refine WR.runk [0] [] [0, 1] (L' := [(0, v0), (1, .int .i64 a1)]) (w' := w0) (by kernel_rfl) ?_
  refine WR.nil ?_
  refine At.go ?_
  refine WC.seq (by kernel_rfl) ?_
  refine WC.seq (by kernel_rfl) ?_
  refine WC.reg [0, 1, 2, 3, 4, 5] (by kernel_rfl) (by kernel_rfl) ?_
  refine WR.runk [0] [1, 2, 3, 4, 5] [0, 1, 8] (L' := [(0, v0), (1, .int .i64 a1), (8, v0)]) (w' := w0) (by kernel_rfl) ?_
  rcases opt_cases p0 with hr1 | ⟨y3, hr1⟩
  · rw [hr1] at H
    dsimp only at H
    have hx2 := rd_ptr_none R0 hr1
    try subst hx2
    refine WR.runk [1, 2, 3, 4, 5] [] [0, 1, 13] (L' := [(0, .pointer none), (1, .int .i64 a1), (13, .bool true)]) (w' := w0) (by kernel_rfl) ?_
    refine WR.nil ?_
    refine At.go ?_
    refine WC.condT (by kernel_rfl) (by kernel_rfl) (by kernel_rfl) ?_
    refine WC.seq (by kernel_rfl) ?_
    refine WC.reg [0] (by kernel_rfl) (by kernel_rfl) ?_
    refine WR.runk [0] [] [4] (L' := [(4, .int .i64 0)]) (w' := w0) (by kernel_rfl) ?_
    refine WR.nil ?_
    refine At.go ?_
    refine WC.ret (by kernel_rfl) ?_
    refine At.thenRet ?_
    obtain rfl := Option.some.inj H
    have hS : Sat w0 (rf w0) [] := hS.sel [] (by kernel_rfl)
    exact At.body [.int .i64 0] (by kernel_rfl) ⟨_, rfl, rfl, hS⟩
  · rw [hr1] at H
    dsimp only at H
    obtain ⟨b4, fr5, A9, c10, A12, c13, hv6, hb7, R11, R14⟩ := P76.open R0 hr1
    have R8 := R0
    rw [hv6, hr1] at R8
    try subst hv6
    replace R11 : rdS (r0 (.int .u64)) 1 (hp w0) A9 c10 y3.2.1 := R11
    replace R14 : rdS (r0 (.int .i64)) 1 (hp w0) A12 c13 y3.2.2.1 := R14
    refine WR.runk [1, 2, 3, 4, 5] [] [0, 1, 13] (L' := [(0, .pointer (some ⟨b4, 0, none⟩)), (1, .int .i64 a1), (13, .bool (decide (a1 ≤ 0)))]) (w' := w0) (by kernel_rfl) ?_
    refine WR.nil ?_
    refine At.go ?_
    refine WC.cond (by kernel_rfl) (decide (a1 ≤ 0)) (by kernel_rfl) (by kernel_rfl) (fun hb15 => ?_) (fun hb15 => ?_)
    · replace H := ite_t H hb15
      refine WC.seq (by kernel_rfl) ?_
      refine WC.reg [0] (by kernel_rfl) (by kernel_rfl) ?_
      refine WR.runk [0] [] [4] (L' := [(4, .int .i64 0)]) (w' := w0) (by kernel_rfl) ?_
      refine WR.nil ?_
      refine At.go ?_
      refine WC.ret (by kernel_rfl) ?_
      refine At.thenRet ?_
      obtain rfl := Option.some.inj H
      have hS : Sat w0 (rf w0) [] := hS.sel [] (by kernel_rfl)
      exact At.body [.int .i64 0] (by kernel_rfl) ⟨_, rfl, rfl, hS⟩
    · replace H := ite_f H hb15
      refine WC.skip (by kernel_rfl) ?_
      refine At.go ?_
      refine WC.seq (by kernel_rfl) ?_
      refine WC.seq (by kernel_rfl) ?_
      refine WC.reg [0, 1, 2, 3, 4, 5] (by kernel_rfl) (by kernel_rfl) ?_
      refine WR.runk [0, 1, 2, 3] [4, 5] [0, 1, 14, 17] (L' := [(0, .pointer (some ⟨b4, 0, none⟩)), (1, .int .i64 a1), (14, .int .i64 a1), (17, .pointer (some ⟨b4, 0, none⟩))]) (w' := w0) (by kernel_rfl) ?_
      refine WR.st (St.ofR (RSt.loadRo (t := 3) (k := 0) (v := .int .i64 y3.1) (.tmp 17) (by kernel_rfl) (by kernel_rfl) (by kernel_rfl) hS.sub0 hb7 (by kernel_rfl) rfl ?_))
      refine WR.runk [5] [] [0, 1, 19] (L' := [(0, .pointer (some ⟨b4, 0, none⟩)), (1, .int .i64 a1), (19, .bool (decide (a1 ≥ y3.1)))]) (w' := w0) (by kernel_rfl) ?_
      refine WR.nil ?_
      refine At.go ?_
      refine WC.cond (by kernel_rfl) (decide (a1 ≥ y3.1)) (by kernel_rfl) (by kernel_rfl) (fun hb16 => ?_) (fun hb16 => ?_)
      · replace H := ite_t H hb16
        refine WC.seq (by kernel_rfl) ?_
        refine WC.reg [0, 1, 2, 3, 4] (by kernel_rfl) (by kernel_rfl) ?_
        refine WR.runk [0, 1, 2] [3, 4] [22] (L' := [(22, .pointer (some ⟨b4, 3, none⟩))]) (w' := w0) (by kernel_rfl) ?_
        refine WR.st (St.ofR (RSt.loadRo (t := 3) (k := 3) (v := .int .i64 y3.2.2.2) (.tmp 22) (by kernel_rfl) (by kernel_rfl) (by kernel_rfl) hS.sub0 hb7 (by kernel_rfl) rfl ?_))
        refine WR.runk [4] [] [4] (L' := [(4, .int .i64 y3.2.2.2)]) (w' := w0) (by kernel_rfl) ?_
        refine WR.nil ?_
        refine At.go ?_
        refine WC.ret (by kernel_rfl) ?_
        refine At.thenRet ?_
        obtain rfl := Option.some.inj H
        have hS : Sat w0 (rf w0) [] := hS.sel [] (by kernel_rfl)
        exact At.body [.int .i64 y3.2.2.2] (by kernel_rfl) ⟨_, rfl, rfl, hS⟩
      · replace H := ite_f H hb16
        refine WC.skip (by kernel_rfl) ?_
        refine At.go ?_
        refine WC.seq (by kernel_rfl) ?_
        refine WC.reg [0, 1, 2] (by kernel_rfl) (by kernel_rfl) ?_
        refine WR.runk [0, 1, 2] [] [0, 1, 5] (L' := [(0, .pointer (some ⟨b4, 0, none⟩)), (1, .int .i64 a1), (5, .int .i64 (wi (Int.tdiv a1 64)))]) (w' := w0) (by kernel_rfl) ?_
        refine WR.nil ?_
        refine At.go ?_
        refine WC.seq (by kernel_rfl) ?_
        refine WC.reg [0, 1, 2, 3, 4, 5, 6, 7, 8] (by kernel_rfl) (by kernel_rfl) ?_
        refine WR.runk [0, 1, 2] [3, 4, 5, 6, 7, 8] [0, 1, 5, 28] (L' := [(0, .pointer (some ⟨b4, 0, none⟩)), (1, .int .i64 a1), (5, .int .i64 (wi (Int.tdiv a1 64))), (28, .pointer (some ⟨b4, 2, none⟩))]) (w' := w0) (by kernel_rfl) ?_
        refine WR.st (St.ofR (RSt.loadRo (t := 22) (k := 2) (v := .slice A12 y3.2.2.1.length c13) (.tmp 28) (by kernel_rfl) (by kernel_rfl) (by kernel_rfl) hS.sub0 hb7 (by kernel_rfl) rfl ?_))
        refine WR.runk [4, 5] [6, 7, 8] [0, 1, 5, 29, 31] (L' := [(0, .pointer (some ⟨b4, 0, none⟩)), (1, .int .i64 a1), (5, .int .i64 (wi (Int.tdiv a1 64))), (29, .slice A12 y3.2.2.1.length c13), (31, .int .i64 (wi (Int.tdiv (wi (Int.tdiv a1 64)) 8)))]) (w' := w0) (by kernel_rfl) ?_
        obtain ⟨v17, e18, H⟩ := bind_ex H
        refine WR.st (St.ofP (PSt.idx (k := .i64) (.tmp 29) (.tmp 31) (by kernel_rfl) (by kernel_rfl) E22 (by kernel_rfl) (by kernel_rfl) (rdS.up R14 hS.sub0) e18 ?_))
        refine WR.runk [] [7, 8] [0, 1, 5, 32] (L' := [(0, .pointer (some ⟨b4, 0, none⟩)), (1, .int .i64 a1), (5, .int .i64 (wi (Int.tdiv a1 64))), (32, .pointer (some (adr A12 (wi (Int.tdiv (wi (Int.tdiv a1 64)) 8)).toNat 1)))]) (w' := w0) (by kernel_rfl) ?_
        refine WR.st (St.ofR (RSt.loadInt (t := 3) (.tmp 32) (by kernel_rfl) (by kernel_rfl) (by kernel_rfl) (by kernel_rfl) (rdS.up R14 hS.sub0) e18 ?_))
        refine WR.runk [8] [] [0, 1, 5, 6] (L' := [(0, .pointer (some ⟨b4, 0, none⟩)), (1, .int .i64 a1), (5, .int .i64 (wi (Int.tdiv a1 64))), (6, .int .i64 v17)]) (w' := w0) (by kernel_rfl) ?_
        refine WR.nil ?_
        refine At.go ?_
        refine WC.seq (by kernel_rfl) ?_
        refine WC.seq (by kernel_rfl) ?_
        refine WC.reg [0, 1, 2, 3] (by kernel_rfl) (by kernel_rfl) ?_
        refine WR.runk [0, 1, 2, 3] [] [0, 1, 5, 6, 7] (L' := [(0, .pointer (some ⟨b4, 0, none⟩)), (1, .int .i64 a1), (5, .int .i64 (wi (Int.tdiv a1 64))), (6, .int .i64 v17), (7, .int .i64 (wi ((wi (Int.tdiv (wi (Int.tdiv a1 64)) 8)) * 8)))]) (w' := w0) (by kernel_rfl) ?_
        refine WR.nil ?_
        refine At.go ?_
        refine WC.block (by kernel_rfl) ?_
        have hS : Sat w0 (rf w0) [] := hS.sel [] (by kernel_rfl)
        obtain ⟨o31, e32, H⟩ := bind_ex H
        refine WC.loop (by kernel_rfl) ?_
        refine WL.weaken [0, 1, 5, 6, 7] (L' := [(0, .pointer (some ⟨b4, 0, none⟩)), (1, .int .i64 a1), (5, .int .i64 (wi (Int.tdiv a1 64))), (6, .int .i64 v17), (7, .int .i64 (wi ((wi (Int.tdiv (wi (Int.tdiv a1 64)) 8)) * 8)))]) (by kernel_rfl) ?_
        refine rank_Vec_Rank.l1_ok w0 a1 y3 b4 fr5 A9 c10 A12 c13 R11 hb7 o31 (fun w34 hS => ?_) FU v17 (wi ((wi (Int.tdiv (wi (Int.tdiv a1 64)) 8)) * 8)) _ hS e32
        refine At.hit ?_
        refine At.go ?_
        refine WC.seq (by kernel_rfl) ?_
        refine WC.drawn (by kernel_rfl) (by kernel_rfl) 16 (by kernel_rfl) (fun w36 hw37 => ?_)
        have hS := hS.heap hw37.1 hw37.2
        refine WD.weaken [0, 1, 5, 6] (L' := [(0, .pointer (some ⟨b4, 0, none⟩)), (1, .int .i64 a1), (5, .int .i64 (wi (Int.tdiv a1 64))), (6, .int .i64 o31)]) (by kernel_rfl) ?_
        refine WD.pure (i := 0) (v := .int .i64 o31) (by kernel_rfl) (by kernel_rfl) (fun _ => by kernel_rfl) ?_
        refine WD.weaken [0, 1, 5, 52] (L' := [(0, .pointer (some ⟨b4, 0, none⟩)), (1, .int .i64 a1), (5, .int .i64 (wi (Int.tdiv a1 64))), (52, .int .i64 o31)]) (by kernel_rfl) ?_
        refine WD.pure (i := 1) (v := .pointer (some ⟨b4, 0, none⟩)) (by kernel_rfl) (by kernel_rfl) (fun _ => by kernel_rfl) ?_
        refine WD.weaken [1, 5, 52, 53] (L' := [(1, .int .i64 a1), (5, .int .i64 (wi (Int.tdiv a1 64))), (52, .int .i64 o31), (53, .pointer (some ⟨b4, 0, none⟩))]) (by kernel_rfl) ?_
        refine WD.pure (i := 2) (v := .pointer (some ⟨b4, 0, none⟩)) (by kernel_rfl) (by kernel_rfl) (fun _ => by kernel_rfl) ?_
        refine WD.weaken [1, 5, 52, 54] (L' := [(1, .int .i64 a1), (5, .int .i64 (wi (Int.tdiv a1 64))), (52, .int .i64 o31), (54, .pointer (some ⟨b4, 0, none⟩))]) (by kernel_rfl) ?_
        refine WD.pure (i := 3) (v := .pointer (some ⟨b4, 1, none⟩)) (by kernel_rfl) (by kernel_rfl) (fun _ => by kernel_rfl) ?_
        refine WD.weaken [1, 5, 52, 55] (L' := [(1, .int .i64 a1), (5, .int .i64 (wi (Int.tdiv a1 64))), (52, .int .i64 o31), (55, .pointer (some ⟨b4, 1, none⟩))]) (by kernel_rfl) ?_
        refine WD.ofR (i := 4) (by kernel_rfl) (RSt.loadRo (t := 70) (k := 1) (v := .slice A9 y3.2.1.length c10) (.tmp 55) (by kernel_rfl) (by kernel_rfl) (by kernel_rfl) hS.sub0 hb7 (by kernel_rfl) rfl ?_)
        refine WD.weaken [1, 5, 52, 56] (L' := [(1, .int .i64 a1), (5, .int .i64 (wi (Int.tdiv a1 64))), (52, .int .i64 o31), (56, .slice A9 y3.2.1.length c10)]) (by kernel_rfl) ?_
        refine WD.pure (i := 5) (v := .int .i64 (wi (Int.tdiv a1 64))) (by kernel_rfl) (by kernel_rfl) (fun _ => by kernel_rfl) ?_
        refine WD.weaken [1, 52, 56, 57] (L' := [(1, .int .i64 a1), (52, .int .i64 o31), (56, .slice A9 y3.2.1.length c10), (57, .int .i64 (wi (Int.tdiv a1 64)))]) (by kernel_rfl) ?_
        obtain ⟨v38, e39, H⟩ := bind_ex H
        refine WD.ofP (i := 6) (by kernel_rfl) (PSt.idx (k := .i64) (.tmp 56) (.tmp 57) (by kernel_rfl) (by kernel_rfl) E70 (by kernel_rfl) (by kernel_rfl) (rdS.up R11 hS.sub0) e39 ?_)
        refine WD.weaken [1, 52, 58] (L' := [(1, .int .i64 a1), (52, .int .i64 o31), (58, .pointer (some (adr A9 (wi (Int.tdiv a1 64)).toNat 1)))]) (by kernel_rfl) ?_
        refine WD.ofR (i := 7) (by kernel_rfl) (RSt.loadInt (t := 55) (.tmp 58) (by kernel_rfl) (by kernel_rfl) (by kernel_rfl) (by kernel_rfl) (rdS.up R11 hS.sub0) e39 ?_)
        refine WD.weaken [1, 52, 59] (L' := [(1, .int .i64 a1), (52, .int .i64 o31), (59, .int .u64 v38)]) (by kernel_rfl) ?_
        refine WD.pure (i := 8) (v := .int .i64 a1) (by kernel_rfl) (by kernel_rfl) (fun _ => by kernel_rfl) ?_
        refine WD.weaken [52, 59, 60] (L' := [(52, .int .i64 o31), (59, .int .u64 v38), (60, .int .i64 a1)]) (by kernel_rfl) ?_
        refine WD.pure (i := 9) (v := .int .i64 (Int.tmod a1 64)) (by kernel_rfl) (by kernel_rfl) (fun _ => by kernel_rfl) ?_
        refine WD.weaken [52, 59, 61] (L' := [(52, .int .i64 o31), (59, .int .u64 v38), (61, .int .i64 (Int.tmod a1 64))]) (by kernel_rfl) ?_
        obtain ⟨_, e40, H⟩ := bind_ex H
        refine WD.ofP (i := 10) (by kernel_rfl) (PSt.shift (k := .u64) (k2 := .i64) (t := 55) (t2 := 3) (a := 1) (b := (Int.tmod a1 64)) .shl (by decide) (.const (.int .u64 1)) (.tmp 61) (by kernel_rfl) (by kernel_rfl) (by kernel_rfl) (by kernel_rfl) (of_decide_eq_true (chk?_some e40)) ?_)
        refine WD.weaken [52, 59, 62] (L' := [(52, .int .i64 o31), (59, .int .u64 v38), (62, .int .u64 (ishl .u64 1 (Int.tmod a1 64)))]) (by kernel_rfl) ?_
        refine WD.pure (i := 11) (v := .int .u64 (IntKind.wrap .u64 ((ishl .u64 1 (Int.tmod a1 64)) - 1))) (by kernel_rfl) (by kernel_rfl) (fun _ => by kernel_rfl) ?_
        refine WD.weaken [52, 59, 63] (L' := [(52, .int .i64 o31), (59, .int .u64 v38), (63, .int .u64 (IntKind.wrap .u64 ((ishl .u64 1 (Int.tmod a1 64)) - 1)))]) (by kernel_rfl) ?_
        refine WD.pure (i := 12) (v := .int .u64 (iand .u64 v38 (IntKind.wrap .u64 ((ishl .u64 1 (Int.tmod a1 64)) - 1)))) (by kernel_rfl) (by kernel_rfl) (fun _ => by kernel_rfl) ?_
        refine WD.weaken [52, 64] (L' := [(52, .int .i64 o31), (64, .int .u64 (iand .u64 v38 (IntKind.wrap .u64 ((ishl .u64 1 (Int.tmod a1 64)) - 1))))]) (by kernel_rfl) ?_
        obtain ⟨r41, e42, H⟩ := bind_ex H
        refine WD.act (i := 13) (by kernel_rfl) (St.call (by kernel_rfl) (f := 38) (args := #[.int .u64 (iand .u64 v38 (IntKind.wrap .u64 ((ishl .u64 1 (Int.tmod a1 64)) - 1)))]) (by kernel_rfl) (bits_OnesCount64.calls w36 (iand .u64 v38 (IntKind.wrap .u64 ((ishl .u64 1 (Int.tmod a1 64)) - 1))) r41 e42) ?_)
        rintro _ w48 ⟨rfl, hS49⟩
        have hS : Sat w48 (rf w0) [] := hS.ext hS49
        refine ⟨(asked.anc (by kernel_rfl) (asked.anc (by kernel_rfl) (asked.nil _ _))), ?_⟩
        refine WD.weaken [52, 65] (L' := [(52, .int .i64 o31), (65, .int .i64 r41)]) (by kernel_rfl) ?_
        refine WD.pure (i := 14) (v := .int .i64 (wi (o31 + r41))) (by kernel_rfl) (by kernel_rfl) (fun _ => by kernel_rfl) ?_
        refine WD.weaken [66] (L' := [(66, .int .i64 (wi (o31 + r41)))]) (by kernel_rfl) ?_
        refine WD.pure (i := 15) (v := .int .i64 (wi (o31 + r41))) (by kernel_rfl) (by kernel_rfl) (fun _ => by kernel_rfl) ?_
        refine WD.weaken [4] (L' := [(4, .int .i64 (wi (o31 + r41)))]) (by kernel_rfl) ?_
        refine WD.nil (by kernel_rfl) ?_
        refine At.go ?_
        refine WC.ret (by kernel_rfl) ?_
        obtain rfl := Option.some.inj H
        have hS : Sat w48 (rf w0) [] := hS.sel [] (by kernel_rfl)
        exact At.body [.int .i64 (wi (o31 + r41))] (by kernel_rfl) ⟨_, rfl, rfl, hS⟩
/-! ### 48 (*colophon/rank.Vec).Zeros -/
def rank_Vec_Zeros.f (p0 : Option (Int × (List Int) × (List Int) × Int)) (a1 : Int) : Option Int := ((rank_Vec_Len.f p0).bind fun r1 => ((rank_Vec_Rank.f p0 a1).bind fun r10 => some (wi ((imax 0 (imin a1 r1)) - r10))))
def rank_Vec_Zeros.post (w : World) (r : Int) (v : Value) (w' : World) : Prop := v = (.int .i64 r : Value) ∧ Sat w' (rf w) []
theorem rank_Vec_Zeros.calls (w0 : World) (v0 : Value) (p0 : Option (Int × (List Int) × (List Int) × Int)) (R0 : rd (hp w0) (.ptr 76 (.pair (.int .i64) (.pair (.slice 55 (.int .u64)) (.pair (.slice 3 (.int .i64)) (.int .i64))))) [v0] p0) (a1 : Int) (r : Int) (H : rank_Vec_Zeros.f p0 a1 = some r) :
    Calls Try.prog 48 #[v0, .int .i64 a1] w0 (fun e w' => ∃ v, e = .returned v ∧ rank_Vec_Zeros.post w0 r v w') := by
  have hS : Sat w0 (rf w0) [] := Sat.start w0
  unfold rank_Vec_Zeros.f at H
  refine calls_of_WC (vs := [v0, .int .i64 a1]) Try.func48 (c := C48) (n := 14) (by kernel_rfl) (by kernel_rfl) (by kernel_rfl) ?_
  refine WC.seq (by kernel_rfl) ?_
  refine WC.reg [0] (by kernel_rfl) (by kernel_rfl) ?_
  refine WR.runk [0] [] [0, 1] (L' := [(0, v0), (1, .int .i64 a1)]) (w' := w0) (by kernel_rfl) ?_
  refine WR.nil ?_
  refine At.go ?_
  refine WC.seq (by kernel_rfl) ?_
  refine WC.reg [0, 1, 2, 3, 4, 5, 6, 7, 8, 9] (by kernel_rfl) (by kernel_rfl) ?_
  refine WR.runk [0, 1] [2, 3, 4, 5, 6, 7, 8, 9] [0, 1, 5, 6] (L' := [(0, v0), (1, .int .i64 a1), (5, .int .i64 a1), (6, v0)]) (w' := w0) (by kernel_rfl) ?_
  obtain ⟨r1, e2, H⟩ := bind_ex H
  refine WR.st (St.call (by kernel_rfl) (f := 46) (args := #[v0]) (by kernel_rfl) (rank_Vec_Len.calls w0 (v0) p0 (rd.mono hS.sub0 _ _ _ R0) r1 e2) ?_)
  rintro _ w8 ⟨rfl, hS9⟩
  have hS : Sat w8 (rf w0) [] := hS.ext hS9
  refine WR.runk [3, 4, 5, 6] [7, 8, 9] [9, 10, 11] (L' := [(9, .int .i64 (imax 0 (imin a1 r1))), (10, v0), (11, .int .i64 a1)]) (w' := w8) (by kernel_rfl) ?_
  obtain ⟨r10, e11, H⟩ := bind_ex H
  refine WR.st (St.call (by kernel_rfl) (f := 51) (args := #[v0, .int .i64 a1]) (by kernel_rfl) (rank_Vec_Rank.calls w8 (v0) p0 (rd.mono hS.sub0 _ _ _ R0) a1 r10 e11) ?_)
  rintro _ w17 ⟨rfl, hS18⟩
  have hS : Sat w17 (rf w0) [] := hS.ext hS18
  refine WR.runk [8, 9] [] [4] (L' := [(4, .int .i64 (wi ((imax 0 (imin a1 r1)) - r10)))]) (w' := w17) (by kernel_rfl) ?_
  refine WR.nil ?_
  refine At.go ?_
  refine WC.ret (by kernel_rfl) ?_
  obtain rfl := Option.some.inj H
  have hS : Sat w17 (rf w0) [] := hS.sel [] (by kernel_rfl)
  exact At.body [.int .i64 (wi ((imax 0 (imin a1 r1)) - r10))] (by kernel_rfl) ⟨_, rfl, rfl, hS⟩
/-! ### 39 (*colophon/rank.Vec).SelectZero -/
def rank_Vec_SelectZero.l1 (a1 : Int) (y29 : Int × (List Int) × (List Int) × Int) : Nat → Int → Int → Option Int
  | 0, _, _ => none
  | k + 1, x5_l1, x6_l1 => (if decide (x5_l1 < x6_l1) then ((rank_Vec_Zeros.f (some y29) (wi ((wi (ishr .u64 (IntKind.wrap .u64 (wi (x5_l1 + x6_l1))) 1)) + 1))).bind fun r44 => (if (!(decide (r44 > a1))) then rank_Vec_SelectZero.l1 a1 y29 k (wi ((wi (ishr .u64 (IntKind.wrap .u64 (wi (x5_l1 + x6_l1))) 1)) + 1)) x6_l1 else rank_Vec_SelectZero.l1 a1 y29 k x5_l1 (wi (ishr .u64 (IntKind.wrap .u64 (wi (x5_l1 + x6_l1))) 1)))) else some x5_l1)
def rank_Vec_SelectZero.f (p0 : Option (Int × (List Int) × (List Int) × Int)) (a1 : Int) : Option Int := ((rank_Vec_Len.f p0).bind fun r1 => ((rank_Vec_Ones.f p0).bind fun r10 => (if decide (a1 < 0) then some (-1) else (if decide (a1 ≥ wi (r1 - r10)) then some (-1) else (p0.bind fun y29 => ((rank_Vec_SelectZero.l1 a1 y29 FU 0 y29.1).bind fun o54 => some o54))))))
def rank_Vec_SelectZero.post (w : World) (r : Int) (v : Value) (w' : World) : Prop := v = (.int .i64 r : Value) ∧ Sat w' (rf w) []
theorem rank_Vec_SelectZero.l1_ok {Q} (w0 : World) (a1 : Int) (b19 : Nat) (b22 : Nat) (y29 : Int × (List Int) × (List Int) × Int) (b30 : Nat) (R34 : rd (hp w0) (.ptr 76 (.pair (.int .i64) (.pair (.slice 55 (.int .u64)) (.pair (.slice 3 (.int .i64)) (.int .i64))))) [.pointer (some ⟨b30, 0, none⟩)] (some y29)) (out : Int) (hn0 : ∀ (w : World), Sat w (rf w0) [pts b22 (.cells #[.func (.func 48) #[.pointer (some ⟨b30, 0, none⟩)] #[]] 30 (0, 0)), pts b19 (.cells #[.int .i64 a1] 3 (0, 0))] → At Q (.exit 0) 26 [(5, .int .i64 out)] w) :
    ∀ (k : Nat) (x5_l1 : Int) (x6_l1 : Int) (w : World), Sat w (rf w0) [pts b22 (.cells #[.func (.func 48) #[.pointer (some ⟨b30, 0, none⟩)] #[]] 30 (0, 0)), pts b19 (.cells #[.int .i64 a1] 3 (0, 0))] → rank_Vec_SelectZero.l1 a1 y29 k x5_l1 x6_l1 = some out → WL Try.prog (cbody (cbody (cl (cr (cr C49))))) Q 26 [(1, .func (.func 50) #[] #[.pointer (some ⟨b22, 0, none⟩), .pointer (some ⟨b19, 0, none⟩)]), (5, .int .i64 x5_l1), (6, .int .i64 x6_l1)] w := by
  intro k
  induction k with
  | zero => intro x5_l1 x6_l1 w hS H; exact absurd (show none = some out from H) (by simp)
  | succ k ih =>
    intro x5_l1 x6_l1 w hS H
    unfold rank_Vec_SelectZero.l1 at H
    refine WL.round ?_
    refine WC.seq (by kernel_rfl) ?_
    refine WC.seq (by kernel_rfl) ?_
    refine WC.reg [0, 1, 2] (by kernel_rfl) (by kernel_rfl) ?_
    refine WR.runk [0, 1, 2] [] [1, 5, 6, 11] (L' := [(1, .func (.func 50) #[] #[.pointer (some ⟨b22, 0, none⟩), .pointer (some ⟨b19, 0, none⟩)]), (5, .int .i64 x5_l1), (6, .int .i64 x6_l1), (11, .bool (decide (x5_l1 < x6_l1)))]) (w' := w) (by kernel_rfl) ?_
    refine WR.nil ?_
    refine At.go ?_
    refine WC.cond (by kernel_rfl) (decide (x5_l1 < x6_l1)) (by kernel_rfl) (by kernel_rfl) (fun hb41 => ?_) (fun hb41 => ?_)
    · replace H := ite_t H hb41
      refine WC.skip (by kernel_rfl) ?_
      refine At.go ?_
      refine WC.block (by kernel_rfl) ?_
      refine WC.seq (by kernel_rfl) ?_
      refine WC.reg [0, 1, 2, 3, 4, 5, 6] (by kernel_rfl) (by kernel_rfl) ?_
      refine WR.runk [0, 1, 2, 3, 4, 5, 6] [] [1, 5, 6, 7] (L' := [(1, .func (.func 50) #[] #[.pointer (some ⟨b22, 0, none⟩), .pointer (some ⟨b19, 0, none⟩)]), (5, .int .i64 x5_l1), (6, .int .i64 x6_l1), (7, .int .i64 (wi (ishr .u64 (IntKind.wrap .u64 (wi (x5_l1 + x6_l1))) 1)))]) (w' := w) (by kernel_rfl) ?_
      refine WR.nil ?_
      refine At.go ?_
      refine WC.seq (by kernel_rfl) ?_
      refine WC.reg [0, 1, 2, 3] (by kernel_rfl) (by kernel_rfl) ?_
      refine WR.runk [0, 1] [2, 3] [1, 5, 6, 7, 18, 19] (L' := [(1, .func (.func 50) #[] #[.pointer (some ⟨b22, 0, none⟩), .pointer (some ⟨b19, 0, none⟩)]), (5, .int .i64 x5_l1), (6, .int .i64 x6_l1), (7, .int .i64 (wi (ishr .u64 (IntKind.wrap .u64 (wi (x5_l1 + x6_l1))) 1))), (18, .func (.func 50) #[] #[.pointer (some ⟨b22, 0, none⟩), .pointer (some ⟨b19, 0, none⟩)]), (19, .int .i64 (wi (ishr .u64 (IntKind.wrap .u64 (wi (x5_l1 + x6_l1))) 1)))]) (w' := w) (by kernel_rfl) ?_
      refine WR.st (St.call (by kernel_rfl) (f := 50) (args := #[.int .i64 (wi (ishr .u64 (IntKind.wrap .u64 (wi (x5_l1 + x6_l1))) 1)), .pointer (some ⟨b22, 0, none⟩), .pointer (some ⟨b19, 0, none⟩)]) (by kernel_rfl) (calls_of_WC (vs := [.int .i64 (wi (ishr .u64 (IntKind.wrap .u64 (wi (x5_l1 + x6_l1))) 1)), .pointer (some ⟨b22, 0, none⟩), .pointer (some ⟨b19, 0, none⟩)]) Try.func50 (c := C50) (n := 11) (by kernel_rfl) (by kernel_rfl) (by kernel_rfl) ?_) (fun _ _ h => h))
      refine WC.seq (by kernel_rfl) ?_
      refine WC.reg [0] (by kernel_rfl) (by kernel_rfl) ?_
      refine WR.runk [0] [] [0, 1, 2] (L' := [(0, .int .i64 (wi (ishr .u64 (IntKind.wrap .u64 (wi (x5_l1 + x6_l1))) 1))), (1, .pointer (some ⟨b22, 0, none⟩)), (2, .pointer (some ⟨b19, 0, none⟩))]) (w' := w) (by kernel_rfl) ?_
      refine WR.nil ?_
      refine At.go ?_
      refine WC.seq (by kernel_rfl) ?_
      refine WC.drawn (by kernel_rfl) (by kernel_rfl) 7 (by kernel_rfl) (fun w42 hw43 => ?_)
      have hS := hS.heap hw43.1 hw43.2
      refine WD.weaken [0, 1, 2] (L' := [(0, .int .i64 (wi (ishr .u64 (IntKind.wrap .u64 (wi (x5_l1 + x6_l1))) 1))), (1, .pointer (some ⟨b22, 0, none⟩)), (2, .pointer (some ⟨b19, 0, none⟩))]) (by kernel_rfl) ?_
      refine WD.ofR (i := 0) (by kernel_rfl) (RSt.loadObj (t := 30) (k := 0) (v := .func (.func 48) #[.pointer (some ⟨b30, 0, none⟩)] #[]) (.tmp 1) (by kernel_rfl) (by kernel_rfl) (by kernel_rfl) 0 hS rfl (by kernel_rfl) rfl ?_)
      refine WD.weaken [0, 2, 5] (L' := [(0, .int .i64 (wi (ishr .u64 (IntKind.wrap .u64 (wi (x5_l1 + x6_l1))) 1))), (2, .pointer (some ⟨b19, 0, none⟩)), (5, .func (.func 48) #[.pointer (some ⟨b30, 0, none⟩)] #[])]) (by kernel_rfl) ?_
      refine WD.pure (i := 1) (v := .int .i64 (wi (ishr .u64 (IntKind.wrap .u64 (wi (x5_l1 + x6_l1))) 1))) (by kernel_rfl) (by kernel_rfl) (fun _ => by kernel_rfl) ?_
      refine WD.weaken [2, 5, 6] (L' := [(2, .pointer (some ⟨b19, 0, none⟩)), (5, .func (.func 48) #[.pointer (some ⟨b30, 0, none⟩)] #[]), (6, .int .i64 (wi (ishr .u64 (IntKind.wrap .u64 (wi (x5_l1 + x6_l1))) 1)))]) (by kernel_rfl) ?_
      refine WD.pure (i := 2) (v := .int .i64 (wi ((wi (ishr .u64 (IntKind.wrap .u64 (wi (x5_l1 + x6_l1))) 1)) + 1))) (by kernel_rfl) (by kernel_rfl) (fun _ => by kernel_rfl) ?_
      refine WD.weaken [2, 5, 7] (L' := [(2, .pointer (some ⟨b19, 0, none⟩)), (5, .func (.func 48) #[.pointer (some ⟨b30, 0, none⟩)] #[]), (7, .int .i64 (wi ((wi (ishr .u64 (IntKind.wrap .u64 (wi (x5_l1 + x6_l1))) 1)) + 1)))]) (by kernel_rfl) ?_
      refine WD.ofR (i := 4) (by kernel_rfl) (RSt.loadObj (t := 3) (k := 0) (v := .int .i64 a1) (.tmp 2) (by kernel_rfl) (by kernel_rfl) (by kernel_rfl) 1 hS rfl (by kernel_rfl) rfl ?_)
      refine WD.weaken [5, 7, 9] (L' := [(5, .func (.func 48) #[.pointer (some ⟨b30, 0, none⟩)] #[]), (7, .int .i64 (wi ((wi (ishr .u64 (IntKind.wrap .u64 (wi (x5_l1 + x6_l1))) 1)) + 1))), (9, .int .i64 a1)]) (by kernel_rfl) ?_
      obtain ⟨r44, e45, H⟩ := bind_ex H
      refine WD.act (i := 3) (by kernel_rfl) (St.call (by kernel_rfl) (f := 48) (args := #[.pointer (some ⟨b30, 0, none⟩), .int .i64 (wi ((wi (ishr .u64 (IntKind.wrap .u64 (wi (x5_l1 + x6_l1))) 1)) + 1))]) (by kernel_rfl) (rank_Vec_Zeros.calls w42 (.pointer (some ⟨b30, 0, none⟩)) (some y29) (rd.mono hS.sub0 _ _ _ R34) (wi ((wi (ishr .u64 (IntKind.wrap .u64 (wi (x5_l1 + x6_l1))) 1)) + 1)) r44 e45) ?_)
      rintro _ w51 ⟨rfl, hS52⟩
      have hS : Sat w51 (rf w0) [pts b22 (.cells #[.func (.func 48) #[.pointer (some ⟨b30, 0, none⟩)] #[]] 30 (0, 0)), pts b19 (.cells #[.int .i64 a1] 3 (0, 0))] := hS.ext hS52
      refine ⟨(asked.cons (RSt.run (n := 11) (RSt.loadObj (t := 3) (k := 0) (v := .int .i64 a1) (.tmp 2) (by kernel_rfl) (by kernel_rfl) (by kernel_rfl) 1 hS rfl (by kernel_rfl) rfl rfl)) (asked.anc (by kernel_rfl) (asked.nil _ _))), ?_⟩
      refine WD.weaken [8, 9] (L' := [(8, .int .i64 r44), (9, .int .i64 a1)]) (by kernel_rfl) ?_
      refine WD.pure (i := 5) (v := .bool (decide (r44 > a1))) (by kernel_rfl) (by kernel_rfl) (fun _ => by kernel_rfl) ?_
      refine WD.weaken [10] (L' := [(10, .bool (decide (r44 > a1)))]) (by kernel_rfl) ?_
      refine WD.pure (i := 6) (v := .bool (decide (r44 > a1))) (by kernel_rfl) (by kernel_rfl) (fun _ => by kernel_rfl) ?_
      refine WD.weaken [4] (L' := [(4, .bool (decide (r44 > a1)))]) (by kernel_rfl) ?_
      refine WD.nil (by kernel_rfl) ?_
      refine At.go ?_
      refine WC.ret (by kernel_rfl) ?_
      refine At.bodyK [.bool (decide (r44 > a1))] (.bool (decide (r44 > a1))) (by kernel_rfl) rfl ?_
      refine WR.runk [3] [] [1, 5, 6, 7, 21] (L' := [(1, .func (.func 50) #[] #[.pointer (some ⟨b22, 0, none⟩), .pointer (some ⟨b19, 0, none⟩)]), (5, .int .i64 x5_l1), (6, .int .i64 x6_l1), (7, .int .i64 (wi (ishr .u64 (IntKind.wrap .u64 (wi (x5_l1 + x6_l1))) 1))), (21, .bool (!(decide (r44 > a1))))]) (w' := w51) (by kernel_rfl) ?_
      refine WR.nil ?_
      refine At.go ?_
      refine WC.cond (by kernel_rfl) (!(decide (r44 > a1))) (by kernel_rfl) (by kernel_rfl) (fun hb53 => ?_) (fun hb53 => ?_)
      · replace H := ite_t H hb53
        refine WC.reg [0, 1, 2] (by kernel_rfl) (by kernel_rfl) ?_
        refine WR.runk [0, 1, 2] [] [1, 5, 6] (L' := [(1, .func (.func 50) #[] #[.pointer (some ⟨b22, 0, none⟩), .pointer (some ⟨b19, 0, none⟩)]), (5, .int .i64 (wi ((wi (ishr .u64 (IntKind.wrap .u64 (wi (x5_l1 + x6_l1))) 1)) + 1))), (6, .int .i64 x6_l1)]) (w' := w51) (by kernel_rfl) ?_
        refine WR.nil ?_
        refine At.blockNormal ?_
        have hS : Sat w51 (rf w0) [pts b22 (.cells #[.func (.func 48) #[.pointer (some ⟨b30, 0, none⟩)] #[]] 30 (0, 0)), pts b19 (.cells #[.int .i64 a1] 3 (0, 0))] := hS.sel [0, 1] (by kernel_rfl)
        refine At.again ?_
        refine WL.weaken [1, 5, 6] (L' := [(1, .func (.func 50) #[] #[.pointer (some ⟨b22, 0, none⟩), .pointer (some ⟨b19, 0, none⟩)]), (5, .int .i64 (wi ((wi (ishr .u64 (IntKind.wrap .u64 (wi (x5_l1 + x6_l1))) 1)) + 1))), (6, .int .i64 x6_l1)]) (by kernel_rfl) ?_
        exact ih (wi ((wi (ishr .u64 (IntKind.wrap .u64 (wi (x5_l1 + x6_l1))) 1)) + 1)) x6_l1 _ hS H
      · replace H := ite_f H hb53
        refine WC.reg [0, 1] (by kernel_rfl) (by kernel_rfl) ?_
        refine WR.runk [0, 1] [] [1, 5, 6] (L' := [(1, .func (.func 50) #[] #[.pointer (some ⟨b22, 0, none⟩), .pointer (some ⟨b19, 0, none⟩)]), (5, .int .i64 x5_l1), (6, .int .i64 (wi (ishr .u64 (IntKind.wrap .u64 (wi (x5_l1 + x6_l1))) 1)))]) (w' := w51) (by kernel_rfl) ?_
        refine WR.nil ?_
        refine At.blockNormal ?_
        have hS : Sat w51 (rf w0) [pts b22 (.cells #[.func (.func 48) #[.pointer (some ⟨b30, 0, none⟩)] #[]] 30 (0, 0)), pts b19 (.cells #[.int .i64 a1] 3 (0, 0))] := hS.sel [0, 1] (by kernel_rfl)
        refine At.again ?_
        refine WL.weaken [1, 5, 6] (L' := [(1, .func (.func 50) #[] #[.pointer (some ⟨b22, 0, none⟩), .pointer (some ⟨b19, 0, none⟩)]), (5, .int .i64 x5_l1), (6, .int .i64 (wi (ishr .u64 (IntKind.wrap .u64 (wi (x5_l1 + x6_l1))) 1)))]) (by kernel_rfl) ?_
        exact ih x5_l1 (wi (ishr .u64 (IntKind.wrap .u64 (wi (x5_l1 + x6_l1))) 1)) _ hS H
    · replace H := ite_f H hb41
      refine WC.exit (by kernel_rfl) ?_
      refine At.thenExit ?_
      refine At.thenExit ?_
      obtain rfl := Option.some.inj H
      have hS : Sat w (rf w0) [pts b22 (.cells #[.func (.func 48) #[.pointer (some ⟨b30, 0, none⟩)] #[]] 30 (0, 0)), pts b19 (.cells #[.int .i64 a1] 3 (0, 0))] := hS.sel [0, 1] (by kernel_rfl)
      refine At.weaken [5] (L' := [(5, .int .i64 x5_l1)]) (by kernel_rfl) ?_
      exact hn0 _ hS
theorem rank_Vec_SelectZero.calls (w0 : World) (v0 : Value) (p0 : Option (Int × (List Int) × (List Int) × Int)) (R0 : rd (hp w0) (.ptr 76 (.pair (.int .i64) (.pair (.slice 55 (.int .u64)) (.pair (.slice 3 (.int .i64)) (.int .i64))))) [v0] p0) (a1 : Int) (r : Int) (H : rank_Vec_SelectZero.f p0 a1 = some r) :
    Calls Try.prog 39 #[v0, .int .i64 a1] w0 (fun e w' => ∃ v, e = .returned v ∧ rank_Vec_SelectZero.post w0 r v w') := by
  have hS : Sat w0 (rf w0) [] := Sat.start w0
  unfold rank_Vec_SelectZero.f at H
  refine calls_of_WC (vs := [v0, .int .i64 a1]) Try.func39 (c := C39) (n := 15) (by kernel_rfl) (by kernel_rfl) (by kernel_rfl) ?_
  refine WC.seq (by kernel_rfl) ?_
  refine WC.reg [0] (by kernel_rfl) (by kernel_rfl) ?_
  refine WR.runk [0] [] [0, 1] (L' := [(0, v0), (1, .int .i64 a1)]) (w' := w0) (by kernel_rfl) ?_
  refine WR.nil ?_
  refine At.go ?_
  refine WC.seq (by kernel_rfl) ?_
  refine WC.reg [0, 1, 2, 3, 4, 5, 6, 7, 8, 9, 10] (by kernel_rfl) (by kernel_rfl) ?_
  refine WR.runk [0, 1, 2] [3, 4, 5, 6, 7, 8, 9, 10] [0, 5, 6, 7] (L' := [(0, v0), (5, v0), (6, .int .i64 a1), (7, v0)]) (w' := w0) (by kernel_rfl) ?_
  obtain ⟨r1, e2, H⟩ := bind_ex H
  refine WR.st (St.call (by kernel_rfl) (f := 46) (args := #[v0]) (by kernel_rfl) (rank_Vec_Len.calls w0 (v0) p0 (rd.mono hS.sub0 _ _ _ R0) r1 e2) ?_)
  rintro _ w8 ⟨rfl, hS9⟩
  have hS : Sat w8 (rf w0) [] := hS.ext hS9
  refine WR.runk [4] [5, 6, 7, 8, 9, 10] [0, 5, 6, 8, 9] (L' := [(0, v0), (5, v0), (6, .int .i64 a1), (8, .int .i64 r1), (9, v0)]) (w' := w8) (by kernel_rfl) ?_
  obtain ⟨r10, e11, H⟩ := bind_ex H
  refine WR.st (St.call (by kernel_rfl) (f := 47) (args := #[v0]) (by kernel_rfl) (rank_Vec_Ones.calls w8 (v0) p0 (rd.mono hS.sub0 _ _ _ R0) r10 e11) ?_)
  rintro _ w17 ⟨rfl, hS18⟩
  have hS : Sat w17 (rf w0) [] := hS.ext hS18
  refine WR.runk [6, 7, 8] [9, 10] [5, 6, 11, 13] (L' := [(5, v0), (6, .int .i64 a1), (11, .int .i64 (wi (r1 - r10))), (13, .func (.func 48) #[v0] #[])]) (w' := w17) (by kernel_rfl) ?_
  refine WR.st (St.call (by kernel_rfl) (f := 45) (args := #[v0, .int .i64 a1, .int .i64 (wi (r1 - r10)), .func (.func 48) #[v0] #[]]) (by kernel_rfl) (calls_of_WC (vs := [v0, .int .i64 a1, .int .i64 (wi (r1 - r10)), .func (.func 48) #[v0] #[]]) Try.func45 (c := C45) (n := 22) (by kernel_rfl) (by kernel_rfl) (by kernel_rfl) ?_) (fun _ _ h => h))
  refine WC.seq (by kernel_rfl) ?_
  refine WC.reg [0, 1, 2] (by kernel_rfl) (by kernel_rfl) ?_
  refine WR.runk [] [0, 1, 2] [0, 1, 2, 3] (L' := [(0, v0), (1, .int .i64 a1), (2, .int .i64 (wi (r1 - r10))), (3, .func (.func 48) #[v0] #[])]) (w' := w17) (by kernel_rfl) ?_
  refine WR.st (St.box hS (by kernel_rfl) (.cells #[.int .i64 a1] 3) (fun b19 => .pointer (some ⟨b19, 0, none⟩)) (fun _ => by kernel_rfl) (fun b19 w20 hS => ?_))
  refine WR.runk [] [1, 2] [0, 2, 3, 5] (L' := [(0, v0), (2, .int .i64 (wi (r1 - r10))), (3, .func (.func 48) #[v0] #[]), (5, .pointer (some ⟨b19, 0, none⟩))]) (w' := w20) (by kernel_rfl) ?_
  refine WR.st (St.box hS (by kernel_rfl) (.cells #[.func (.func 48) #[v0] #[]] 30) (fun b22 => .pointer (some ⟨b22, 0, none⟩)) (fun _ => by kernel_rfl) (fun b22 w23 hS => ?_))
  refine WR.runk [2] [] [0, 2, 5, 7] (L' := [(0, v0), (2, .int .i64 (wi (r1 - r10))), (5, .pointer (some ⟨b19, 0, none⟩)), (7, .pointer (some ⟨b22, 0, none⟩))]) (w' := w23) (by kernel_rfl) ?_
  refine WR.nil ?_
  refine At.go ?_
  refine WC.seq (by kernel_rfl) ?_
  refine WC.seq (by kernel_rfl) ?_
  refine WC.reg [0, 1, 2, 3, 4, 5, 6] (by kernel_rfl) (by kernel_rfl) ?_
  refine WR.st (St.ofR (RSt.loadObj (t := 3) (k := 0) (v := .int .i64 a1) (.tmp 5) (by kernel_rfl) (by kernel_rfl) (by kernel_rfl) 1 hS rfl (by kernel_rfl) rfl ?_))
  refine WR.runk [1, 2] [3, 4, 5, 6] [0, 2, 5, 7, 11] (L' := [(0, v0), (2, .int .i64 (wi (r1 - r10))), (5, .pointer (some ⟨b19, 0, none⟩)), (7, .pointer (some ⟨b22, 0, none⟩)), (11, .bool (decide (a1 < 0)))]) (w' := w23) (by kernel_rfl) ?_
  refine WR.split 11 (b := decide (a1 < 0)) (by kernel_rfl) (fun hb25 => ?_) (fun hb25 => ?_)
  · replace H := ite_t H hb25
    refine WR.runk [3, 4, 5, 6] [] [0, 5, 7, 15] (L' := [(0, v0), (5, .pointer (some ⟨b19, 0, none⟩)), (7, .pointer (some ⟨b22, 0, none⟩)), (15, .bool true)]) (w' := w23) (by kernel_rfl) ?_
    refine WR.nil ?_
    refine At.go ?_
    refine WC.condT (by kernel_rfl) (by kernel_rfl) (by kernel_rfl) ?_
    refine WC.seq (by kernel_rfl) ?_
    refine WC.reg [0] (by kernel_rfl) (by kernel_rfl) ?_
    refine WR.runk [0] [] [8] (L' := [(8, .int .i64 (-1))]) (w' := w23) (by kernel_rfl) ?_
    refine WR.nil ?_
    refine At.go ?_
    refine WC.ret (by kernel_rfl) ?_
    refine At.thenRet ?_
    refine At.bodyK [.int .i64 (-1)] (.int .i64 (-1)) (by kernel_rfl) rfl ?_
    refine WR.runk [10] [] [4] (L' := [(4, .int .i64 (-1))]) (w' := w23) (by kernel_rfl) ?_
    refine WR.nil ?_
    refine At.go ?_
    refine WC.ret (by kernel_rfl) ?_
    obtain rfl := Option.some.inj H
    have hS : Sat w23 (rf w0) [] := hS.sel [] (by kernel_rfl)
    exact At.body [.int .i64 (-1)] (by kernel_rfl) ⟨_, rfl, rfl, hS⟩
  · replace H := ite_f H hb25
    refine WR.runk [] [3, 4, 5, 6] [0, 2, 5, 7, 11] (L' := [(0, v0), (2, .int .i64 (wi (r1 - r10))), (5, .pointer (some ⟨b19, 0, none⟩)), (7, .pointer (some ⟨b22, 0, none⟩)), (11, .bool false)]) (w' := w23) (by kernel_rfl) ?_
    refine WR.st (St.ofR (RSt.loadObj (t := 3) (k := 0) (v := .int .i64 a1) (.tmp 5) (by kernel_rfl) (by kernel_rfl) (by kernel_rfl) 1 hS rfl (by kernel_rfl) rfl ?_))
    refine WR.runk [4, 5, 6] [] [0, 5, 7, 15] (L' := [(0, v0), (5, .pointer (some ⟨b19, 0, none⟩)), (7, .pointer (some ⟨b22, 0, none⟩)), (15, .bool (decide (a1 ≥ wi (r1 - r10))))]) (w' := w23) (by kernel_rfl) ?_
    refine WR.nil ?_
    refine At.go ?_
    refine WC.cond (by kernel_rfl) (decide (a1 ≥ wi (r1 - r10))) (by kernel_rfl) (by kernel_rfl) (fun hb26 => ?_) (fun hb26 => ?_)
    · replace H := ite_t H hb26
      refine WC.seq (by kernel_rfl) ?_
      refine WC.reg [0] (by kernel_rfl) (by kernel_rfl) ?_
      refine WR.runk [0] [] [8] (L' := [(8, .int .i64 (-1))]) (w' := w23) (by kernel_rfl) ?_
      refine WR.nil ?_
      refine At.go ?_
      refine WC.ret (by kernel_rfl) ?_
      refine At.thenRet ?_
      refine At.bodyK [.int .i64 (-1)] (.int .i64 (-1)) (by kernel_rfl) rfl ?_
      refine WR.runk [10] [] [4] (L' := [(4, .int .i64 (-1))]) (w' := w23) (by kernel_rfl) ?_
      refine WR.nil ?_
      refine At.go ?_
      refine WC.ret (by kernel_rfl) ?_
      obtain rfl := Option.some.inj H
      have hS : Sat w23 (rf w0) [] := hS.sel [] (by kernel_rfl)
      exact At.body [.int .i64 (-1)] (by kernel_rfl) ⟨_, rfl, rfl, hS⟩
    · replace H := ite_f H hb26
      refine WC.skip (by kernel_rfl) ?_
      refine At.go ?_
      refine WC.seq (by kernel_rfl) ?_
      refine WC.reg [0, 1, 2, 3, 4, 5, 6] (by kernel_rfl) (by kernel_rfl) ?_
      refine WR.runk [0] [1, 2, 3, 4, 5, 6] [5, 7, 16] (L' := [(5, .pointer (some ⟨b19, 0, none⟩)), (7, .pointer (some ⟨b22, 0, none⟩)), (16, v0)]) (w' := w23) (by kernel_rfl) ?_
      obtain ⟨y29, hr27, H⟩ := bind_ex H
      obtain ⟨b30, fr31, A35, c36, A38, c39, hv32, hb33, R37, R40⟩ := P76.open R0 hr27
      have R34 := R0
      rw [hv32, hr27] at R34
      try subst hv32
      replace R37 : rdS (r0 (.int .u64)) 1 (hp w0) A35 c36 y29.2.1 := R37
      replace R40 : rdS (r0 (.int .i64)) 1 (hp w0) A38 c39 y29.2.2.1 := R40
      refine WR.runk [1, 2] [3, 4, 5, 6] [5, 7, 18] (L' := [(5, .pointer (some ⟨b19, 0, none⟩)), (7, .pointer (some ⟨b22, 0, none⟩)), (18, .pointer (some ⟨b30, 0, none⟩))]) (w' := w23) (by kernel_rfl) ?_
      refine WR.st (St.ofR (RSt.loadRo (t := 3) (k := 0) (v := .int .i64 y29.1) (.tmp 18) (by kernel_rfl) (by kernel_rfl) (by kernel_rfl) hS.sub0 hb33 (by kernel_rfl) rfl ?_))
      refine WR.runk [4] [5, 6] [19, 20] (L' := [(19, .int .i64 y29.1), (20, .func (.func 50) #[] #[.pointer (some ⟨b22, 0, none⟩), .pointer (some ⟨b19, 0, none⟩)])]) (w' := w23) (by kernel_rfl) ?_
      refine WR.st (St.call (by kernel_rfl) (f := 49) (args := #[.int .i64 y29.1, .func (.func 50) #[] #[.pointer (some ⟨b22, 0, none⟩), .pointer (some ⟨b19, 0, none⟩)]]) (by kernel_rfl) (calls_of_WC (vs := [.int .i64 y29.1, .func (.func 50) #[] #[.pointer (some ⟨b22, 0, none⟩), .pointer (some ⟨b19, 0, none⟩)]]) Try.func49 (c := C49) (n := 26) (by kernel_rfl) (by kernel_rfl) (by kernel_rfl) ?_) (fun _ _ h => h))
      refine WC.seq (by kernel_rfl) ?_
      refine WC.reg [0] (by kernel_rfl) (by kernel_rfl) ?_
      refine WR.runk [0] [] [0, 1] (L' := [(0, .int .i64 y29.1), (1, .func (.func 50) #[] #[.pointer (some ⟨b22, 0, none⟩), .pointer (some ⟨b19, 0, none⟩)])]) (w' := w23) (by kernel_rfl) ?_
      refine WR.nil ?_
      refine At.go ?_
      refine WC.seq (by kernel_rfl) ?_
      refine WC.reg [0, 1, 2] (by kernel_rfl) (by kernel_rfl) ?_
      refine WR.runk [0, 1, 2] [] [1, 5, 6] (L' := [(1, .func (.func 50) #[] #[.pointer (some ⟨b22, 0, none⟩), .pointer (some ⟨b19, 0, none⟩)]), (5, .int .i64 0), (6, .int .i64 y29.1)]) (w' := w23) (by kernel_rfl) ?_
      refine WR.nil ?_
      refine At.go ?_
      refine WC.seq (by kernel_rfl) ?_
      refine WC.block (by kernel_rfl) ?_
      have hS : Sat w23 (rf w0) [pts b22 (.cells #[.func (.func 48) #[.pointer (some ⟨b30, 0, none⟩)] #[]] 30 (0, 0)), pts b19 (.cells #[.int .i64 a1] 3 (0, 0))] := hS.sel [0, 1] (by kernel_rfl)
      obtain ⟨o54, e55, H⟩ := bind_ex H
      refine WC.loop (by kernel_rfl) ?_
      refine WL.weaken [1, 5, 6] (L' := [(1, .func (.func 50) #[] #[.pointer (some ⟨b22, 0, none⟩), .pointer (some ⟨b19, 0, none⟩)]), (5, .int .i64 0), (6, .int .i64 y29.1)]) (by kernel_rfl) ?_
      refine rank_Vec_SelectZero.l1_ok w0 a1 b19 b22 y29 b30 R34 o54 (fun w57 hS => ?_) FU 0 y29.1 _ hS e55
      refine At.hit ?_
      refine At.go ?_
      refine WC.seq (by kernel_rfl) ?_
      refine WC.reg [0, 1] (by kernel_rfl) (by kernel_rfl) ?_
      refine WR.runk [0, 1] [] [4] (L' := [(4, .int .i64 o54)]) (w' := w57) (by kernel_rfl) ?_
      refine WR.nil ?_
      refine At.go ?_
      refine WC.ret (by kernel_rfl) ?_
      refine At.bodyK [.int .i64 o54] (.int .i64 o54) (by kernel_rfl) rfl ?_
      refine WR.runk [6] [] [8] (L' := [(8, .int .i64 o54)]) (w' := w57) (by kernel_rfl) ?_
      refine WR.nil ?_
      refine At.go ?_
      refine WC.ret (by kernel_rfl) ?_
      refine At.bodyK [.int .i64 o54] (.int .i64 o54) (by kernel_rfl) rfl ?_
      refine WR.runk [10] [] [4] (L' := [(4, .int .i64 o54)]) (w' := w57) (by kernel_rfl) ?_
      refine WR.nil ?_
      refine At.go ?_
      refine WC.ret (by kernel_rfl) ?_
      obtain rfl := Option.some.inj H
      have hS : Sat w57 (rf w0) [] := hS.sel [] (by kernel_rfl)
      exact At.body [.int .i64 o54] (by kernel_rfl) ⟨_, rfl, rfl, hS⟩
/-! ### 23 (*colophon/tally.Tally).ahead -/
def tally_Tally_ahead.f (p0 : Option (Int × (Option (Int × (List Int) × (List Int) × Int)))) (a1 : Int) : Option Int := (if (a1 == 0) then some 0 else (p0.bind fun y4 => ((rank_Vec_SelectZero.f y4.2 (wi (a1 - 1))).bind fun r12 => some (wi ((wi (r12 - a1)) + 1)))))
def tally_Tally_ahead.post (w : World) (r : Int) (v : Value) (w' : World) : Prop := v = (.int .i64 r : Value) ∧ Sat w' (rf w) []
theorem tally_Tally_ahead.calls (w0 : World) (v0 : Value) (p0 : Option (Int × (Option (Int × (List Int) × (List Int) × Int)))) (R0 : rd (hp w0) (.ptr 58 (.pair (.int .i64) (.ptr 76 (.pair (.int .i64) (.pair (.slice 55 (.int .u64)) (.pair (.slice 3 (.int .i64)) (.int .i64))))))) [v0] p0) (a1 : Int) (r : Int) (H : tally_Tally_ahead.f p0 a1 = some r) :
    Calls Try.prog 23 #[v0, .int .i64 a1] w0 (fun e w' => ∃ v, e = .returned v ∧ tally_Tally_ahead.post w0 r v w') := by
  have hS : Sat w0 (rf w0) [] := Sat.start w0
  unfold tally_Tally_ahead.f at H
  refine calls_of_WC (vs := [v0, .int .i64 a1]) Try.func23 (c := C23) (n := 17) (by kernel_rfl) (by kernel_rfl) (by kernel_rfl) ?_
  refine WC.seq (by kernel_rfl) ?_
  refine WC.reg [0] (by kernel_rfl) (by kernel_rfl) ?_
  refine WR.runk [0] [] [0, 1] (L' := [(0, v0), (1, .int .i64 a1)]) (w' := w0) (by kernel_rfl) ?_
  refine WR.nil ?_
  refine At.go ?_
  refine WC.seq (by kernel_rfl) ?_
  refine WC.seq (by kernel_rfl) ?_
  refine WC.reg [0, 1] (by kernel_rfl) (by kernel_rfl) ?_
  refine WR.runk [0, 1] [] [0, 1, 6] (L' := [(0, v0), (1, .int .i64 a1), (6, .bool (a1 == 0))]) (w' := w0) (by kernel_rfl) ?_
  refine WR.nil ?_
  refine At.go ?_
  refine WC.cond (by kernel_rfl) (a1 == 0) (by kernel_rfl) (by kernel_rfl) (fun hb1 => ?_) (fun hb1 => ?_)
  · replace H := ite_t H hb1
    refine WC.seq (by kernel_rfl) ?_
    refine WC.reg [0] (by kernel_rfl) (by kernel_rfl) ?_
    refine WR.runk [0] [] [4] (L' := [(4, .int .i64 0)]) (w' := w0) (by kernel_rfl) ?_
    refine WR.nil ?_
    refine At.go ?_
    refine WC.ret (by kernel_rfl) ?_
    refine At.thenRet ?_
    obtain rfl := Option.some.inj H
    have hS : Sat w0 (rf w0) [] := hS.sel [] (by kernel_rfl)
    exact At.body [.int .i64 0] (by kernel_rfl) ⟨_, rfl, rfl, hS⟩
  · replace H := ite_f H hb1
    refine WC.skip (by kernel_rfl) ?_
    refine At.go ?_
    refine WC.seq (by kernel_rfl) ?_
    refine WC.reg [0, 1, 2, 3, 4, 5, 6, 7, 8, 9, 10] (by kernel_rfl) (by kernel_rfl) ?_
    refine WR.runk [0] [1, 2, 3, 4, 5, 6, 7, 8, 9, 10] [1, 7] (L' := [(1, .int .i64 a1), (7, v0)]) (w' := w0) (by kernel_rfl) ?_
    obtain ⟨y4, hr2, H⟩ := bind_ex H
    obtain ⟨b5, fr6, u10, hv7, hb8, R11⟩ := P58.open R0 hr2
    have R9 := R0
    rw [hv7, hr2] at R9
    try subst hv7
    replace R11 : rd (hp w0) (.ptr 76 (.pair (.int .i64) (.pair (.slice 55 (.int .u64)) (.pair (.slice 3 (.int .i64)) (.int .i64))))) [u10] y4.2 := R11
    refine WR.runk [1, 2] [3, 4, 5, 6, 7, 8, 9, 10] [1, 9] (L' := [(1, .int .i64 a1), (9, .pointer (some ⟨b5, 1, none⟩))]) (w' := w0) (by kernel_rfl) ?_
    refine WR.st (St.ofR (RSt.loadRo (t := 56) (k := 1) (v := u10) (.tmp 9) (by kernel_rfl) (by kernel_rfl) (by kernel_rfl) hS.sub0 hb8 (by kernel_rfl) rfl ?_))
    refine WR.runk [4, 5] [6, 7, 8, 9, 10] [1, 10, 12] (L' := [(1, .int .i64 a1), (10, u10), (12, .int .i64 (wi (a1 - 1)))]) (w' := w0) (by kernel_rfl) ?_
    obtain ⟨r12, e13, H⟩ := bind_ex H
    refine WR.st (St.call (by kernel_rfl) (f := 39) (args := #[u10, .int .i64 (wi (a1 - 1))]) (by kernel_rfl) (rank_Vec_SelectZero.calls w0 (u10) y4.2 (rd.mono hS.sub0 _ _ _ R11) (wi (a1 - 1)) r12 e13) ?_)
    rintro _ w19 ⟨rfl, hS20⟩
    have hS : Sat w19 (rf w0) [] := hS.ext hS20
    refine WR.runk [7, 8, 9, 10] [] [4] (L' := [(4, .int .i64 (wi ((wi (r12 - a1)) + 1)))]) (w' := w19) (by kernel_rfl) ?_
    refine WR.nil ?_
    refine At.go ?_
    refine WC.ret (by kernel_rfl) ?_
    obtain rfl := Option.some.inj H
    have hS : Sat w19 (rf w0) [] := hS.sel [] (by kernel_rfl)
    exact At.body [.int .i64 (wi ((wi (r12 - a1)) + 1))] (by kernel_rfl) ⟨_, rfl, rfl, hS⟩
/-! ### 11 (*colophon/tally.Tally).Docs -/
def tally_Tally_Docs.f (p0 : Option (Int × (Option (Int × (List Int) × (List Int) × Int)))) (a1 : Int) (a2 : Int) : Option Int := (match p0 with | none => some 0 | some y3 => (if decide (a1 < 0) then some 0 else (if decide (a1 ≥ a2) then some 0 else (if decide (a2 > y3.1) then some 0 else ((tally_Tally_ahead.f (some y3) a2).bind fun r14 => ((tally_Tally_ahead.f (some y3) (wi (a1 + 1))).bind fun r23 => some (wi ((wi (a2 - a1)) - (wi (r14 - r23))))))))))
def tally_Tally_Docs.post (w : World) (r : Int) (v : Value) (w' : World) : Prop := v = (.int .i64 r : Value) ∧ Sat w' (rf w) []
theorem tally_Tally_Docs.calls (w0 : World) (v0 : Value) (p0 : Option (Int × (Option (Int × (List Int) × (List Int) × Int)))) (R0 : rd (hp w0) (.ptr 58 (.pair (.int .i64) (.ptr 76 (.pair (.int .i64) (.pair (.slice 55 (.int .u64)) (.pair (.slice 3 (.int .i64)) (.int .i64))))))) [v0] p0) (a1 : Int) (a2 : Int) (r : Int) (H : tally_Tally_Docs.f p0 a1 a2 = some r) :
    Calls Try.prog 11 #[v0, .int .i64 a1, .int .i64 a2] w0 (fun e w' => ∃ v, e = .returned v ∧ tally_Tally_Docs.post w0 r v w') := by
  have hS : Sat w0 (rf w0) [] := Sat.start w0
  unfold tally_Tally_Docs.f at H
  refine calls_of_WC (vs := [v0, .int .i64 a1, .int .i64 a2]) Try.func11 (c := C11) (n := 38) (by kernel_rfl) (by kernel_rfl) (by kernel_rfl) ?_
  refine WC.seq (by kernel_rfl) ?_
  refine WC.reg [0] (by kernel_rfl) (by kernel_rfl) ?_
  refine WR.runk [0] [] [0, 1, 2] (L' := [(0, v0), (1, .int .i64 a1), (2, .int .i64 a2)]) (w' := w0) (by kernel_rfl) ?_
  refine WR.nil ?_
  refine At.go ?_
  refine WC.seq (by kernel_rfl) ?_
  refine WC.seq (by kernel_rfl) ?_
  refine WC.reg [0, 1, 2, 3, 4, 5, 6, 7, 8, 9, 10, 11, 12, 13, 14, 15, 16, 17, 18] (by kernel_rfl) (by kernel_rfl) ?_
  refine WR.runk [0] [1, 2, 3, 4, 5, 6, 7, 8, 9, 10, 11, 12, 13, 14, 15, 16, 17, 18] [0, 1, 2, 7] (L' := [(0, v0), (1, .int .i64 a1), (2, .int .i64 a2), (7, v0)]) (w' := w0) (by kernel_rfl) ?_
  rcases opt_cases p0 with hr1 | ⟨y3, hr1⟩
  · rw [hr1] at H
    dsimp only at H
    have hx2 := rd_ptr_none R0 hr1
    try subst hx2
    refine WR.runk [1, 2, 3, 4, 5, 6, 7, 8, 9, 10, 11, 12, 13, 14, 15, 16, 17, 18] [] [0, 1, 2, 25] (L' := [(0, .pointer none), (1, .int .i64 a1), (2, .int .i64 a2), (25, .bool true)]) (w' := w0) (by kernel_rfl) ?_
    refine WR.nil ?_
    refine At.go ?_
    refine WC.condT (by kernel_rfl) (by kernel_rfl) (by kernel_rfl) ?_
    refine WC.seq (by kernel_rfl) ?_
    refine WC.reg [0] (by kernel_rfl) (by kernel_rfl) ?_
    refine WR.runk [0] [] [6] (L' := [(6, .int .i64 0)]) (w' := w0) (by kernel_rfl) ?_
    refine WR.nil ?_
    refine At.go ?_
    refine WC.ret (by kernel_rfl) ?_
    refine At.thenRet ?_
    obtain rfl := Option.some.inj H
    have hS : Sat w0 (rf w0) [] := hS.sel [] (by kernel_rfl)
    exact At.body [.int .i64 0] (by kernel_rfl) ⟨_, rfl, rfl, hS⟩
  · rw [hr1] at H
    dsimp only at H
    obtain ⟨b4, fr5, u9, hv6, hb7, R10⟩ := P58.open R0 hr1
    have R8 := R0
    rw [hv6, hr1] at R8
    try subst hv6
    replace R10 : rd (hp w0) (.ptr 76 (.pair (.int .i64) (.pair (.slice 55 (.int .u64)) (.pair (.slice 3 (.int .i64)) (.int .i64))))) [u9] y3.2 := R10
    refine WR.runk [1, 2, 3, 4, 5, 6] [7, 8, 9, 10, 11, 12, 13, 14, 15, 16, 17, 18] [0, 1, 2, 13] (L' := [(0, .pointer (some ⟨b4, 0, none⟩)), (1, .int .i64 a1), (2, .int .i64 a2), (13, .bool (decide (a1 < 0)))]) (w' := w0) (by kernel_rfl) ?_
    refine WR.split 13 (b := decide (a1 < 0)) (by kernel_rfl) (fun hb11 => ?_) (fun hb11 => ?_)
    · replace H := ite_t H hb11
      refine WR.runk [7, 8, 9, 10, 11, 12, 13, 14, 15, 16, 17, 18] [] [0, 1, 2, 25] (L' := [(0, .pointer (some ⟨b4, 0, none⟩)), (1, .int .i64 a1), (2, .int .i64 a2), (25, .bool true)]) (w' := w0) (by kernel_rfl) ?_
      refine WR.nil ?_
      refine At.go ?_
      refine WC.condT (by kernel_rfl) (by kernel_rfl) (by kernel_rfl) ?_
      refine WC.seq (by kernel_rfl) ?_
      refine WC.reg [0] (by kernel_rfl) (by kernel_rfl) ?_
      refine WR.runk [0] [] [6] (L' := [(6, .int .i64 0)]) (w' := w0) (by kernel_rfl) ?_
      refine WR.nil ?_
      refine At.go ?_
      refine WC.ret (by kernel_rfl) ?_
      refine At.thenRet ?_
      obtain rfl := Option.some.inj H
      have hS : Sat w0 (rf w0) [] := hS.sel [] (by kernel_rfl)
      exact At.body [.int .i64 0] (by kernel_rfl) ⟨_, rfl, rfl, hS⟩
    · replace H := ite_f H hb11
      refine WR.runk [7, 8, 9, 10, 11] [12, 13, 14, 15, 16, 17, 18] [0, 1, 2, 18] (L' := [(0, .pointer (some ⟨b4, 0, none⟩)), (1, .int .i64 a1), (2, .int .i64 a2), (18, .bool (decide (a1 ≥ a2)))]) (w' := w0) (by kernel_rfl) ?_
      refine WR.split 18 (b := decide (a1 ≥ a2)) (by kernel_rfl) (fun hb12 => ?_) (fun hb12 => ?_)
      · replace H := ite_t H hb12
        refine WR.runk [12, 13, 14, 15, 16, 17, 18] [] [0, 1, 2, 25] (L' := [(0, .pointer (some ⟨b4, 0, none⟩)), (1, .int .i64 a1), (2, .int .i64 a2), (25, .bool true)]) (w' := w0) (by kernel_rfl) ?_
        refine WR.nil ?_
        refine At.go ?_
        refine WC.condT (by kernel_rfl) (by kernel_rfl) (by kernel_rfl) ?_
        refine WC.seq (by kernel_rfl) ?_
        refine WC.reg [0] (by kernel_rfl) (by kernel_rfl) ?_
        refine WR.runk [0] [] [6] (L' := [(6, .int .i64 0)]) (w' := w0) (by kernel_rfl) ?_
        refine WR.nil ?_
        refine At.go ?_
        refine WC.ret (by kernel_rfl) ?_
        refine At.thenRet ?_
        obtain rfl := Option.some.inj H
        have hS : Sat w0 (rf w0) [] := hS.sel [] (by kernel_rfl)
        exact At.body [.int .i64 0] (by kernel_rfl) ⟨_, rfl, rfl, hS⟩
      · replace H := ite_f H hb12
        refine WR.runk [12, 13, 14, 15] [16, 17, 18] [0, 1, 2, 18, 19, 22] (L' := [(0, .pointer (some ⟨b4, 0, none⟩)), (1, .int .i64 a1), (2, .int .i64 a2), (18, .bool false), (19, .int .i64 a2), (22, .pointer (some ⟨b4, 0, none⟩))]) (w' := w0) (by kernel_rfl) ?_
        refine WR.st (St.ofR (RSt.loadRo (t := 3) (k := 0) (v := .int .i64 y3.1) (.tmp 22) (by kernel_rfl) (by kernel_rfl) (by kernel_rfl) hS.sub0 hb7 (by kernel_rfl) rfl ?_))
        refine WR.runk [17, 18] [] [0, 1, 2, 25] (L' := [(0, .pointer (some ⟨b4, 0, none⟩)), (1, .int .i64 a1), (2, .int .i64 a2), (25, .bool (decide (a2 > y3.1)))]) (w' := w0) (by kernel_rfl) ?_
        refine WR.nil ?_
        refine At.go ?_
        refine WC.cond (by kernel_rfl) (decide (a2 > y3.1)) (by kernel_rfl) (by kernel_rfl) (fun hb13 => ?_) (fun hb13 => ?_)
        · replace H := ite_t H hb13
          refine WC.seq (by kernel_rfl) ?_
          refine WC.reg [0] (by kernel_rfl) (by kernel_rfl) ?_
          refine WR.runk [0] [] [6] (L' := [(6, .int .i64 0)]) (w' := w0) (by kernel_rfl) ?_
          refine WR.nil ?_
          refine At.go ?_
          refine WC.ret (by kernel_rfl) ?_
          refine At.thenRet ?_
          obtain rfl := Option.some.inj H
          have hS : Sat w0 (rf w0) [] := hS.sel [] (by kernel_rfl)
          exact At.body [.int .i64 0] (by kernel_rfl) ⟨_, rfl, rfl, hS⟩
        · replace H := ite_f H hb13
          refine WC.skip (by kernel_rfl) ?_
          refine At.go ?_
          refine WC.seq (by kernel_rfl) ?_
          refine WC.reg [0, 1, 2, 3, 4, 5, 6, 7, 8, 9, 10, 11, 12] (by kernel_rfl) (by kernel_rfl) ?_
          refine WR.runk [0, 1, 2, 3, 4] [5, 6, 7, 8, 9, 10, 11, 12] [0, 1, 28, 29, 30] (L' := [(0, .pointer (some ⟨b4, 0, none⟩)), (1, .int .i64 a1), (28, .int .i64 (wi (a2 - a1))), (29, .pointer (some ⟨b4, 0, none⟩)), (30, .int .i64 a2)]) (w' := w0) (by kernel_rfl) ?_
          obtain ⟨r14, e15, H⟩ := bind_ex H
          refine WR.st (St.call (by kernel_rfl) (f := 23) (args := #[.pointer (some ⟨b4, 0, none⟩), .int .i64 a2]) (by kernel_rfl) (tally_Tally_ahead.calls w0 (.pointer (some ⟨b4, 0, none⟩)) (some y3) (rd.mono hS.sub0 _ _ _ R8) a2 r14 e15) ?_)
          rintro _ w21 ⟨rfl, hS22⟩
          have hS : Sat w21 (rf w0) [] := hS.ext hS22
          refine WR.runk [6, 7, 8] [9, 10, 11, 12] [28, 31, 32, 34] (L' := [(28, .int .i64 (wi (a2 - a1))), (31, .int .i64 r14), (32, .pointer (some ⟨b4, 0, none⟩)), (34, .int .i64 (wi (a1 + 1)))]) (w' := w21) (by kernel_rfl) ?_
          obtain ⟨r23, e24, H⟩ := bind_ex H
          refine WR.st (St.call (by kernel_rfl) (f := 23) (args := #[.pointer (some ⟨b4, 0, none⟩), .int .i64 (wi (a1 + 1))]) (by kernel_rfl) (tally_Tally_ahead.calls w21 (.pointer (some ⟨b4, 0, none⟩)) (some y3) (rd.mono hS.sub0 _ _ _ R8) (wi (a1 + 1)) r23 e24) ?_)
          rintro _ w30 ⟨rfl, hS31⟩
          have hS : Sat w30 (rf w0) [] := hS.ext hS31
          refine WR.runk [10, 11, 12] [] [6] (L' := [(6, .int .i64 (wi ((wi (a2 - a1)) - (wi (r14 - r23)))))]) (w' := w30) (by kernel_rfl) ?_
          refine WR.nil ?_
          refine At.go ?_
          refine WC.ret (by kernel_rfl) ?_
          obtain rfl := Option.some.inj H
          have hS : Sat w30 (rf w0) [] := hS.sel [] (by kernel_rfl)
          exact At.body [.int .i64 (wi ((wi (a2 - a1)) - (wi (r14 - r23))))] (by kernel_rfl) ⟨_, rfl, rfl, hS⟩
/-! ### 10 (*colophon/tally.Tally).Doubles -/
def tally_Tally_Doubles.f (p0 : Option (Int × (Option (Int × (List Int) × (List Int) × Int)))) (a1 : Int) : Option Int := (match p0 with | none => some 0 | some y3 => (if decide (a1 < 0) then some 0 else (if decide (a1 ≥ y3.1) then some 0 else ((tally_Tally_ahead.f (some y3) (wi (a1 + 1))).bind fun r13 => ((tally_Tally_ahead.f (some y3) a1).bind fun r22 => some (wi (r13 - r22)))))))
def tally_Tally_Doubles.post (w : World) (r : Int) (v : Value) (w' : World) : Prop := v = (.int .i64 r : Value) ∧ Sat w' (rf w) []
theorem tally_Tally_Doubles.calls (w0 : World) (v0 : Value) (p0 : Option (Int × (Option (Int × (List Int) × (List Int) × Int)))) (R0 : rd (hp w0) (.ptr 58 (.pair (.int .i64) (.ptr 76 (.pair (.int .i64) (.pair (.slice 55 (.int .u64)) (.pair (.slice 3 (.int .i64)) (.int .i64))))))) [v0] p0) (a1 : Int) (r : Int) (H : tally_Tally_Doubles.f p0 a1 = some r) :
    Calls Try.prog 10 #[v0, .int .i64 a1] w0 (fun e w' => ∃ v, e = .returned v ∧ tally_Tally_Doubles.post w0 r v w') := by
  have hS : Sat w0 (rf w0) [] := Sat.start w0
  unfold tally_Tally_Doubles.f at H
  refine calls_of_WC (vs := [v0, .int .i64 a1]) Try.func10 (c := C10) (n := 27) (by kernel_rfl) (by kernel_rfl) (by kernel_rfl) ?_
  refine WC.seq (by kernel_rfl) ?_
  refine WC.reg [0] (by kernel_rfl) (by kernel_rfl) ?_
  refine WR.runk [0] [] [0, 1] (L' := [(0, v0), (1, .int .i64 a1)]) (w' := w0) (by kernel_rfl) ?_
  refine WR.nil ?_
  refine At.go ?_
  refine WC.seq (by kernel_rfl) ?_
  refine WC.seq (by kernel_rfl) ?_
  refine WC.reg [0, 1, 2, 3, 4, 5, 6, 7, 8, 9, 10, 11, 12, 13] (by kernel_rfl) (by kernel_rfl) ?_
  refine WR.runk [0] [1, 2, 3, 4, 5, 6, 7, 8, 9, 10, 11, 12, 13] [0, 1, 5] (L' := [(0, v0), (1, .int .i64 a1), (5, v0)]) (w' := w0) (by kernel_rfl) ?_
  rcases opt_cases p0 with hr1 | ⟨y3, hr1⟩
  · rw [hr1] at H
    dsimp only at H
    have hx2 := rd_ptr_none R0 hr1
    try subst hx2
    refine WR.runk [1, 2, 3, 4, 5, 6, 7, 8, 9, 10, 11, 12, 13] [] [0, 1, 18] (L' := [(0, .pointer none), (1, .int .i64 a1), (18, .bool true)]) (w' := w0) (by kernel_rfl) ?_
    refine WR.nil ?_
    refine At.go ?_
    refine WC.condT (by kernel_rfl) (by kernel_rfl) (by kernel_rfl) ?_
    refine WC.seq (by kernel_rfl) ?_
    refine WC.reg [0] (by kernel_rfl) (by kernel_rfl) ?_
    refine WR.runk [0] [] [4] (L' := [(4, .int .i64 0)]) (w' := w0) (by kernel_rfl) ?_
    refine WR.nil ?_
    refine At.go ?_
    refine WC.ret (by kernel_rfl) ?_
    refine At.thenRet ?_
    obtain rfl := Option.some.inj H
    have hS : Sat w0 (rf w0) [] := hS.sel [] (by kernel_rfl)
    exact At.body [.int .i64 0] (by kernel_rfl) ⟨_, rfl, rfl, hS⟩
  · rw [hr1] at H
    dsimp only at H
    obtain ⟨b4, fr5, u9, hv6, hb7, R10⟩ := P58.open R0 hr1
    have R8 := R0
    rw [hv6, hr1] at R8
    try subst hv6
    replace R10 : rd (hp w0) (.ptr 76 (.pair (.int .i64) (.pair (.slice 55 (.int .u64)) (.pair (.slice 3 (.int .i64)) (.int .i64))))) [u9] y3.2 := R10
    refine WR.runk [1, 2, 3, 4, 5, 6] [7, 8, 9, 10, 11, 12, 13] [0, 1, 11] (L' := [(0, .pointer (some ⟨b4, 0, none⟩)), (1, .int .i64 a1), (11, .bool (decide (a1 < 0)))]) (w' := w0) (by kernel_rfl) ?_
    refine WR.split 11 (b := decide (a1 < 0)) (by kernel_rfl) (fun hb11 => ?_) (fun hb11 => ?_)
    · replace H := ite_t H hb11
      refine WR.runk [7, 8, 9, 10, 11, 12, 13] [] [0, 1, 18] (L' := [(0, .pointer (some ⟨b4, 0, none⟩)), (1, .int .i64 a1), (18, .bool true)]) (w' := w0) (by kernel_rfl) ?_
      refine WR.nil ?_
      refine At.go ?_
      refine WC.condT (by kernel_rfl) (by kernel_rfl) (by kernel_rfl) ?_
      refine WC.seq (by kernel_rfl) ?_
      refine WC.reg [0] (by kernel_rfl) (by kernel_rfl) ?_
      refine WR.runk [0] [] [4] (L' := [(4, .int .i64 0)]) (w' := w0) (by kernel_rfl) ?_
      refine WR.nil ?_
      refine At.go ?_
      refine WC.ret (by kernel_rfl) ?_
      refine At.thenRet ?_
      obtain rfl := Option.some.inj H
      have hS : Sat w0 (rf w0) [] := hS.sel [] (by kernel_rfl)
      exact At.body [.int .i64 0] (by kernel_rfl) ⟨_, rfl, rfl, hS⟩
    · replace H := ite_f H hb11
      refine WR.runk [7, 8, 9, 10] [11, 12, 13] [0, 1, 11, 12, 15] (L' := [(0, .pointer (some ⟨b4, 0, none⟩)), (1, .int .i64 a1), (11, .bool false), (12, .int .i64 a1), (15, .pointer (some ⟨b4, 0, none⟩))]) (w' := w0) (by kernel_rfl) ?_
      refine WR.st (St.ofR (RSt.loadRo (t := 3) (k := 0) (v := .int .i64 y3.1) (.tmp 15) (by kernel_rfl) (by kernel_rfl) (by kernel_rfl) hS.sub0 hb7 (by kernel_rfl) rfl ?_))
      refine WR.runk [12, 13] [] [0, 1, 18] (L' := [(0, .pointer (some ⟨b4, 0, none⟩)), (1, .int .i64 a1), (18, .bool (decide (a1 ≥ y3.1)))]) (w' := w0) (by kernel_rfl) ?_
      refine WR.nil ?_
      refine At.go ?_
      refine WC.cond (by kernel_rfl) (decide (a1 ≥ y3.1)) (by kernel_rfl) (by kernel_rfl) (fun hb12 => ?_) (fun hb12 => ?_)
      · replace H := ite_t H hb12
        refine WC.seq (by kernel_rfl) ?_
        refine WC.reg [0] (by kernel_rfl) (by kernel_rfl) ?_
        refine WR.runk [0] [] [4] (L' := [(4, .int .i64 0)]) (w' := w0) (by kernel_rfl) ?_
        refine WR.nil ?_
        refine At.go ?_
        refine WC.ret (by kernel_rfl) ?_
        refine At.thenRet ?_
        obtain rfl := Option.some.inj H
        have hS : Sat w0 (rf w0) [] := hS.sel [] (by kernel_rfl)
        exact At.body [.int .i64 0] (by kernel_rfl) ⟨_, rfl, rfl, hS⟩
      · replace H := ite_f H hb12
        refine WC.skip (by kernel_rfl) ?_
        refine At.go ?_
        refine WC.seq (by kernel_rfl) ?_
        refine WC.reg [0, 1, 2, 3, 4, 5, 6, 7, 8] (by kernel_rfl) (by kernel_rfl) ?_
        refine WR.runk [0, 1, 2] [3, 4, 5, 6, 7, 8] [0, 1, 19, 21] (L' := [(0, .pointer (some ⟨b4, 0, none⟩)), (1, .int .i64 a1), (19, .pointer (some ⟨b4, 0, none⟩)), (21, .int .i64 (wi (a1 + 1)))]) (w' := w0) (by kernel_rfl) ?_
        obtain ⟨r13, e14, H⟩ := bind_ex H
        refine WR.st (St.call (by kernel_rfl) (f := 23) (args := #[.pointer (some ⟨b4, 0, none⟩), .int .i64 (wi (a1 + 1))]) (by kernel_rfl) (tally_Tally_ahead.calls w0 (.pointer (some ⟨b4, 0, none⟩)) (some y3) (rd.mono hS.sub0 _ _ _ R8) (wi (a1 + 1)) r13 e14) ?_)
        rintro _ w20 ⟨rfl, hS21⟩
        have hS : Sat w20 (rf w0) [] := hS.ext hS21
        refine WR.runk [4, 5] [6, 7, 8] [22, 23, 24] (L' := [(22, .int .i64 r13), (23, .pointer (some ⟨b4, 0, none⟩)), (24, .int .i64 a1)]) (w' := w20) (by kernel_rfl) ?_
        obtain ⟨r22, e23, H⟩ := bind_ex H
        refine WR.st (St.call (by kernel_rfl) (f := 23) (args := #[.pointer (some ⟨b4, 0, none⟩), .int .i64 a1]) (by kernel_rfl) (tally_Tally_ahead.calls w20 (.pointer (some ⟨b4, 0, none⟩)) (some y3) (rd.mono hS.sub0 _ _ _ R8) a1 r22 e23) ?_)
        rintro _ w29 ⟨rfl, hS30⟩
        have hS : Sat w29 (rf w0) [] := hS.ext hS30
        refine WR.runk [7, 8] [] [4] (L' := [(4, .int .i64 (wi (r13 - r22)))]) (w' := w29) (by kernel_rfl) ?_
        refine WR.nil ?_
        refine At.go ?_
        refine WC.ret (by kernel_rfl) ?_
        obtain rfl := Option.some.inj H
        have hS : Sat w29 (rf w0) [] := hS.sel [] (by kernel_rfl)
        exact At.body [.int .i64 (wi (r13 - r22))] (by kernel_rfl) ⟨_, rfl, rfl, hS⟩
/-! ### 7 colophon/colophonlaw16.first -/
def colophonlaw16_first.f : Option Bool := ((tally_New.f ([0, 1, 0, 0, 1] : List Int) ([0, 0, 0, 2, 1] : List Int)).bind fun r5 => ((tally_New.f ([0] : List Int) ([] : List Int)).bind fun r17 => (match r5.1 with | none => some false | some y27 => (if (r5.2 == 0) then (if (r17.2 == 2) then ((tally_Tally_Docs.f (some y27) 2 5).bind fun r34 => (if (r34 == 2) then ((tally_Tally_Doubles.f (some y27) 3).bind fun r44 => (if (r44 == 1) then ((tally_Tally_Doubles.f (some y27) 0).bind fun r54 => some (r54 == 0)) else some false)) else some false)) else some false) else some false))))
def colophonlaw16_first.post (w : World) (r : Bool) (v : Value) (w' : World) : Prop := v = (.bool r : Value) ∧ Sat w' (rf w) []
theorem colophonlaw16_first.calls (w0 : World) (r : Bool) (H : colophonlaw16_first.f = some r) :
    Calls Try.prog 7 #[] w0 (fun e w' => ∃ v, e = .returned v ∧ colophonlaw16_first.post w0 r v w') := by
  have hS : Sat w0 (rf w0) [] := Sat.start w0
  unfold colophonlaw16_first.f at H
  refine calls_of_WC (vs := []) Try.func7 (c := C7) (n := 41) (by kernel_rfl) (by kernel_rfl) (by kernel_rfl) ?_
  refine WC.seq (by kernel_rfl) ?_
  refine WC.reg [0] (by kernel_rfl) (by kernel_rfl) ?_
  refine WR.runk [0] [] [] (L' := []) (w' := w0) (by kernel_rfl) ?_
  refine WR.nil ?_
  refine At.go ?_
  refine WC.seq (by kernel_rfl) ?_
  refine WC.reg [0, 1, 2, 3, 4, 5, 6, 7] (by kernel_rfl) (by kernel_rfl) ?_
  refine WR.st (St.box hS (by kernel_rfl) (.cells #[.int .i64 0, .int .i64 1, .int .i64 0, .int .i64 0, .int .i64 1] 3) (fun b1 => .slice (some ⟨b1, 0, none⟩) 5 5) (fun _ => by kernel_rfl) (fun b1 w2 hS => ?_))
  refine WR.runk [] [1, 2, 3, 4, 5, 6, 7] [6] (L' := [(6, .slice (some ⟨b1, 0, none⟩) 5 5)]) (w' := w2) (by kernel_rfl) ?_
  refine WR.st (St.box hS (by kernel_rfl) (.cells #[.int .i64 0, .int .i64 0, .int .i64 0, .int .i64 2, .int .i64 1] 3) (fun b3 => .slice (some ⟨b3, 0, none⟩) 5 5) (fun _ => by kernel_rfl) (fun b3 w4 hS => ?_))
  refine WR.runk [] [2, 3, 4, 5, 6, 7] [6, 7] (L' := [(6, .slice (some ⟨b1, 0, none⟩) 5 5), (7, .slice (some ⟨b3, 0, none⟩) 5 5)]) (w' := w4) (by kernel_rfl) ?_
  obtain ⟨r5, e6, H⟩ := bind_ex H
  refine WR.st (St.call (by kernel_rfl) (f := 8) (args := #[.slice (some ⟨b1, 0, none⟩) 5 5, .slice (some ⟨b3, 0, none⟩) 5 5]) (by kernel_rfl) (tally_New.calls w4 (some ⟨b1, 0, none⟩) 5 ([0, 1, 0, 0, 1] : List Int) (Sat.ptsAt 1 (r0 (.int .i64)) 1 ([0, 1, 0, 0, 1] : List Int) hS rfl rfl (rdL.cons1 rfl (rdL.cons1 rfl (rdL.cons1 rfl (rdL.cons1 rfl (rdL.cons1 rfl (rdL.nil _ _))))))) (some ⟨b3, 0, none⟩) 5 ([0, 0, 0, 2, 1] : List Int) (Sat.ptsAt 0 (r0 (.int .i64)) 1 ([0, 0, 0, 2, 1] : List Int) hS rfl rfl (rdL.cons1 rfl (rdL.cons1 rfl (rdL.cons1 rfl (rdL.cons1 rfl (rdL.cons1 rfl (rdL.nil _ _))))))) r5 e6) ?_)
  rintro _ w12 ⟨pv14, rfl, hS13⟩
  have hS : Sat w12 (rf w0) [optP O58 pv14 r5.1, pts b3 (.cells #[.int .i64 0, .int .i64 0, .int .i64 0, .int .i64 2, .int .i64 1] 3 (0, 0)), pts b1 (.cells #[.int .i64 0, .int .i64 1, .int .i64 0, .int .i64 0, .int .i64 1] 3 (0, 0))] := hS.ext hS13
  refine WR.runk [3, 4, 5, 6, 7] [] [1, 2] (L' := [(1, pv14), (2, .int .i64 r5.2)]) (w' := w12) (by kernel_rfl) ?_
  refine WR.nil ?_
  refine At.go ?_
  refine WC.seq (by kernel_rfl) ?_
  refine WC.reg [0, 1, 2, 3, 4, 5, 6] (by kernel_rfl) (by kernel_rfl) ?_
  refine WR.st (St.box hS (by kernel_rfl) (.cells #[.int .i64 0] 3) (fun b15 => .slice (some ⟨b15, 0, none⟩) 1 1) (fun _ => by kernel_rfl) (fun b15 w16 hS => ?_))
  refine WR.runk [] [1, 2, 3, 4, 5, 6] [1, 2, 12] (L' := [(1, pv14), (2, .int .i64 r5.2), (12, .slice (some ⟨b15, 0, none⟩) 1 1)]) (w' := w16) (by kernel_rfl) ?_
  obtain ⟨r17, e18, H⟩ := bind_ex H
  refine WR.st (St.call (by kernel_rfl) (f := 8) (args := #[.slice (some ⟨b15, 0, none⟩) 1 1, .slice none 0 0]) (by kernel_rfl) (tally_New.calls w16 (some ⟨b15, 0, none⟩) 1 ([0] : List Int) (Sat.ptsAt 0 (r0 (.int .i64)) 1 ([0] : List Int) hS rfl rfl (rdL.cons1 rfl (rdL.nil _ _))) none 0 ([] : List Int) (rdS.nil _ _ _) r17 e18) ?_)
  rintro _ w24 ⟨pv26, rfl, hS25⟩
  have hS : Sat w24 (rf w0) [optP O58 pv26 r17.1, pts b15 (.cells #[.int .i64 0] 3 (0, 0)), optP O58 pv14 r5.1, pts b3 (.cells #[.int .i64 0, .int .i64 0, .int .i64 0, .int .i64 2, .int .i64 1] 3 (0, 0)), pts b1 (.cells #[.int .i64 0, .int .i64 1, .int .i64 0, .int .i64 0, .int .i64 1] 3 (0, 0))] := hS.ext hS25
  refine WR.runk [2, 3, 4, 5, 6] [] [1, 2, 4] (L' := [(1, pv14), (2, .int .i64 r5.2), (4, .int .i64 r17.2)]) (w' := w24) (by kernel_rfl) ?_
  refine WR.nil ?_
  refine At.go ?_
  refine WC.seq (by kernel_rfl) ?_
  refine WC.reg [0, 1, 2, 3, 4, 5, 6, 7, 8, 9, 10, 11, 12, 13, 14, 15, 16, 17, 18, 19, 20, 21, 22, 23, 24, 25] (by kernel_rfl) (by kernel_rfl) ?_
  refine WR.runk [0] [1, 2, 3, 4, 5, 6, 7, 8, 9, 10, 11, 12, 13, 14, 15, 16, 17, 18, 19, 20, 21, 22, 23, 24, 25] [1, 2, 4, 16] (L' := [(1, pv14), (2, .int .i64 r5.2), (4, .int .i64 r17.2), (16, pv14)]) (w' := w24) (by kernel_rfl) ?_
  have hS : Sat w24 (rf w0) [optP O58 pv14 r5.1, optP O58 pv26 r17.1, pts b15 (.cells #[.int .i64 0] 3 (0, 0)), pts b3 (.cells #[.int .i64 0, .int .i64 0, .int .i64 0, .int .i64 2, .int .i64 1] 3 (0, 0)), pts b1 (.cells #[.int .i64 0, .int .i64 1, .int .i64 0, .int .i64 0, .int .i64 1] 3 (0, 0))] := hS.sel [2, 0, 1, 3, 4] (by kernel_rfl)
  rcases hr28 : r5.1 with _ | y27
  · rw [hr28] at H
    dsimp only at H
    have hv29 := optP.none hS hr28
    subst hv29
    have hS : Sat w24 (rf w0) [optP O58 pv26 r17.1, pts b15 (.cells #[.int .i64 0] 3 (0, 0)), pts b3 (.cells #[.int .i64 0, .int .i64 0, .int .i64 0, .int .i64 2, .int .i64 1] 3 (0, 0)), pts b1 (.cells #[.int .i64 0, .int .i64 1, .int .i64 0, .int .i64 0, .int .i64 1] 3 (0, 0))] := hS.sel [1, 2, 3, 4] (by kernel_rfl)
    refine WR.runk [1, 2, 3, 4, 5, 6, 7, 8, 9, 10, 11, 12, 13, 14, 15, 16, 17, 18, 19, 20, 21, 22, 23, 24, 25] [] [0] (L' := [(0, .bool false)]) (w' := w24) (by kernel_rfl) ?_
    refine WR.nil ?_
    refine At.go ?_
    refine WC.ret (by kernel_rfl) ?_
    obtain rfl := Option.some.inj H
    have hS : Sat w24 (rf w0) [] := hS.sel [] (by kernel_rfl)
    exact At.body [.bool false] (by kernel_rfl) ⟨_, rfl, rfl, hS⟩
  · rw [hr28] at H
    dsimp only at H
    obtain ⟨b30, hv29, hN63⟩ := optP.some hS hr28
    subst hv29
    have hS : Sat w24 (rf w0) [O58 b30 y27, optP O58 pv26 r17.1, pts b15 (.cells #[.int .i64 0] 3 (0, 0)), pts b3 (.cells #[.int .i64 0, .int .i64 0, .int .i64 0, .int .i64 2, .int .i64 1] 3 (0, 0)), pts b1 (.cells #[.int .i64 0, .int .i64 1, .int .i64 0, .int .i64 0, .int .i64 1] 3 (0, 0))] := hN63
    refine WR.runk [1, 2, 3, 4, 5, 6] [7, 8, 9, 10, 11, 12, 13, 14, 15, 16, 17, 18, 19, 20, 21, 22, 23, 24, 25] [1, 4, 22] (L' := [(1, .pointer (some ⟨b30, 0, none⟩)), (4, .int .i64 r17.2), (22, .bool (r5.2 == 0))]) (w' := w24) (by kernel_rfl) ?_
    refine WR.split 22 (b := (r5.2 == 0)) (by kernel_rfl) (fun hb32 => ?_) (fun hb32 => ?_)
    · replace H := ite_t H hb32
      refine WR.runk [7, 8, 9, 10] [11, 12, 13, 14, 15, 16, 17, 18, 19, 20, 21, 22, 23, 24, 25] [1, 26] (L' := [(1, .pointer (some ⟨b30, 0, none⟩)), (26, .bool (r17.2 == 2))]) (w' := w24) (by kernel_rfl) ?_
      refine WR.split 26 (b := (r17.2 == 2)) (by kernel_rfl) (fun hb33 => ?_) (fun hb33 => ?_)
      · replace H := ite_t H hb33
        refine WR.runk [11] [12, 13, 14, 15, 16, 17, 18, 19, 20, 21, 22, 23, 24, 25] [1, 26, 27] (L' := [(1, .pointer (some ⟨b30, 0, none⟩)), (26, .bool true), (27, .pointer (some ⟨b30, 0, none⟩))]) (w' := w24) (by kernel_rfl) ?_
        obtain ⟨r34, e35, H⟩ := bind_ex H
        refine WR.st (St.call (by kernel_rfl) (f := 11) (args := #[.pointer (some ⟨b30, 0, none⟩), .int .i64 2, .int .i64 5]) (by kernel_rfl) (tally_Tally_Docs.calls w24 (.pointer (some ⟨b30, 0, none⟩)) (some y27) (Sat.rdAny 0 hS rfl (fun _ h => O58.rd _ _ _ h)) 2 5 r34 e35) ?_)
        rintro _ w41 ⟨rfl, hS42⟩
        have hS : Sat w41 (rf w0) [O58 b30 y27, optP O58 pv26 r17.1, pts b15 (.cells #[.int .i64 0] 3 (0, 0)), pts b3 (.cells #[.int .i64 0, .int .i64 0, .int .i64 0, .int .i64 2, .int .i64 1] 3 (0, 0)), pts b1 (.cells #[.int .i64 0, .int .i64 1, .int .i64 0, .int .i64 0, .int .i64 1] 3 (0, 0))] := hS.ext hS42
        refine WR.runk [13, 14, 15] [16, 17, 18, 19, 20, 21, 22, 23, 24, 25] [1, 31] (L' := [(1, .pointer (some ⟨b30, 0, none⟩)), (31, .bool (r34 == 2))]) (w' := w41) (by kernel_rfl) ?_
        refine WR.split 31 (b := (r34 == 2)) (by kernel_rfl) (fun hb43 => ?_) (fun hb43 => ?_)
        · replace H := ite_t H hb43
          refine WR.runk [16] [17, 18, 19, 20, 21, 22, 23, 24, 25] [1, 31, 32] (L' := [(1, .pointer (some ⟨b30, 0, none⟩)), (31, .bool true), (32, .pointer (some ⟨b30, 0, none⟩))]) (w' := w41) (by kernel_rfl) ?_
          obtain ⟨r44, e45, H⟩ := bind_ex H
          refine WR.st (St.call (by kernel_rfl) (f := 10) (args := #[.pointer (some ⟨b30, 0, none⟩), .int .i64 3]) (by kernel_rfl) (tally_Tally_Doubles.calls w41 (.pointer (some ⟨b30, 0, none⟩)) (some y27) (Sat.rdAny 0 hS rfl (fun _ h => O58.rd _ _ _ h)) 3 r44 e45) ?_)
          rintro _ w51 ⟨rfl, hS52⟩
          have hS : Sat w51 (rf w0) [O58 b30 y27, optP O58 pv26 r17.1, pts b15 (.cells #[.int .i64 0] 3 (0, 0)), pts b3 (.cells #[.int .i64 0, .int .i64 0, .int .i64 0, .int .i64 2, .int .i64 1] 3 (0, 0)), pts b1 (.cells #[.int .i64 0, .int .i64 1, .int .i64 0, .int .i64 0, .int .i64 1] 3 (0, 0))] := hS.ext hS52
          refine WR.runk [18, 19, 20] [21, 22, 23, 24, 25] [1, 36] (L' := [(1, .pointer (some ⟨b30, 0, none⟩)), (36, .bool (r44 == 1))]) (w' := w51) (by kernel_rfl) ?_
          refine WR.split 36 (b := (r44 == 1)) (by kernel_rfl) (fun hb53 => ?_) (fun hb53 => ?_)
          · replace H := ite_t H hb53
            refine WR.runk [21] [22, 23, 24, 25] [36, 37] (L' := [(36, .bool true), (37, .pointer (some ⟨b30, 0, none⟩))]) (w' := w51) (by kernel_rfl) ?_
            obtain ⟨r54, e55, H⟩ := bind_ex H
            refine WR.st (St.call (by kernel_rfl) (f := 10) (args := #[.pointer (some ⟨b30, 0, none⟩), .int .i64 0]) (by kernel_rfl) (tally_Tally_Doubles.calls w51 (.pointer (some ⟨b30, 0, none⟩)) (some y27) (Sat.rdAny 0 hS rfl (fun _ h => O58.rd _ _ _ h)) 0 r54 e55) ?_)
            rintro _ w61 ⟨rfl, hS62⟩
            have hS : Sat w61 (rf w0) [O58 b30 y27, optP O58 pv26 r17.1, pts b15 (.cells #[.int .i64 0] 3 (0, 0)), pts b3 (.cells #[.int .i64 0, .int .i64 0, .int .i64 0, .int .i64 2, .int .i64 1] 3 (0, 0)), pts b1 (.cells #[.int .i64 0, .int .i64 1, .int .i64 0, .int .i64 0, .int .i64 1] 3 (0, 0))] := hS.ext hS62
            refine WR.runk [23, 24, 25] [] [0] (L' := [(0, .bool (r54 == 0))]) (w' := w61) (by kernel_rfl) ?_
            refine WR.nil ?_
            refine At.go ?_
            refine WC.ret (by kernel_rfl) ?_
            obtain rfl := Option.some.inj H
            have hS : Sat w61 (rf w0) [] := hS.sel [] (by kernel_rfl)
            exact At.body [.bool (r54 == 0)] (by kernel_rfl) ⟨_, rfl, rfl, hS⟩
          · replace H := ite_f H hb53
            refine WR.runk [21, 22, 23, 24, 25] [] [0] (L' := [(0, .bool false)]) (w' := w51) (by kernel_rfl) ?_
            refine WR.nil ?_
            refine At.go ?_
            refine WC.ret (by kernel_rfl) ?_
            obtain rfl := Option.some.inj H
            have hS : Sat w51 (rf w0) [] := hS.sel [] (by kernel_rfl)
            exact At.body [.bool false] (by kernel_rfl) ⟨_, rfl, rfl, hS⟩
        · replace H := ite_f H hb43
          refine WR.runk [16, 17, 18, 19, 20, 21, 22, 23, 24, 25] [] [0] (L' := [(0, .bool false)]) (w' := w41) (by kernel_rfl) ?_
          refine WR.nil ?_
          refine At.go ?_
          refine WC.ret (by kernel_rfl) ?_
          obtain rfl := Option.some.inj H
          have hS : Sat w41 (rf w0) [] := hS.sel [] (by kernel_rfl)
          exact At.body [.bool false] (by kernel_rfl) ⟨_, rfl, rfl, hS⟩
      · replace H := ite_f H hb33
        refine WR.runk [11, 12, 13, 14, 15, 16, 17, 18, 19, 20, 21, 22, 23, 24, 25] [] [0] (L' := [(0, .bool false)]) (w' := w24) (by kernel_rfl) ?_
        refine WR.nil ?_
        refine At.go ?_
        refine WC.ret (by kernel_rfl) ?_
        obtain rfl := Option.some.inj H
        have hS : Sat w24 (rf w0) [] := hS.sel [] (by kernel_rfl)
        exact At.body [.bool false] (by kernel_rfl) ⟨_, rfl, rfl, hS⟩
    · replace H := ite_f H hb32
      refine WR.runk [7, 8, 9, 10, 11, 12, 13, 14, 15, 16, 17, 18, 19, 20, 21, 22, 23, 24, 25] [] [0] (L' := [(0, .bool false)]) (w' := w24) (by kernel_rfl) ?_
      refine WR.nil ?_
      refine At.go ?_
      refine WC.ret (by kernel_rfl) ?_
      obtain rfl := Option.some.inj H
      have hS : Sat w24 (rf w0) [] := hS.sel [] (by kernel_rfl)
      exact At.body [.bool false] (by kernel_rfl) ⟨_, rfl, rfl, hS⟩
end Go.Proofs.Ytmdemfbkdbilpaa
