/-
  Printed by gen.py (my own tool): for each Go function a plain Lean function and the proof that a call of it does what that function says.
-/
import Derived.Test.YthnlihpmpmhidaaGP1b
set_option linter.unusedVariables false
set_option linter.unusedSimpArgs false
set_option maxRecDepth 100000
namespace Go.Proofs.Ythnlihpmpmhidaa
open Go Go.Gol
/-! ### 3 colophon/colophonlaw12.DocsArrays -/
def colophonlaw12_DocsArrays.l1 (l0 : List (List Int)) (l1 : List Int) (r32 : (List Int) × Int) : Nat → Int → Option (Sum Bool Unit)
  | 0, _ => none
  | k + 1, x69_l1 => (if decide (x69_l1 < (l1.length : Int)) then ((at? l1 x69_l1).bind fun v72 => ((colophonref08_Doc.f l0 v72).bind fun r74 => ((at? r32.1 x69_l1).bind fun v83 => (if (v83 != r74.1) then some (.inl false) else colophonlaw12_DocsArrays.l1 l0 l1 r32 k (wi (x69_l1 + 1)))))) else some (.inr ()))
def colophonlaw12_DocsArrays.f (l0 : List (List Int)) (l1 : List Int) : Option Bool := (colophonlaw12_first.f.bind fun r1 => (if (!r1) then some false else ((colophonref08_Small.f l0 400 256).bind fun r11 => (if (!r11) then some true else (if decide ((l1.length : Int) > 1000) then some true else ((text_New.f l0).bind fun r22 => ((docs_Array.f r22.1 l1).bind fun r32 => ((colophonref09_Turned.f l1).bind fun r43 => (if (!r43.2) then (if (r32.2 == 2) then some ((r32.1.length : Int) == 0) else some false) else ((colophonref08_Symbols.f l0).bind fun r56 => (if ((l1.length : Int) != (r56.length : Int)) then (if (r32.2 == 2) then some ((r32.1.length : Int) == 0) else some false) else (if (r32.2 != 0) then some false else (if ((r32.1.length : Int) != (l1.length : Int)) then some false else ((colophonlaw12_DocsArrays.l1 l0 l1 r32 FU 0).bind fun o86 => (match o86 with | .inl o88 => some o88 | .inr o92 => some true)))))))))))))))
def colophonlaw12_DocsArrays.post (w : World) (r : Bool) (v : Value) (w' : World) : Prop := v = (.bool r : Value) ∧ Sat w' (rf w) []
theorem colophonlaw12_DocsArrays.l1_ok {Q} (w0 : World) (A0 : Option Addr) (c0 : Nat) (l0 : List (List Int)) (A1 : Option Addr) (c1 : Nat) (l1 : List Int) (r32 : (List Int) × Int) (A41 : Option Addr) (c42 : Nat) (R0 : rdS (rd (hp w0) (.slice 5 (.int .u8))) 1 (hp w0) A0 c0 l0) (R1 : rdS (r0 (.int .i64)) 1 (hp w0) A1 c1 l1) (out : Sum Bool Unit) (hn0 : ∀ (o0 : Bool) (w : World), out = (.inl o0) → Sat w (rf w0) [] → At Q .ret 87 [(4, .bool o0)] w) (hn1 : ∀ (o1 : Unit) (w : World), out = (.inr o1) → Sat w (rf w0) [] → At Q (.exit 0) 87 [] w) :
    ∀ (k : Nat) (x69_l1 : Int) (w : World), Sat w (rf w0) [osl 3 (r0 (.int .i64)) 1 A41 c42 r32.1] → colophonlaw12_DocsArrays.l1 l0 l1 r32 k x69_l1 = some out → WL Try.prog (cbody (cbody (cr (cl (cr (cr (cr (cr (cr (cr (cr C3))))))))))) Q 87 [(0, .slice A0 l0.length c0), (7, .slice A41 r32.1.length c42), (67, .slice A1 l1.length c1), (68, .int .i64 (l1.length : Int)), (69, .int .i64 x69_l1)] w := by
  intro k
  induction k with
  | zero => intro x69_l1 w hS H; exact absurd (show none = some out from H) (by simp)
  | succ k ih =>
    intro x69_l1 w hS H
    unfold colophonlaw12_DocsArrays.l1 at H
    refine WL.round ?_
    refine WC.seq (by kernel_rfl) ?_
    refine WC.reg [0] (by kernel_rfl) (by kernel_rfl) ?_
    refine WR.runk [0] [] [0, 7, 67, 68, 69, 70] (L' := [(0, .slice A0 l0.length c0), (7, .slice A41 r32.1.length c42), (67, .slice A1 l1.length c1), (68, .int .i64 (l1.length : Int)), (69, .int .i64 x69_l1), (70, .bool (decide (x69_l1 < (l1.length : Int))))]) (w' := w) (by kernel_rfl) ?_
    refine WR.nil ?_
    refine At.go ?_
    refine WC.seq (by kernel_rfl) ?_
    refine WC.cond (by kernel_rfl) (decide (x69_l1 < (l1.length : Int))) (by kernel_rfl) (by kernel_rfl) (fun hb71 => ?_) (fun hb71 => ?_)
    · replace H := ite_t H hb71
      refine WC.skip (by kernel_rfl) ?_
      refine At.go ?_
      refine WC.seq (by kernel_rfl) ?_
      refine WC.block (by kernel_rfl) ?_
      refine WC.seq (by kernel_rfl) ?_
      refine WC.reg [0, 1, 2, 3, 4] (by kernel_rfl) (by kernel_rfl) ?_
      refine WR.runk [0] [1, 2, 3, 4] [0, 7, 67, 68, 69, 71] (L' := [(0, .slice A0 l0.length c0), (7, .slice A41 r32.1.length c42), (67, .slice A1 l1.length c1), (68, .int .i64 (l1.length : Int)), (69, .int .i64 x69_l1), (71, .int .i64 x69_l1)]) (w' := w) (by kernel_rfl) ?_
      obtain ⟨v72, e73, H⟩ := bind_ex H
      refine WR.st (St.ofP (PSt.idx (k := .i64) (.tmp 67) (.tmp 69) (by kernel_rfl) (by kernel_rfl) E23 (by kernel_rfl) (by kernel_rfl) (rdS.up R1 hS.sub0) e73 ?_))
      refine WR.runk [] [2, 3, 4] [0, 7, 67, 68, 69, 71, 72] (L' := [(0, .slice A0 l0.length c0), (7, .slice A41 r32.1.length c42), (67, .slice A1 l1.length c1), (68, .int .i64 (l1.length : Int)), (69, .int .i64 x69_l1), (71, .int .i64 x69_l1), (72, .pointer (some (adr A1 x69_l1.toNat 1)))]) (w' := w) (by kernel_rfl) ?_
      refine WR.st (St.ofR (RSt.loadInt (t := 3) (.tmp 72) (by kernel_rfl) (by kernel_rfl) (by kernel_rfl) (by kernel_rfl) (rdS.up R1 hS.sub0) e73 ?_))
      refine WR.runk [3, 4] [] [0, 7, 11, 12, 67, 68, 69] (L' := [(0, .slice A0 l0.length c0), (7, .slice A41 r32.1.length c42), (11, .int .i64 x69_l1), (12, .int .i64 v72), (67, .slice A1 l1.length c1), (68, .int .i64 (l1.length : Int)), (69, .int .i64 x69_l1)]) (w' := w) (by kernel_rfl) ?_
      refine WR.nil ?_
      refine At.go ?_
      refine WC.seq (by kernel_rfl) ?_
      refine WC.reg [0, 1, 2, 3, 4, 5, 6, 7] (by kernel_rfl) (by kernel_rfl) ?_
      refine WR.runk [0, 1] [2, 3, 4, 5, 6, 7] [0, 7, 11, 67, 68, 69, 75, 76] (L' := [(0, .slice A0 l0.length c0), (7, .slice A41 r32.1.length c42), (11, .int .i64 x69_l1), (67, .slice A1 l1.length c1), (68, .int .i64 (l1.length : Int)), (69, .int .i64 x69_l1), (75, .slice A0 l0.length c0), (76, .int .i64 v72)]) (w' := w) (by kernel_rfl) ?_
      obtain ⟨r74, e75, H⟩ := bind_ex H
      refine WR.st (St.call (by kernel_rfl) (f := 13) (args := #[.slice A0 l0.length c0, .int .i64 v72]) (by kernel_rfl) (colophonref08_Doc.calls w A0 c0 l0 (rdS.upd R0 hS.sub0) v72 r74 e75) ?_)
      rintro _ w81 ⟨rfl, hS82⟩
      have hS : Sat w81 (rf w0) [osl 3 (r0 (.int .i64)) 1 A41 c42 r32.1] := hS.ext hS82
      refine WR.runk [3, 4, 5, 6, 7] [] [0, 7, 11, 13, 67, 68, 69] (L' := [(0, .slice A0 l0.length c0), (7, .slice A41 r32.1.length c42), (11, .int .i64 x69_l1), (13, .int .i64 r74.1), (67, .slice A1 l1.length c1), (68, .int .i64 (l1.length : Int)), (69, .int .i64 x69_l1)]) (w' := w81) (by kernel_rfl) ?_
      refine WR.nil ?_
      refine At.go ?_
      refine WC.seq (by kernel_rfl) ?_
      refine WC.reg [0, 1, 2, 3, 4, 5] (by kernel_rfl) (by kernel_rfl) ?_
      refine WR.runk [0, 1] [2, 3, 4, 5] [0, 7, 13, 67, 68, 69, 80, 81] (L' := [(0, .slice A0 l0.length c0), (7, .slice A41 r32.1.length c42), (13, .int .i64 r74.1), (67, .slice A1 l1.length c1), (68, .int .i64 (l1.length : Int)), (69, .int .i64 x69_l1), (80, .slice A41 r32.1.length c42), (81, .int .i64 x69_l1)]) (w' := w81) (by kernel_rfl) ?_
      obtain ⟨v83, e84, H⟩ := bind_ex H
      refine WR.st (St.ofP (PSt.idx (k := .i64) (.tmp 80) (.tmp 81) (by kernel_rfl) (by kernel_rfl) E23 (by kernel_rfl) (by kernel_rfl) (Sat.rdAt 0 hS rfl) e84 ?_))
      refine WR.runk [] [3, 4, 5] [0, 7, 13, 67, 68, 69, 82] (L' := [(0, .slice A0 l0.length c0), (7, .slice A41 r32.1.length c42), (13, .int .i64 r74.1), (67, .slice A1 l1.length c1), (68, .int .i64 (l1.length : Int)), (69, .int .i64 x69_l1), (82, .pointer (some (adr A41 x69_l1.toNat 1)))]) (w' := w81) (by kernel_rfl) ?_
      refine WR.st (St.ofR (RSt.loadInt (t := 3) (.tmp 82) (by kernel_rfl) (by kernel_rfl) (by kernel_rfl) (by kernel_rfl) (Sat.rdAt 0 hS rfl) e84 ?_))
      refine WR.runk [4, 5] [] [0, 7, 67, 68, 69, 85] (L' := [(0, .slice A0 l0.length c0), (7, .slice A41 r32.1.length c42), (67, .slice A1 l1.length c1), (68, .int .i64 (l1.length : Int)), (69, .int .i64 x69_l1), (85, .bool (v83 != r74.1))]) (w' := w81) (by kernel_rfl) ?_
      refine WR.nil ?_
      refine At.go ?_
      refine WC.cond (by kernel_rfl) (v83 != r74.1) (by kernel_rfl) (by kernel_rfl) (fun hb85 => ?_) (fun hb85 => ?_)
      · replace H := ite_t H hb85
        refine WC.seq (by kernel_rfl) ?_
        refine WC.reg [0] (by kernel_rfl) (by kernel_rfl) ?_
        refine WR.runk [0] [] [4] (L' := [(4, .bool false)]) (w' := w81) (by kernel_rfl) ?_
        refine WR.nil ?_
        refine At.go ?_
        refine WC.ret (by kernel_rfl) ?_
        refine At.blockRet ?_
        refine At.thenRet ?_
        refine At.thenRet ?_
        obtain rfl := Option.some.inj H
        have hS : Sat w81 (rf w0) [] := hS.sel [] (by kernel_rfl)
        refine At.weaken [4] (L' := [(4, .bool false)]) (by kernel_rfl) ?_
        exact hn0 false _ rfl hS
      · replace H := ite_f H hb85
        refine WC.skip (by kernel_rfl) ?_
        refine At.blockNormal ?_
        refine At.go ?_
        refine WC.reg [0, 1] (by kernel_rfl) (by kernel_rfl) ?_
        refine WR.runk [0, 1] [] [0, 7, 67, 68, 69] (L' := [(0, .slice A0 l0.length c0), (7, .slice A41 r32.1.length c42), (67, .slice A1 l1.length c1), (68, .int .i64 (l1.length : Int)), (69, .int .i64 (wi (x69_l1 + 1)))]) (w' := w81) (by kernel_rfl) ?_
        refine WR.nil ?_
        have hS : Sat w81 (rf w0) [osl 3 (r0 (.int .i64)) 1 A41 c42 r32.1] := hS.sel [0] (by kernel_rfl)
        refine At.again ?_
        refine WL.weaken [0, 7, 67, 68, 69] (L' := [(0, .slice A0 l0.length c0), (7, .slice A41 r32.1.length c42), (67, .slice A1 l1.length c1), (68, .int .i64 (l1.length : Int)), (69, .int .i64 (wi (x69_l1 + 1)))]) (by kernel_rfl) ?_
        exact ih (wi (x69_l1 + 1)) _ hS H
    · replace H := ite_f H hb71
      refine WC.exit (by kernel_rfl) ?_
      refine At.thenExit ?_
      refine At.thenExit ?_
      obtain rfl := Option.some.inj H
      have hS : Sat w (rf w0) [] := hS.sel [] (by kernel_rfl)
      refine At.weaken [] (L' := []) (by kernel_rfl) ?_
      exact hn1 () _ rfl hS
theorem colophonlaw12_DocsArrays.calls (w0 : World) (A0 : Option Addr) (c0 : Nat) (l0 : List (List Int)) (R0 : rdS (rd (hp w0) (.slice 5 (.int .u8))) 1 (hp w0) A0 c0 l0) (A1 : Option Addr) (c1 : Nat) (l1 : List Int) (R1 : rdS (r0 (.int .i64)) 1 (hp w0) A1 c1 l1) (r : Bool) (H : colophonlaw12_DocsArrays.f l0 l1 = some r) :
    Calls Try.prog 3 #[.slice A0 l0.length c0, .slice A1 l1.length c1] w0 (fun e w' => ∃ v, e = .returned v ∧ colophonlaw12_DocsArrays.post w0 r v w') := by
  have hS : Sat w0 (rf w0) [] := Sat.start w0
  unfold colophonlaw12_DocsArrays.f at H
  refine calls_of_WC (vs := [.slice A0 l0.length c0, .slice A1 l1.length c1]) Try.func3 (c := C3) (n := 87) (by kernel_rfl) (by kernel_rfl) (by kernel_rfl) ?_
  refine WC.seq (by kernel_rfl) ?_
  refine WC.reg [0] (by kernel_rfl) (by kernel_rfl) ?_
  refine WR.runk [0] [] [0, 1] (L' := [(0, .slice A0 l0.length c0), (1, .slice A1 l1.length c1)]) (w' := w0) (by kernel_rfl) ?_
  refine WR.nil ?_
  refine At.go ?_
  refine WC.seq (by kernel_rfl) ?_
  refine WC.seq (by kernel_rfl) ?_
  refine WC.reg [0, 1] (by kernel_rfl) (by kernel_rfl) ?_
  obtain ⟨r1, e2, H⟩ := bind_ex H
  refine WR.st (St.call (by kernel_rfl) (f := 7) (args := #[]) (by kernel_rfl) (colophonlaw12_first.calls w0  r1 e2) ?_)
  rintro _ w8 ⟨rfl, hS9⟩
  have hS : Sat w8 (rf w0) [] := hS.ext hS9
  refine WR.runk [1] [] [0, 1, 16] (L' := [(0, .slice A0 l0.length c0), (1, .slice A1 l1.length c1), (16, .bool (!r1))]) (w' := w8) (by kernel_rfl) ?_
  refine WR.nil ?_
  refine At.go ?_
  refine WC.cond (by kernel_rfl) (!r1) (by kernel_rfl) (by kernel_rfl) (fun hb10 => ?_) (fun hb10 => ?_)
  · replace H := ite_t H hb10
    refine WC.seq (by kernel_rfl) ?_
    refine WC.reg [0] (by kernel_rfl) (by kernel_rfl) ?_
    refine WR.runk [0] [] [4] (L' := [(4, .bool false)]) (w' := w8) (by kernel_rfl) ?_
    refine WR.nil ?_
    refine At.go ?_
    refine WC.ret (by kernel_rfl) ?_
    refine At.thenRet ?_
    obtain rfl := Option.some.inj H
    have hS : Sat w8 (rf w0) [] := hS.sel [] (by kernel_rfl)
    exact At.body [.bool false] (by kernel_rfl) ⟨_, rfl, rfl, hS⟩
  · replace H := ite_f H hb10
    refine WC.skip (by kernel_rfl) ?_
    refine At.go ?_
    refine WC.seq (by kernel_rfl) ?_
    refine WC.seq (by kernel_rfl) ?_
    refine WC.reg [0, 1, 2, 3, 4, 5, 6, 7] (by kernel_rfl) (by kernel_rfl) ?_
    refine WR.runk [0] [1, 2, 3, 4, 5, 6, 7] [0, 1, 17] (L' := [(0, .slice A0 l0.length c0), (1, .slice A1 l1.length c1), (17, .slice A0 l0.length c0)]) (w' := w8) (by kernel_rfl) ?_
    obtain ⟨r11, e12, H⟩ := bind_ex H
    refine WR.st (St.call (by kernel_rfl) (f := 8) (args := #[.slice A0 l0.length c0, .int .i64 400, .int .i64 256]) (by kernel_rfl) (colophonref08_Small.calls w8 A0 c0 l0 (rdS.upd R0 hS.sub0) 400 256 r11 e12) ?_)
    rintro _ w18 ⟨rfl, hS19⟩
    have hS : Sat w18 (rf w0) [] := hS.ext hS19
    refine WR.runk [2, 3] [4, 5, 6, 7] [0, 1, 20] (L' := [(0, .slice A0 l0.length c0), (1, .slice A1 l1.length c1), (20, .bool (!r11))]) (w' := w18) (by kernel_rfl) ?_
    refine WR.split 20 (b := (!r11)) (by kernel_rfl) (fun hb20 => ?_) (fun hb20 => ?_)
    · replace H := ite_t H hb20
      refine WR.runk [4, 5, 6, 7] [] [0, 1, 24] (L' := [(0, .slice A0 l0.length c0), (1, .slice A1 l1.length c1), (24, .bool true)]) (w' := w18) (by kernel_rfl) ?_
      refine WR.nil ?_
      refine At.go ?_
      refine WC.condT (by kernel_rfl) (by kernel_rfl) (by kernel_rfl) ?_
      refine WC.seq (by kernel_rfl) ?_
      refine WC.reg [0] (by kernel_rfl) (by kernel_rfl) ?_
      refine WR.runk [0] [] [4] (L' := [(4, .bool true)]) (w' := w18) (by kernel_rfl) ?_
      refine WR.nil ?_
      refine At.go ?_
      refine WC.ret (by kernel_rfl) ?_
      refine At.thenRet ?_
      obtain rfl := Option.some.inj H
      have hS : Sat w18 (rf w0) [] := hS.sel [] (by kernel_rfl)
      exact At.body [.bool true] (by kernel_rfl) ⟨_, rfl, rfl, hS⟩
    · replace H := ite_f H hb20
      refine WR.runk [4, 5, 6, 7] [] [0, 1, 24] (L' := [(0, .slice A0 l0.length c0), (1, .slice A1 l1.length c1), (24, .bool (decide ((l1.length : Int) > 1000)))]) (w' := w18) (by kernel_rfl) ?_
      refine WR.nil ?_
      refine At.go ?_
      refine WC.cond (by kernel_rfl) (decide ((l1.length : Int) > 1000)) (by kernel_rfl) (by kernel_rfl) (fun hb21 => ?_) (fun hb21 => ?_)
      · replace H := ite_t H hb21
        refine WC.seq (by kernel_rfl) ?_
        refine WC.reg [0] (by kernel_rfl) (by kernel_rfl) ?_
        refine WR.runk [0] [] [4] (L' := [(4, .bool true)]) (w' := w18) (by kernel_rfl) ?_
        refine WR.nil ?_
        refine At.go ?_
        refine WC.ret (by kernel_rfl) ?_
        refine At.thenRet ?_
        obtain rfl := Option.some.inj H
        have hS : Sat w18 (rf w0) [] := hS.sel [] (by kernel_rfl)
        exact At.body [.bool true] (by kernel_rfl) ⟨_, rfl, rfl, hS⟩
      · replace H := ite_f H hb21
        refine WC.skip (by kernel_rfl) ?_
        refine At.go ?_
        refine WC.seq (by kernel_rfl) ?_
        refine WC.reg [0, 1, 2, 3, 4, 5, 6] (by kernel_rfl) (by kernel_rfl) ?_
        refine WR.runk [0] [1, 2, 3, 4, 5, 6] [0, 1, 26] (L' := [(0, .slice A0 l0.length c0), (1, .slice A1 l1.length c1), (26, .slice A0 l0.length c0)]) (w' := w18) (by kernel_rfl) ?_
        obtain ⟨r22, e23, H⟩ := bind_ex H
        refine WR.st (St.call (by kernel_rfl) (f := 9) (args := #[.slice A0 l0.length c0]) (by kernel_rfl) (text_New.calls w18 A0 c0 l0 (rdS.upd R0 hS.sub0) r22 e23) ?_)
        rintro _ w29 ⟨pv31, rfl, hS30⟩
        have hS : Sat w29 (rf w0) [optP O46 pv31 r22.1] := hS.ext hS30
        refine WR.runk [2, 3, 4, 5, 6] [] [0, 1, 5] (L' := [(0, .slice A0 l0.length c0), (1, .slice A1 l1.length c1), (5, pv31)]) (w' := w29) (by kernel_rfl) ?_
        refine WR.nil ?_
        refine At.go ?_
        refine WC.seq (by kernel_rfl) ?_
        refine WC.reg [0, 1, 2, 3, 4, 5, 6, 7] (by kernel_rfl) (by kernel_rfl) ?_
        refine WR.runk [0, 1] [2, 3, 4, 5, 6, 7] [0, 1, 31, 32] (L' := [(0, .slice A0 l0.length c0), (1, .slice A1 l1.length c1), (31, pv31), (32, .slice A1 l1.length c1)]) (w' := w29) (by kernel_rfl) ?_
        obtain ⟨r32, e33, H⟩ := bind_ex H
        refine WR.st (St.call (by kernel_rfl) (f := 10) (args := #[pv31, .slice A1 l1.length c1]) (by kernel_rfl) (docs_Array.calls w29 (pv31) r22.1 (Sat.rdAny 0 hS rfl (fun _ h => optP.rdd (t := 46) (κ := (.pair (.slice 44 (.slice 5 (.int .u8))) (.pair (.slice 3 (.int .i64)) (.int .i64)))) (O := O46) O46.rd h)) A1 c1 l1 (rdS.up R1 hS.sub0) r32 e33) ?_)
        rintro _ w39 ⟨A41, c42, rfl, hS40⟩
        have hS : Sat w39 (rf w0) [osl 3 (r0 (.int .i64)) 1 A41 c42 r32.1, optP O46 pv31 r22.1] := hS.ext hS40
        refine WR.runk [3, 4, 5, 6, 7] [] [0, 1, 7, 8] (L' := [(0, .slice A0 l0.length c0), (1, .slice A1 l1.length c1), (7, .slice A41 r32.1.length c42), (8, .int .i64 r32.2)]) (w' := w39) (by kernel_rfl) ?_
        refine WR.nil ?_
        refine At.go ?_
        refine WC.seq (by kernel_rfl) ?_
        refine WC.seq (by kernel_rfl) ?_
        refine WC.reg [0, 1, 2, 3, 4, 5, 6] (by kernel_rfl) (by kernel_rfl) ?_
        refine WR.runk [0] [1, 2, 3, 4, 5, 6] [0, 1, 7, 8, 37] (L' := [(0, .slice A0 l0.length c0), (1, .slice A1 l1.length c1), (7, .slice A41 r32.1.length c42), (8, .int .i64 r32.2), (37, .slice A1 l1.length c1)]) (w' := w39) (by kernel_rfl) ?_
        obtain ⟨r43, e44, H⟩ := bind_ex H
        refine WR.st (St.call (by kernel_rfl) (f := 11) (args := #[.slice A1 l1.length c1]) (by kernel_rfl) (colophonref09_Turned.calls w39 A1 c1 l1 (rdS.up R1 hS.sub0) r43 e44) ?_)
        rintro _ w50 ⟨A52, c53, rfl, hS51⟩
        have hS : Sat w50 (rf w0) [osl 3 (r0 (.int .i64)) 1 A52 c53 r43.1, osl 3 (r0 (.int .i64)) 1 A41 c42 r32.1, optP O46 pv31 r22.1] := hS.ext hS51
        refine WR.runk [2, 3, 4, 5, 6] [] [0, 1, 7, 8, 10] (L' := [(0, .slice A0 l0.length c0), (1, .slice A1 l1.length c1), (7, .slice A41 r32.1.length c42), (8, .int .i64 r32.2), (10, .bool r43.2)]) (w' := w50) (by kernel_rfl) ?_
        refine WR.nil ?_
        refine At.go ?_
        refine WC.seq (by kernel_rfl) ?_
        refine WC.reg [0, 1, 2, 3, 4, 5, 6, 7, 8, 9] (by kernel_rfl) (by kernel_rfl) ?_
        refine WR.runk [0, 1, 2] [3, 4, 5, 6, 7, 8, 9] [0, 1, 7, 8, 43] (L' := [(0, .slice A0 l0.length c0), (1, .slice A1 l1.length c1), (7, .slice A41 r32.1.length c42), (8, .int .i64 r32.2), (43, .bool (!r43.2))]) (w' := w50) (by kernel_rfl) ?_
        refine WR.split 43 (b := (!r43.2)) (by kernel_rfl) (fun hb54 => ?_) (fun hb54 => ?_)
        · replace H := ite_t H hb54
          refine WR.runk [3, 4, 5, 6, 7, 8, 9] [] [0, 1, 7, 8, 50] (L' := [(0, .slice A0 l0.length c0), (1, .slice A1 l1.length c1), (7, .slice A41 r32.1.length c42), (8, .int .i64 r32.2), (50, .bool true)]) (w' := w50) (by kernel_rfl) ?_
          refine WR.nil ?_
          refine At.go ?_
          refine WC.condT (by kernel_rfl) (by kernel_rfl) (by kernel_rfl) ?_
          refine WC.seq (by kernel_rfl) ?_
          refine WC.reg [0, 1, 2, 3, 4, 5, 6, 7] (by kernel_rfl) (by kernel_rfl) ?_
          refine WR.runk [0, 1, 2] [3, 4, 5, 6, 7] [7, 53] (L' := [(7, .slice A41 r32.1.length c42), (53, .bool (r32.2 == 2))]) (w' := w50) (by kernel_rfl) ?_
          refine WR.split 53 (b := (r32.2 == 2)) (by kernel_rfl) (fun hb55 => ?_) (fun hb55 => ?_)
          · replace H := ite_t H hb55
            refine WR.runk [3, 4, 5, 6, 7] [] [4] (L' := [(4, .bool ((r32.1.length : Int) == 0))]) (w' := w50) (by kernel_rfl) ?_
            refine WR.nil ?_
            refine At.go ?_
            refine WC.ret (by kernel_rfl) ?_
            refine At.thenRet ?_
            obtain rfl := Option.some.inj H
            have hS : Sat w50 (rf w0) [] := hS.sel [] (by kernel_rfl)
            exact At.body [.bool ((r32.1.length : Int) == 0)] (by kernel_rfl) ⟨_, rfl, rfl, hS⟩
          · replace H := ite_f H hb55
            refine WR.runk [3, 4, 5, 6, 7] [] [4] (L' := [(4, .bool false)]) (w' := w50) (by kernel_rfl) ?_
            refine WR.nil ?_
            refine At.go ?_
            refine WC.ret (by kernel_rfl) ?_
            refine At.thenRet ?_
            obtain rfl := Option.some.inj H
            have hS : Sat w50 (rf w0) [] := hS.sel [] (by kernel_rfl)
            exact At.body [.bool false] (by kernel_rfl) ⟨_, rfl, rfl, hS⟩
        · replace H := ite_f H hb54
          refine WR.runk [3, 4, 5] [6, 7, 8, 9] [0, 1, 7, 8, 43, 45, 46] (L' := [(0, .slice A0 l0.length c0), (1, .slice A1 l1.length c1), (7, .slice A41 r32.1.length c42), (8, .int .i64 r32.2), (43, .bool false), (45, .int .i64 (l1.length : Int)), (46, .slice A0 l0.length c0)]) (w' := w50) (by kernel_rfl) ?_
          obtain ⟨r56, e57, H⟩ := bind_ex H
          refine WR.st (St.call (by kernel_rfl) (f := 12) (args := #[.slice A0 l0.length c0]) (by kernel_rfl) (colophonref08_Symbols.calls w50 A0 c0 l0 (rdS.upd R0 hS.sub0) r56 e57) ?_)
          rintro _ w63 ⟨A65, c66, rfl, hS64⟩
          have hS : Sat w63 (rf w0) [osl 3 (r0 (.int .i64)) 1 A65 c66 r56, osl 3 (r0 (.int .i64)) 1 A52 c53 r43.1, osl 3 (r0 (.int .i64)) 1 A41 c42 r32.1, optP O46 pv31 r22.1] := hS.ext hS64
          refine WR.runk [7, 8, 9] [] [0, 1, 7, 8, 50] (L' := [(0, .slice A0 l0.length c0), (1, .slice A1 l1.length c1), (7, .slice A41 r32.1.length c42), (8, .int .i64 r32.2), (50, .bool ((l1.length : Int) != (r56.length : Int)))]) (w' := w63) (by kernel_rfl) ?_
          refine WR.nil ?_
          refine At.go ?_
          refine WC.cond (by kernel_rfl) ((l1.length : Int) != (r56.length : Int)) (by kernel_rfl) (by kernel_rfl) (fun hb67 => ?_) (fun hb67 => ?_)
          · replace H := ite_t H hb67
            refine WC.seq (by kernel_rfl) ?_
            refine WC.reg [0, 1, 2, 3, 4, 5, 6, 7] (by kernel_rfl) (by kernel_rfl) ?_
            refine WR.runk [0, 1, 2] [3, 4, 5, 6, 7] [7, 53] (L' := [(7, .slice A41 r32.1.length c42), (53, .bool (r32.2 == 2))]) (w' := w63) (by kernel_rfl) ?_
            refine WR.split 53 (b := (r32.2 == 2)) (by kernel_rfl) (fun hb68 => ?_) (fun hb68 => ?_)
            · replace H := ite_t H hb68
              refine WR.runk [3, 4, 5, 6, 7] [] [4] (L' := [(4, .bool ((r32.1.length : Int) == 0))]) (w' := w63) (by kernel_rfl) ?_
              refine WR.nil ?_
              refine At.go ?_
              refine WC.ret (by kernel_rfl) ?_
              refine At.thenRet ?_
              obtain rfl := Option.some.inj H
              have hS : Sat w63 (rf w0) [] := hS.sel [] (by kernel_rfl)
              exact At.body [.bool ((r32.1.length : Int) == 0)] (by kernel_rfl) ⟨_, rfl, rfl, hS⟩
            · replace H := ite_f H hb68
              refine WR.runk [3, 4, 5, 6, 7] [] [4] (L' := [(4, .bool false)]) (w' := w63) (by kernel_rfl) ?_
              refine WR.nil ?_
              refine At.go ?_
              refine WC.ret (by kernel_rfl) ?_
              refine At.thenRet ?_
              obtain rfl := Option.some.inj H
              have hS : Sat w63 (rf w0) [] := hS.sel [] (by kernel_rfl)
              exact At.body [.bool false] (by kernel_rfl) ⟨_, rfl, rfl, hS⟩
          · replace H := ite_f H hb67
            refine WC.skip (by kernel_rfl) ?_
            refine At.go ?_
            refine WC.seq (by kernel_rfl) ?_
            refine WC.seq (by kernel_rfl) ?_
            refine WC.reg [0, 1, 2, 3, 4, 5, 6, 7, 8] (by kernel_rfl) (by kernel_rfl) ?_
            refine WR.runk [0, 1, 2] [3, 4, 5, 6, 7, 8] [0, 1, 7, 60] (L' := [(0, .slice A0 l0.length c0), (1, .slice A1 l1.length c1), (7, .slice A41 r32.1.length c42), (60, .bool (r32.2 != 0))]) (w' := w63) (by kernel_rfl) ?_
            refine WR.split 60 (b := (r32.2 != 0)) (by kernel_rfl) (fun hb69 => ?_) (fun hb69 => ?_)
            · replace H := ite_t H hb69
              refine WR.runk [3, 4, 5, 6, 7, 8] [] [0, 1, 7, 66] (L' := [(0, .slice A0 l0.length c0), (1, .slice A1 l1.length c1), (7, .slice A41 r32.1.length c42), (66, .bool true)]) (w' := w63) (by kernel_rfl) ?_
              refine WR.nil ?_
              refine At.go ?_
              refine WC.condT (by kernel_rfl) (by kernel_rfl) (by kernel_rfl) ?_
              refine WC.seq (by kernel_rfl) ?_
              refine WC.reg [0] (by kernel_rfl) (by kernel_rfl) ?_
              refine WR.runk [0] [] [4] (L' := [(4, .bool false)]) (w' := w63) (by kernel_rfl) ?_
              refine WR.nil ?_
              refine At.go ?_
              refine WC.ret (by kernel_rfl) ?_
              refine At.thenRet ?_
              obtain rfl := Option.some.inj H
              have hS : Sat w63 (rf w0) [] := hS.sel [] (by kernel_rfl)
              exact At.body [.bool false] (by kernel_rfl) ⟨_, rfl, rfl, hS⟩
            · replace H := ite_f H hb69
              refine WR.runk [3, 4, 5, 6, 7, 8] [] [0, 1, 7, 66] (L' := [(0, .slice A0 l0.length c0), (1, .slice A1 l1.length c1), (7, .slice A41 r32.1.length c42), (66, .bool ((r32.1.length : Int) != (l1.length : Int)))]) (w' := w63) (by kernel_rfl) ?_
              refine WR.nil ?_
              refine At.go ?_
              refine WC.cond (by kernel_rfl) ((r32.1.length : Int) != (l1.length : Int)) (by kernel_rfl) (by kernel_rfl) (fun hb70 => ?_) (fun hb70 => ?_)
              · replace H := ite_t H hb70
                refine WC.seq (by kernel_rfl) ?_
                refine WC.reg [0] (by kernel_rfl) (by kernel_rfl) ?_
                refine WR.runk [0] [] [4] (L' := [(4, .bool false)]) (w' := w63) (by kernel_rfl) ?_
                refine WR.nil ?_
                refine At.go ?_
                refine WC.ret (by kernel_rfl) ?_
                refine At.thenRet ?_
                obtain rfl := Option.some.inj H
                have hS : Sat w63 (rf w0) [] := hS.sel [] (by kernel_rfl)
                exact At.body [.bool false] (by kernel_rfl) ⟨_, rfl, rfl, hS⟩
              · replace H := ite_f H hb70
                refine WC.skip (by kernel_rfl) ?_
                refine At.go ?_
                refine WC.seq (by kernel_rfl) ?_
                refine WC.seq (by kernel_rfl) ?_
                refine WC.reg [0, 1, 2] (by kernel_rfl) (by kernel_rfl) ?_
                refine WR.runk [0, 1, 2] [] [0, 7, 67, 68, 69] (L' := [(0, .slice A0 l0.length c0), (7, .slice A41 r32.1.length c42), (67, .slice A1 l1.length c1), (68, .int .i64 (l1.length : Int)), (69, .int .i64 0)]) (w' := w63) (by kernel_rfl) ?_
                refine WR.nil ?_
                refine At.go ?_
                refine WC.block (by kernel_rfl) ?_
                have hS : Sat w63 (rf w0) [osl 3 (r0 (.int .i64)) 1 A41 c42 r32.1] := hS.sel [2] (by kernel_rfl)
                obtain ⟨o86, e87, H⟩ := bind_ex H
                refine WC.loop (by kernel_rfl) ?_
                refine WL.weaken [0, 7, 67, 68, 69] (L' := [(0, .slice A0 l0.length c0), (7, .slice A41 r32.1.length c42), (67, .slice A1 l1.length c1), (68, .int .i64 (l1.length : Int)), (69, .int .i64 0)]) (by kernel_rfl) ?_
                refine colophonlaw12_DocsArrays.l1_ok w0 A0 c0 l0 A1 c1 l1 r32 A41 c42 R0 R1 o86 (fun o88 w90 ho91 hS => ?_) (fun o92 w94 ho95 hS => ?_) FU 0 _ hS e87
                · subst ho91
                  dsimp only at H
                  refine At.blockRet ?_
                  refine At.thenRet ?_
                  obtain rfl := Option.some.inj H
                  have hS : Sat w90 (rf w0) [] := hS.sel [] (by kernel_rfl)
                  exact At.body [.bool o88] (by kernel_rfl) ⟨_, rfl, rfl, hS⟩
                · subst ho95
                  dsimp only at H
                  refine At.hit ?_
                  refine At.go ?_
                  refine WC.seq (by kernel_rfl) ?_
                  refine WC.reg [0] (by kernel_rfl) (by kernel_rfl) ?_
                  refine WR.runk [0] [] [4] (L' := [(4, .bool true)]) (w' := w94) (by kernel_rfl) ?_
                  refine WR.nil ?_
                  refine At.go ?_
                  refine WC.ret (by kernel_rfl) ?_
                  obtain rfl := Option.some.inj H
                  have hS : Sat w94 (rf w0) [] := hS.sel [] (by kernel_rfl)
                  exact At.body [.bool true] (by kernel_rfl) ⟨_, rfl, rfl, hS⟩
end Go.Proofs.Ythnlihpmpmhidaa
