/-
  Printed by gen.py (my own tool): for each Go function a plain Lean function and the proof that a call of it does what that function says.
-/
import Derived.Test.YtmdemfbkdbilpaaGP1c
set_option linter.unusedVariables false
set_option linter.unusedSimpArgs false
set_option maxRecDepth 100000
namespace Go.Proofs.Ytmdemfbkdbilpaa
open Go Go.Gol
/-! ### 4 colophon/colophonlaw16.TallyDocs -/
def colophonlaw16_TallyDocs.l1 (l0 : List (List Int)) (l1 : List Int) : Nat → (List Int) → Int → Option (List Int)
  | 0, _, _ => none
  | k + 1, x10_l1, x44_l1 => (if decide (x44_l1 < (l1.length : Int)) then ((at? l1 x44_l1).bind fun v54 => ((app? 17592186044416 x10_l1 ([wi ((wi v54) + (l0.length : Int))] : List Int)).bind fun y59 => colophonlaw16_TallyDocs.l1 l0 l1 k y59 (wi (x44_l1 + 1)))) else some x10_l1)
def colophonlaw16_TallyDocs.f (l0 : List (List Int)) (l1 : List Int) : Option Bool := (colophonlaw16_first.f.bind fun r1 => (if (!r1) then some false else ((colophonref08_Small.f l0 250 60).bind fun r11 => (if (!r11) then some true else (if ((l1.length : Int) == 0) then some true else (if decide ((l1.length : Int) > 60) then some true else ((colophonlaw16_Parts.f l0).bind fun r23 => ((tally_New.f r23.1 r23.2.1).bind fun r38 => (r38.1.bind fun y48 => ((colophonlaw16_TallyDocs.l1 l0 l1 FU ([] : List Int) 0).bind fun o63 => ((colophonref08_Symbols.f l0).bind fun r68 => ((colophonref15_Range.f r68 r23.2.2 o63).bind fun r79 => (if (r38.2 == 0) then ((tally_Tally_Docs.f (some y48) r79.1 r79.2).bind fun r89 => ((colophonref16_Unlike.f r23.1 r79.1 r79.2).bind fun r98 => some (r89 == r98))) else some false)))))))))))))
def colophonlaw16_TallyDocs.post (w : World) (r : Bool) (v : Value) (w' : World) : Prop := v = (.bool r : Value) ∧ Sat w' (rf w) []
theorem colophonlaw16_TallyDocs.l1_ok {Q} (w0 : World) (A0 : Option Addr) (c0 : Nat) (l0 : List (List Int)) (A1 : Option Addr) (c1 : Nat) (l1 : List Int) (r23 : (List Int) × (List Int) × (List Int)) (A32 : Option Addr) (c33 : Nat) (A36 : Option Addr) (c37 : Nat) (r38 : (Option (Int × (Option (Int × (List Int) × (List Int) × Int)))) × Int) (y48 : Int × (Option (Int × (List Int) × (List Int) × Int))) (b51 : Nat) (R1 : rdS (r0 (.int .u8)) 1 (hp w0) A1 c1 l1) (out : (List Int)) (hn0 : ∀ (A10_q : Option Addr) (c10_q : Nat) (w : World), Sat w (rf w0) [osl 3 (r0 (.int .i64)) 1 A32 c33 r23.1, osl 3 (r0 (.int .i64)) 1 A36 c37 r23.2.2, osl 3 (r0 (.int .i64)) 1 A10_q c10_q out, O58 b51 y48] → At Q (.exit 0) 78 [(0, .slice A0 l0.length c0), (5, .slice A32 r23.1.length c33), (7, .slice A36 r23.2.2.length c37), (8, .pointer (some ⟨b51, 0, none⟩)), (9, .int .i64 r38.2), (10, .slice A10_q out.length c10_q)] w) :
    ∀ (k : Nat) (x10_l1 : List Int) (x44_l1 : Int) (A10_l1 : Option Addr) (c10_l1 : Nat) (w : World), Sat w (rf w0) [osl 3 (r0 (.int .i64)) 1 A32 c33 r23.1, osl 3 (r0 (.int .i64)) 1 A36 c37 r23.2.2, osl 3 (r0 (.int .i64)) 1 A10_l1 c10_l1 x10_l1, O58 b51 y48] → colophonlaw16_TallyDocs.l1 l0 l1 k x10_l1 x44_l1 = some out → WL Try.prog (cbody (cbody (cr (cl (cr (cr (cr (cr (cr (cr C4)))))))))) Q 78 [(0, .slice A0 l0.length c0), (5, .slice A32 r23.1.length c33), (7, .slice A36 r23.2.2.length c37), (8, .pointer (some ⟨b51, 0, none⟩)), (9, .int .i64 r38.2), (10, .slice A10_l1 x10_l1.length c10_l1), (42, .slice A1 l1.length c1), (43, .int .i64 (l1.length : Int)), (44, .int .i64 x44_l1)] w := by
  intro k
  induction k with
  | zero => intro x10_l1 x44_l1 A10_l1 c10_l1 w hS H; exact absurd (show none = some out from H) (by simp)
  | succ k ih =>
    intro x10_l1 x44_l1 A10_l1 c10_l1 w hS H
    unfold colophonlaw16_TallyDocs.l1 at H
    refine WL.round ?_
    refine WC.seq (by kernel_rfl) ?_
    refine WC.reg [0] (by kernel_rfl) (by kernel_rfl) ?_
    refine WR.runk [0] [] [0, 5, 7, 8, 9, 10, 42, 43, 44, 45] (L' := [(0, .slice A0 l0.length c0), (5, .slice A32 r23.1.length c33), (7, .slice A36 r23.2.2.length c37), (8, .pointer (some ⟨b51, 0, none⟩)), (9, .int .i64 r38.2), (10, .slice A10_l1 x10_l1.length c10_l1), (42, .slice A1 l1.length c1), (43, .int .i64 (l1.length : Int)), (44, .int .i64 x44_l1), (45, .bool (decide (x44_l1 < (l1.length : Int))))]) (w' := w) (by kernel_rfl) ?_
    refine WR.nil ?_
    refine At.go ?_
    refine WC.seq (by kernel_rfl) ?_
    refine WC.cond (by kernel_rfl) (decide (x44_l1 < (l1.length : Int))) (by kernel_rfl) (by kernel_rfl) (fun hb53 => ?_) (fun hb53 => ?_)
    · replace H := ite_t H hb53
      refine WC.skip (by kernel_rfl) ?_
      refine At.go ?_
      refine WC.seq (by kernel_rfl) ?_
      refine WC.block (by kernel_rfl) ?_
      refine WC.seq (by kernel_rfl) ?_
      refine WC.reg [0, 1, 2] (by kernel_rfl) (by kernel_rfl) ?_
      refine WR.runk [] [0, 1, 2] [0, 5, 7, 8, 9, 10, 42, 43, 44] (L' := [(0, .slice A0 l0.length c0), (5, .slice A32 r23.1.length c33), (7, .slice A36 r23.2.2.length c37), (8, .pointer (some ⟨b51, 0, none⟩)), (9, .int .i64 r38.2), (10, .slice A10_l1 x10_l1.length c10_l1), (42, .slice A1 l1.length c1), (43, .int .i64 (l1.length : Int)), (44, .int .i64 x44_l1)]) (w' := w) (by kernel_rfl) ?_
      obtain ⟨v54, e55, H⟩ := bind_ex H
      refine WR.st (St.ofP (PSt.idx (k := .i64) (.tmp 42) (.tmp 44) (by kernel_rfl) (by kernel_rfl) E34 (by kernel_rfl) (by kernel_rfl) (rdS.up R1 hS.sub0) e55 ?_))
      refine WR.runk [] [1, 2] [0, 5, 7, 8, 9, 10, 42, 43, 44, 46] (L' := [(0, .slice A0 l0.length c0), (5, .slice A32 r23.1.length c33), (7, .slice A36 r23.2.2.length c37), (8, .pointer (some ⟨b51, 0, none⟩)), (9, .int .i64 r38.2), (10, .slice A10_l1 x10_l1.length c10_l1), (42, .slice A1 l1.length c1), (43, .int .i64 (l1.length : Int)), (44, .int .i64 x44_l1), (46, .pointer (some (adr A1 x44_l1.toNat 1)))]) (w' := w) (by kernel_rfl) ?_
      refine WR.st (St.ofR (RSt.loadInt (t := 5) (.tmp 46) (by kernel_rfl) (by kernel_rfl) (by kernel_rfl) (by kernel_rfl) (rdS.up R1 hS.sub0) e55 ?_))
      refine WR.runk [2] [] [0, 5, 7, 8, 9, 10, 12, 42, 43, 44] (L' := [(0, .slice A0 l0.length c0), (5, .slice A32 r23.1.length c33), (7, .slice A36 r23.2.2.length c37), (8, .pointer (some ⟨b51, 0, none⟩)), (9, .int .i64 r38.2), (10, .slice A10_l1 x10_l1.length c10_l1), (12, .int .u8 v54), (42, .slice A1 l1.length c1), (43, .int .i64 (l1.length : Int)), (44, .int .i64 x44_l1)]) (w' := w) (by kernel_rfl) ?_
      refine WR.nil ?_
      refine At.go ?_
      refine WC.reg [0, 1, 2, 3, 4, 5, 6, 7, 8] (by kernel_rfl) (by kernel_rfl) ?_
      refine WR.runk [0, 1, 2, 3, 4, 5] [6, 7, 8] [0, 5, 7, 8, 9, 10, 42, 43, 44, 48, 53] (L' := [(0, .slice A0 l0.length c0), (5, .slice A32 r23.1.length c33), (7, .slice A36 r23.2.2.length c37), (8, .pointer (some ⟨b51, 0, none⟩)), (9, .int .i64 r38.2), (10, .slice A10_l1 x10_l1.length c10_l1), (42, .slice A1 l1.length c1), (43, .int .i64 (l1.length : Int)), (44, .int .i64 x44_l1), (48, .slice A10_l1 x10_l1.length c10_l1), (53, .int .i64 (wi ((wi v54) + (l0.length : Int))))]) (w' := w) (by kernel_rfl) ?_
      refine WR.st (St.box hS (by kernel_rfl) (.cells #[.int .i64 (wi ((wi v54) + (l0.length : Int)))] 3) (fun b56 => .slice (some ⟨b56, 0, none⟩) 1 1) (fun _ => by kernel_rfl) (fun b56 w57 hS => ?_))
      refine WR.runk [] [7, 8] [0, 5, 7, 8, 9, 10, 42, 43, 44, 48, 54] (L' := [(0, .slice A0 l0.length c0), (5, .slice A32 r23.1.length c33), (7, .slice A36 r23.2.2.length c37), (8, .pointer (some ⟨b51, 0, none⟩)), (9, .int .i64 r38.2), (10, .slice A10_l1 x10_l1.length c10_l1), (42, .slice A1 l1.length c1), (43, .int .i64 (l1.length : Int)), (44, .int .i64 x44_l1), (48, .slice A10_l1 x10_l1.length c10_l1), (54, .slice (some ⟨b56, 0, none⟩) 1 1)]) (w' := w57) (by kernel_rfl) ?_
      have hS : Sat w57 (rf w0) [osl 3 (r0 (.int .i64)) 1 A10_l1 c10_l1 x10_l1, pts b56 (.cells #[.int .i64 (wi ((wi v54) + (l0.length : Int)))] 3 (0, 0)), osl 3 (r0 (.int .i64)) 1 A32 c33 r23.1, osl 3 (r0 (.int .i64)) 1 A36 c37 r23.2.2, O58 b51 y48] := hS.sel [3, 0, 1, 2, 4] (by kernel_rfl)
      obtain ⟨y59, e58, H⟩ := bind_ex H
      refine WR.st (St.append' (.tmp 48) (.tmp 54) (by kernel_rfl) (by kernel_rfl) E22 (r0_one _) hS (by kernel_rfl) (by kernel_rfl) (Sat.ptsAt 1 (r0 (.int .i64)) 1 ([wi ((wi v54) + (l0.length : Int))] : List Int) hS rfl rfl (rdL.cons1 rfl (rdL.nil _ _))) 17592186044416 (by kernel_rfl) (by kernel_rfl) e58 (fun A60 c61 w62 hS => ?_))
      refine WR.runk [8] [] [0, 5, 7, 8, 9, 10, 42, 43, 44] (L' := [(0, .slice A0 l0.length c0), (5, .slice A32 r23.1.length c33), (7, .slice A36 r23.2.2.length c37), (8, .pointer (some ⟨b51, 0, none⟩)), (9, .int .i64 r38.2), (10, .slice A60 y59.length c61), (42, .slice A1 l1.length c1), (43, .int .i64 (l1.length : Int)), (44, .int .i64 x44_l1)]) (w' := w62) (by kernel_rfl) ?_
      refine WR.nil ?_
      refine At.blockNormal ?_
      refine At.go ?_
      refine WC.reg [0, 1] (by kernel_rfl) (by kernel_rfl) ?_
      refine WR.runk [0, 1] [] [0, 5, 7, 8, 9, 10, 42, 43, 44] (L' := [(0, .slice A0 l0.length c0), (5, .slice A32 r23.1.length c33), (7, .slice A36 r23.2.2.length c37), (8, .pointer (some ⟨b51, 0, none⟩)), (9, .int .i64 r38.2), (10, .slice A60 y59.length c61), (42, .slice A1 l1.length c1), (43, .int .i64 (l1.length : Int)), (44, .int .i64 (wi (x44_l1 + 1)))]) (w' := w62) (by kernel_rfl) ?_
      refine WR.nil ?_
      have hS : Sat w62 (rf w0) [osl 3 (r0 (.int .i64)) 1 A32 c33 r23.1, osl 3 (r0 (.int .i64)) 1 A36 c37 r23.2.2, osl 3 (r0 (.int .i64)) 1 A60 c61 y59, O58 b51 y48] := hS.sel [2, 3, 0, 4] (by kernel_rfl)
      refine At.again ?_
      refine WL.weaken [0, 5, 7, 8, 9, 10, 42, 43, 44] (L' := [(0, .slice A0 l0.length c0), (5, .slice A32 r23.1.length c33), (7, .slice A36 r23.2.2.length c37), (8, .pointer (some ⟨b51, 0, none⟩)), (9, .int .i64 r38.2), (10, .slice A60 y59.length c61), (42, .slice A1 l1.length c1), (43, .int .i64 (l1.length : Int)), (44, .int .i64 (wi (x44_l1 + 1)))]) (by kernel_rfl) ?_
      exact ih y59 (wi (x44_l1 + 1)) A60 c61 _ hS H
    · replace H := ite_f H hb53
      refine WC.exit (by kernel_rfl) ?_
      refine At.thenExit ?_
      refine At.thenExit ?_
      obtain rfl := Option.some.inj H
      have hS : Sat w (rf w0) [osl 3 (r0 (.int .i64)) 1 A32 c33 r23.1, osl 3 (r0 (.int .i64)) 1 A36 c37 r23.2.2, osl 3 (r0 (.int .i64)) 1 A10_l1 c10_l1 x10_l1, O58 b51 y48] := hS.sel [0, 1, 2, 3] (by kernel_rfl)
      refine At.weaken [0, 5, 7, 8, 9, 10] (L' := [(0, .slice A0 l0.length c0), (5, .slice A32 r23.1.length c33), (7, .slice A36 r23.2.2.length c37), (8, .pointer (some ⟨b51, 0, none⟩)), (9, .int .i64 r38.2), (10, .slice A10_l1 x10_l1.length c10_l1)]) (by kernel_rfl) ?_
      exact hn0 A10_l1 c10_l1 _ hS
theorem colophonlaw16_TallyDocs.calls (w0 : World) (A0 : Option Addr) (c0 : Nat) (l0 : List (List Int)) (R0 : rdS (rd (hp w0) (.slice 5 (.int .u8))) 1 (hp w0) A0 c0 l0) (A1 : Option Addr) (c1 : Nat) (l1 : List Int) (R1 : rdS (r0 (.int .u8)) 1 (hp w0) A1 c1 l1) (r : Bool) (H : colophonlaw16_TallyDocs.f l0 l1 = some r) :
    Calls Try.prog 4 #[.slice A0 l0.length c0, .slice A1 l1.length c1] w0 (fun e w' => ∃ v, e = .returned v ∧ colophonlaw16_TallyDocs.post w0 r v w') := by
  have hS : Sat w0 (rf w0) [] := Sat.start w0
  unfold colophonlaw16_TallyDocs.f at H
  refine calls_of_WC (vs := [.slice A0 l0.length c0, .slice A1 l1.length c1]) Try.func4 (c := C4) (n := 78) (by kernel_rfl) (by kernel_rfl) (by kernel_rfl) ?_
  refine WC.seq (by kernel_rfl) ?_
  refine WC.reg [0] (by kernel_rfl) (by kernel_rfl) ?_
  refine WR.runk [0] [] [0, 1] (L' := [(0, .slice A0 l0.length c0), (1, .slice A1 l1.length c1)]) (w' := w0) (by kernel_rfl) ?_
  refine WR.nil ?_
  refine At.go ?_
  refine WC.seq (by kernel_rfl) ?_
  refine WC.seq (by kernel_rfl) ?_
  refine WC.reg [0, 1] (by kernel_rfl) (by kernel_rfl) ?_
  obtain ⟨r1, e2, H⟩ := bind_ex H
  refine WR.st (St.call (by kernel_rfl) (f := 7) (args := #[]) (by kernel_rfl) (colophonlaw16_first.calls w0  r1 e2) ?_)
  rintro _ w8 ⟨rfl, hS9⟩
  have hS : Sat w8 (rf w0) [] := hS.ext hS9
  refine WR.runk [1] [] [0, 1, 16] (L' := [(0, .slice A0 l0.length c0), (1, .slice A1 l1.length c1), (16, .bool (!r1))]) (w' := w8) (by kernel_rfl) ?_
  refine WR.nil ?_
  refine At.go ?_
  refine WC.cond (by kernel_rfl) (!r1) (by kernel_rfl) (by kernel_rfl) (fun hb10 => ?_) (fun hb10 => ?_)
  · replace H := ite_t H hb10
    refine WC.seq (by kernel_rfl) ?_
    refine WC.reg [0] (by kernel_rfl) (by kernel_rfl) ?_
    refine WR.runk [0] [] [4] (L' := [(4, .bool false)]) (w' := w8) (by kernel_rfl) ?_
    refine WR.nil ?_
    refine At.go ?_
    refine WC.ret (by kernel_rfl) ?_
    refine At.thenRet ?_
    obtain rfl := Option.some.inj H
    have hS : Sat w8 (rf w0) [] := hS.sel [] (by kernel_rfl)
    exact At.body [.bool false] (by kernel_rfl) ⟨_, rfl, rfl, hS⟩
  · replace H := ite_f H hb10
    refine WC.skip (by kernel_rfl) ?_
    refine At.go ?_
    refine WC.seq (by kernel_rfl) ?_
    refine WC.seq (by kernel_rfl) ?_
    refine WC.reg [0, 1, 2, 3, 4, 5, 6, 7, 8, 9, 10, 11, 12] (by kernel_rfl) (by kernel_rfl) ?_
    refine WR.runk [0] [1, 2, 3, 4, 5, 6, 7, 8, 9, 10, 11, 12] [0, 1, 17] (L' := [(0, .slice A0 l0.length c0), (1, .slice A1 l1.length c1), (17, .slice A0 l0.length c0)]) (w' := w8) (by kernel_rfl) ?_
    obtain ⟨r11, e12, H⟩ := bind_ex H
    refine WR.st (St.call (by kernel_rfl) (f := 12) (args := #[.slice A0 l0.length c0, .int .i64 250, .int .i64 60]) (by kernel_rfl) (colophonref08_Small.calls w8 A0 c0 l0 (rdS.upd R0 hS.sub0) 250 60 r11 e12) ?_)
    rintro _ w18 ⟨rfl, hS19⟩
    have hS : Sat w18 (rf w0) [] := hS.ext hS19
    refine WR.runk [2, 3] [4, 5, 6, 7, 8, 9, 10, 11, 12] [0, 1, 20] (L' := [(0, .slice A0 l0.length c0), (1, .slice A1 l1.length c1), (20, .bool (!r11))]) (w' := w18) (by kernel_rfl) ?_
    refine WR.split 20 (b := (!r11)) (by kernel_rfl) (fun hb20 => ?_) (fun hb20 => ?_)
    · replace H := ite_t H hb20
      refine WR.runk [4, 5, 6, 7, 8, 9, 10, 11, 12] [] [0, 1, 29] (L' := [(0, .slice A0 l0.length c0), (1, .slice A1 l1.length c1), (29, .bool true)]) (w' := w18) (by kernel_rfl) ?_
      refine WR.nil ?_
      refine At.go ?_
      refine WC.condT (by kernel_rfl) (by kernel_rfl) (by kernel_rfl) ?_
      refine WC.seq (by kernel_rfl) ?_
      refine WC.reg [0] (by kernel_rfl) (by kernel_rfl) ?_
      refine WR.runk [0] [] [4] (L' := [(4, .bool true)]) (w' := w18) (by kernel_rfl) ?_
      refine WR.nil ?_
      refine At.go ?_
      refine WC.ret (by kernel_rfl) ?_
      refine At.thenRet ?_
      obtain rfl := Option.some.inj H
      have hS : Sat w18 (rf w0) [] := hS.sel [] (by kernel_rfl)
      exact At.body [.bool true] (by kernel_rfl) ⟨_, rfl, rfl, hS⟩
    · replace H := ite_f H hb20
      refine WR.runk [4, 5, 6, 7, 8] [9, 10, 11, 12] [0, 1, 25] (L' := [(0, .slice A0 l0.length c0), (1, .slice A1 l1.length c1), (25, .bool ((l1.length : Int) == 0))]) (w' := w18) (by kernel_rfl) ?_
      refine WR.split 25 (b := ((l1.length : Int) == 0)) (by kernel_rfl) (fun hb21 => ?_) (fun hb21 => ?_)
      · replace H := ite_t H hb21
        refine WR.runk [9, 10, 11, 12] [] [0, 1, 29] (L' := [(0, .slice A0 l0.length c0), (1, .slice A1 l1.length c1), (29, .bool true)]) (w' := w18) (by kernel_rfl) ?_
        refine WR.nil ?_
        refine At.go ?_
        refine WC.condT (by kernel_rfl) (by kernel_rfl) (by kernel_rfl) ?_
        refine WC.seq (by kernel_rfl) ?_
        refine WC.reg [0] (by kernel_rfl) (by kernel_rfl) ?_
        refine WR.runk [0] [] [4] (L' := [(4, .bool true)]) (w' := w18) (by kernel_rfl) ?_
        refine WR.nil ?_
        refine At.go ?_
        refine WC.ret (by kernel_rfl) ?_
        refine At.thenRet ?_
        obtain rfl := Option.some.inj H
        have hS : Sat w18 (rf w0) [] := hS.sel [] (by kernel_rfl)
        exact At.body [.bool true] (by kernel_rfl) ⟨_, rfl, rfl, hS⟩
      · replace H := ite_f H hb21
        refine WR.runk [9, 10, 11, 12] [] [0, 1, 29] (L' := [(0, .slice A0 l0.length c0), (1, .slice A1 l1.length c1), (29, .bool (decide ((l1.length : Int) > 60)))]) (w' := w18) (by kernel_rfl) ?_
        refine WR.nil ?_
        refine At.go ?_
        refine WC.cond (by kernel_rfl) (decide ((l1.length : Int) > 60)) (by kernel_rfl) (by kernel_rfl) (fun hb22 => ?_) (fun hb22 => ?_)
        · replace H := ite_t H hb22
          refine WC.seq (by kernel_rfl) ?_
          refine WC.reg [0] (by kernel_rfl) (by kernel_rfl) ?_
          refine WR.runk [0] [] [4] (L' := [(4, .bool true)]) (w' := w18) (by kernel_rfl) ?_
          refine WR.nil ?_
          refine At.go ?_
          refine WC.ret (by kernel_rfl) ?_
          refine At.thenRet ?_
          obtain rfl := Option.some.inj H
          have hS : Sat w18 (rf w0) [] := hS.sel [] (by kernel_rfl)
          exact At.body [.bool true] (by kernel_rfl) ⟨_, rfl, rfl, hS⟩
        · replace H := ite_f H hb22
          refine WC.skip (by kernel_rfl) ?_
          refine At.go ?_
          refine WC.seq (by kernel_rfl) ?_
          refine WC.reg [0, 1, 2, 3, 4, 5, 6, 7, 8] (by kernel_rfl) (by kernel_rfl) ?_
          refine WR.runk [0] [1, 2, 3, 4, 5, 6, 7, 8] [0, 1, 31] (L' := [(0, .slice A0 l0.length c0), (1, .slice A1 l1.length c1), (31, .slice A0 l0.length c0)]) (w' := w18) (by kernel_rfl) ?_
          obtain ⟨r23, e24, H⟩ := bind_ex H
          refine WR.st (St.call (by kernel_rfl) (f := 13) (args := #[.slice A0 l0.length c0]) (by kernel_rfl) (colophonlaw16_Parts.calls w18 A0 c0 l0 (rdS.upd R0 hS.sub0) r23 e24) ?_)
          rintro _ w30 ⟨A32, c33, A34, c35, A36, c37, rfl, hS31⟩
          have hS : Sat w30 (rf w0) [osl 3 (r0 (.int .i64)) 1 A32 c33 r23.1, osl 3 (r0 (.int .i64)) 1 A34 c35 r23.2.1, osl 3 (r0 (.int .i64)) 1 A36 c37 r23.2.2] := hS.ext hS31
          refine WR.runk [2, 3, 4, 5, 6, 7, 8] [] [0, 1, 5, 6, 7] (L' := [(0, .slice A0 l0.length c0), (1, .slice A1 l1.length c1), (5, .slice A32 r23.1.length c33), (6, .slice A34 r23.2.1.length c35), (7, .slice A36 r23.2.2.length c37)]) (w' := w30) (by kernel_rfl) ?_
          refine WR.nil ?_
          refine At.go ?_
          refine WC.seq (by kernel_rfl) ?_
          refine WC.reg [0, 1, 2, 3, 4, 5, 6, 7] (by kernel_rfl) (by kernel_rfl) ?_
          refine WR.runk [0, 1] [2, 3, 4, 5, 6, 7] [0, 1, 5, 7, 37, 38] (L' := [(0, .slice A0 l0.length c0), (1, .slice A1 l1.length c1), (5, .slice A32 r23.1.length c33), (7, .slice A36 r23.2.2.length c37), (37, .slice A32 r23.1.length c33), (38, .slice A34 r23.2.1.length c35)]) (w' := w30) (by kernel_rfl) ?_
          obtain ⟨r38, e39, H⟩ := bind_ex H
          refine WR.st (St.call (by kernel_rfl) (f := 8) (args := #[.slice A32 r23.1.length c33, .slice A34 r23.2.1.length c35]) (by kernel_rfl) (tally_New.calls w30 A32 c33 r23.1 (Sat.rdAt 0 hS rfl) A34 c35 r23.2.1 (Sat.rdAt 1 hS rfl) r38 e39) ?_)
          rintro _ w45 ⟨pv47, rfl, hS46⟩
          have hS : Sat w45 (rf w0) [optP O58 pv47 r38.1, osl 3 (r0 (.int .i64)) 1 A32 c33 r23.1, osl 3 (r0 (.int .i64)) 1 A34 c35 r23.2.1, osl 3 (r0 (.int .i64)) 1 A36 c37 r23.2.2] := hS.ext hS46
          refine WR.runk [3, 4, 5, 6, 7] [] [0, 1, 5, 7, 8, 9] (L' := [(0, .slice A0 l0.length c0), (1, .slice A1 l1.length c1), (5, .slice A32 r23.1.length c33), (7, .slice A36 r23.2.2.length c37), (8, pv47), (9, .int .i64 r38.2)]) (w' := w45) (by kernel_rfl) ?_
          refine WR.nil ?_
          refine At.go ?_
          refine WC.seq (by kernel_rfl) ?_
          refine WC.reg [0] (by kernel_rfl) (by kernel_rfl) ?_
          refine WR.runk [0] [] [0, 1, 5, 7, 8, 9, 10] (L' := [(0, .slice A0 l0.length c0), (1, .slice A1 l1.length c1), (5, .slice A32 r23.1.length c33), (7, .slice A36 r23.2.2.length c37), (8, pv47), (9, .int .i64 r38.2), (10, .slice none 0 0)]) (w' := w45) (by kernel_rfl) ?_
          refine WR.nil ?_
          refine At.go ?_
          refine WC.seq (by kernel_rfl) ?_
          refine WC.seq (by kernel_rfl) ?_
          refine WC.reg [0, 1, 2] (by kernel_rfl) (by kernel_rfl) ?_
          refine WR.runk [0, 1, 2] [] [0, 5, 7, 8, 9, 10, 42, 43, 44] (L' := [(0, .slice A0 l0.length c0), (5, .slice A32 r23.1.length c33), (7, .slice A36 r23.2.2.length c37), (8, pv47), (9, .int .i64 r38.2), (10, .slice none 0 0), (42, .slice A1 l1.length c1), (43, .int .i64 (l1.length : Int)), (44, .int .i64 0)]) (w' := w45) (by kernel_rfl) ?_
          refine WR.nil ?_
          refine At.go ?_
          refine WC.block (by kernel_rfl) ?_
          obtain ⟨y48, hr49, H⟩ := bind_ex H
          obtain ⟨b51, hv50, hN107⟩ := optP.some hS hr49
          subst hv50
          have hS : Sat w45 (rf w0) [O58 b51 y48, osl 3 (r0 (.int .i64)) 1 A32 c33 r23.1, osl 3 (r0 (.int .i64)) 1 A34 c35 r23.2.1, osl 3 (r0 (.int .i64)) 1 A36 c37 r23.2.2] := hN107
          have hS := hS.addNil (α := Int) 3 (r0 (.int .i64)) 1
          have hS : Sat w45 (rf w0) [osl 3 (r0 (.int .i64)) 1 A32 c33 r23.1, osl 3 (r0 (.int .i64)) 1 A36 c37 r23.2.2, osl 3 (r0 (.int .i64)) 1 none 0 ([] : List Int), O58 b51 y48] := hS.sel [2, 4, 0, 1] (by kernel_rfl)
          obtain ⟨o63, e64, H⟩ := bind_ex H
          refine WC.loop (by kernel_rfl) ?_
          refine WL.weaken [0, 5, 7, 8, 9, 10, 42, 43, 44] (L' := [(0, .slice A0 l0.length c0), (5, .slice A32 r23.1.length c33), (7, .slice A36 r23.2.2.length c37), (8, .pointer (some ⟨b51, 0, none⟩)), (9, .int .i64 r38.2), (10, .slice none 0 0), (42, .slice A1 l1.length c1), (43, .int .i64 (l1.length : Int)), (44, .int .i64 0)]) (by kernel_rfl) ?_
          refine colophonlaw16_TallyDocs.l1_ok w0 A0 c0 l0 A1 c1 l1 r23 A32 c33 A36 c37 r38 y48 b51 R1 o63 (fun A10_q65 c10_q65 w66 hS => ?_) FU ([] : List Int) 0 none 0 _ hS e64
          refine At.hit ?_
          refine At.go ?_
          refine WC.seq (by kernel_rfl) ?_
          refine WC.reg [0, 1, 2, 3, 4, 5, 6, 7, 8, 9] (by kernel_rfl) (by kernel_rfl) ?_
          refine WR.runk [0] [1, 2, 3, 4, 5, 6, 7, 8, 9] [5, 7, 8, 9, 10, 58] (L' := [(5, .slice A32 r23.1.length c33), (7, .slice A36 r23.2.2.length c37), (8, .pointer (some ⟨b51, 0, none⟩)), (9, .int .i64 r38.2), (10, .slice A10_q65 o63.length c10_q65), (58, .slice A0 l0.length c0)]) (w' := w66) (by kernel_rfl) ?_
          obtain ⟨r68, e69, H⟩ := bind_ex H
          refine WR.st (St.call (by kernel_rfl) (f := 15) (args := #[.slice A0 l0.length c0]) (by kernel_rfl) (colophonref08_Symbols.calls w66 A0 c0 l0 (rdS.upd R0 hS.sub0) r68 e69) ?_)
          rintro _ w75 ⟨A77, c78, rfl, hS76⟩
          have hS : Sat w75 (rf w0) [osl 3 (r0 (.int .i64)) 1 A77 c78 r68, osl 3 (r0 (.int .i64)) 1 A32 c33 r23.1, osl 3 (r0 (.int .i64)) 1 A36 c37 r23.2.2, osl 3 (r0 (.int .i64)) 1 A10_q65 c10_q65 o63, O58 b51 y48] := hS.ext hS76
          refine WR.runk [2, 3] [4, 5, 6, 7, 8, 9] [5, 8, 9, 59, 60, 61] (L' := [(5, .slice A32 r23.1.length c33), (8, .pointer (some ⟨b51, 0, none⟩)), (9, .int .i64 r38.2), (59, .slice A77 r68.length c78), (60, .slice A36 r23.2.2.length c37), (61, .slice A10_q65 o63.length c10_q65)]) (w' := w75) (by kernel_rfl) ?_
          obtain ⟨r79, e80, H⟩ := bind_ex H
          refine WR.st (St.call (by kernel_rfl) (f := 14) (args := #[.slice A77 r68.length c78, .slice A36 r23.2.2.length c37, .slice A10_q65 o63.length c10_q65]) (by kernel_rfl) (colophonref15_Range.calls w75 A77 c78 r68 (Sat.rdAt 0 hS rfl) A36 c37 r23.2.2 (Sat.rdAt 2 hS rfl) A10_q65 c10_q65 o63 (Sat.rdAt 3 hS rfl) r79 e80) ?_)
          rintro _ w86 ⟨rfl, hS87⟩
          have hS : Sat w86 (rf w0) [osl 3 (r0 (.int .i64)) 1 A77 c78 r68, osl 3 (r0 (.int .i64)) 1 A32 c33 r23.1, osl 3 (r0 (.int .i64)) 1 A36 c37 r23.2.2, osl 3 (r0 (.int .i64)) 1 A10_q65 c10_q65 o63, O58 b51 y48] := hS.ext hS87
          refine WR.runk [5, 6, 7, 8, 9] [] [5, 8, 9, 13, 14] (L' := [(5, .slice A32 r23.1.length c33), (8, .pointer (some ⟨b51, 0, none⟩)), (9, .int .i64 r38.2), (13, .int .i64 r79.1), (14, .int .i64 r79.2)]) (w' := w86) (by kernel_rfl) ?_
          refine WR.nil ?_
          refine At.go ?_
          refine WC.seq (by kernel_rfl) ?_
          refine WC.reg [0, 1, 2, 3, 4, 5, 6, 7, 8, 9, 10, 11, 12, 13] (by kernel_rfl) (by kernel_rfl) ?_
          refine WR.runk [0, 1, 2] [3, 4, 5, 6, 7, 8, 9, 10, 11, 12, 13] [5, 8, 13, 14, 67] (L' := [(5, .slice A32 r23.1.length c33), (8, .pointer (some ⟨b51, 0, none⟩)), (13, .int .i64 r79.1), (14, .int .i64 r79.2), (67, .bool (r38.2 == 0))]) (w' := w86) (by kernel_rfl) ?_
          refine WR.split 67 (b := (r38.2 == 0)) (by kernel_rfl) (fun hb88 => ?_) (fun hb88 => ?_)
          · replace H := ite_t H hb88
            refine WR.runk [3, 4, 5] [6, 7, 8, 9, 10, 11, 12, 13] [5, 13, 14, 67, 68, 69, 70] (L' := [(5, .slice A32 r23.1.length c33), (13, .int .i64 r79.1), (14, .int .i64 r79.2), (67, .bool true), (68, .pointer (some ⟨b51, 0, none⟩)), (69, .int .i64 r79.1), (70, .int .i64 r79.2)]) (w' := w86) (by kernel_rfl) ?_
            obtain ⟨r89, e90, H⟩ := bind_ex H
            refine WR.st (St.call (by kernel_rfl) (f := 11) (args := #[.pointer (some ⟨b51, 0, none⟩), .int .i64 r79.1, .int .i64 r79.2]) (by kernel_rfl) (tally_Tally_Docs.calls w86 (.pointer (some ⟨b51, 0, none⟩)) (some y48) (Sat.rdAny 4 hS rfl (fun _ h => O58.rd _ _ _ h)) r79.1 r79.2 r89 e90) ?_)
            rintro _ w96 ⟨rfl, hS97⟩
            have hS : Sat w96 (rf w0) [osl 3 (r0 (.int .i64)) 1 A77 c78 r68, osl 3 (r0 (.int .i64)) 1 A32 c33 r23.1, osl 3 (r0 (.int .i64)) 1 A36 c37 r23.2.2, osl 3 (r0 (.int .i64)) 1 A10_q65 c10_q65 o63, O58 b51 y48] := hS.ext hS97
            refine WR.runk [7, 8, 9] [10, 11, 12, 13] [67, 71, 72, 73, 74] (L' := [(67, .bool true), (71, .int .i64 r89), (72, .slice A32 r23.1.length c33), (73, .int .i64 r79.1), (74, .int .i64 r79.2)]) (w' := w96) (by kernel_rfl) ?_
            obtain ⟨r98, e99, H⟩ := bind_ex H
            refine WR.st (St.call (by kernel_rfl) (f := 16) (args := #[.slice A32 r23.1.length c33, .int .i64 r79.1, .int .i64 r79.2]) (by kernel_rfl) (colophonref16_Unlike.calls w96 A32 c33 r23.1 (Sat.rdAt 1 hS rfl) r79.1 r79.2 r98 e99) ?_)
            rintro _ w105 ⟨rfl, hS106⟩
            have hS : Sat w105 (rf w0) [osl 3 (r0 (.int .i64)) 1 A77 c78 r68, osl 3 (r0 (.int .i64)) 1 A32 c33 r23.1, osl 3 (r0 (.int .i64)) 1 A36 c37 r23.2.2, osl 3 (r0 (.int .i64)) 1 A10_q65 c10_q65 o63, O58 b51 y48] := hS.ext hS106
            refine WR.runk [11, 12, 13] [] [4] (L' := [(4, .bool (r89 == r98))]) (w' := w105) (by kernel_rfl) ?_
            refine WR.nil ?_
            refine At.go ?_
            refine WC.ret (by kernel_rfl) ?_
            obtain rfl := Option.some.inj H
            have hS : Sat w105 (rf w0) [] := hS.sel [] (by kernel_rfl)
            exact At.body [.bool (r89 == r98)] (by kernel_rfl) ⟨_, rfl, rfl, hS⟩
          · replace H := ite_f H hb88
            refine WR.runk [3, 4, 5, 6, 7, 8, 9, 10, 11, 12, 13] [] [4] (L' := [(4, .bool false)]) (w' := w86) (by kernel_rfl) ?_
            refine WR.nil ?_
            refine At.go ?_
            refine WC.ret (by kernel_rfl) ?_
            obtain rfl := Option.some.inj H
            have hS : Sat w86 (rf w0) [] := hS.sel [] (by kernel_rfl)
            exact At.body [.bool false] (by kernel_rfl) ⟨_, rfl, rfl, hS⟩
end Go.Proofs.Ytmdemfbkdbilpaa
