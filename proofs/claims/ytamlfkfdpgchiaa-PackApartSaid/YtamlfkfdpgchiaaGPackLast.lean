/-
  Printed by gen.py (my own tool): for each Go function a plain Lean function and the proof that a call of it does what that function says.
-/
import Derived.Test.YtamlfkfdpgchiaaGP1b
set_option linter.unusedVariables false
set_option linter.unusedSimpArgs false
set_option maxRecDepth 100000
namespace Go.Proofs.Ytamlfkfdpgchiaa
open Go Go.Gol
/-! ### 5 colophon/colophonlaw01.PackLast -/
noncomputable abbrev C5 : Code := Try.f5.body.getD .skip
def colophonlaw01_PackLast.l1 (a0 : Int) (l1 : List (Int × Int)) : Nat → Int → (Int × Int × (List Int)) → (List Int) → Option ((Int × Int × (List Int)) × (List Int))
  | 0, _, _, _ => none
  | k + 1, x27_l1, q28_l1, q23_l1 => (if decide (x27_l1 < (l1.length : Int)) then ((at? l1 x27_l1).bind fun v30 => (if decide (x27_l1 ≥ 100) then some (q28_l1, q23_l1) else ((pack_Ints_Set.f q28_l1 (wi (Int.tmod (IntKind.wrap .u64 v30.1) 20)) (ishr .u64 v30.2 (IntKind.wrap .u64 (wi (64 - (wi (1 + (wi (Int.tmod (IntKind.wrap .u64 a0) 64))))))))).bind fun r37 => (if r37.1 then ((at? q23_l1 (wi (Int.tmod (IntKind.wrap .u64 v30.1) 20))).bind fun v47 => ((set? q23_l1 (wi (Int.tmod (IntKind.wrap .u64 v30.1) 20)) (ishr .u64 v30.2 (IntKind.wrap .u64 (wi (64 - (wi (1 + (wi (Int.tmod (IntKind.wrap .u64 a0) 64))))))))).bind fun y49 => colophonlaw01_PackLast.l1 a0 l1 k (wi (x27_l1 + 1)) r37.2 y49)) else colophonlaw01_PackLast.l1 a0 l1 k (wi (x27_l1 + 1)) r37.2 q23_l1)))) else some (q28_l1, q23_l1))
def colophonlaw01_PackLast.l2 (o54 : (Int × Int × (List Int)) × (List Int)) : Nat → Int → Option (Sum Bool Unit)
  | 0, _ => none
  | k + 1, x57_l2 => (if decide (x57_l2 < 20) then ((at? o54.2 x57_l2).bind fun v62 => ((pack_Ints_Get.f o54.1 x57_l2).bind fun r64 => (if (r64 != v62) then some (.inl false) else colophonlaw01_PackLast.l2 o54 k (wi (x57_l2 + 1))))) else some (.inr ()))
def colophonlaw01_PackLast.f (a0 : Int) (l1 : List (Int × Int)) : Option Bool := (colophonlaw01_first.f.bind fun r1 => (if (!r1) then some false else ((pack_New.f (wi (1 + (wi (Int.tmod (IntKind.wrap .u64 a0) 64)))) 20).bind fun r11 => (r11.1.bind fun y24 => ((colophonlaw01_PackLast.l1 a0 l1 FU 0 y24 (List.replicate 20 0)).bind fun o54 => ((colophonlaw01_PackLast.l2 o54 FU 0).bind fun o74 => (match o74 with | .inl o76 => some o76 | .inr o80 => ((pack_Ints_Get.f o54.1 20).bind fun r84 => some (r84 == 0)))))))))
def colophonlaw01_PackLast.post (w : World) (r : Bool) (v : Value) (w' : World) : Prop := v = (.bool r : Value) ∧ Sat w' (rf w) []
theorem colophonlaw01_PackLast.l1_ok {Q} (w0 : World) (a0 : Int) (A1 : Option Addr) (c1 : Nat) (l1 : List (Int × Int)) (b21 : Nat) (b27 : Nat) (R1 : rdS (r0 (.pair (.int .i64) (.int .u64))) 2 (hp w0) A1 c1 l1) (out : (Int × Int × (List Int)) × (List Int)) (hn0 : ∀ (w : World), Sat w (rf w0) [O55 b27 out.1, oar 38 (r0 (.int .u64)) 1 20 b21 out.2] → At Q (.exit 0) 71 [(6, .pointer (some ⟨b27, 0, none⟩)), (8, .pointer (some ⟨b21, 0, none⟩))] w) :
    ∀ (k : Nat) (x27_l1 : Int) (q28_l1 : Int × Int × (List Int)) (q23_l1 : List Int) (w : World), Sat w (rf w0) [O55 b27 q28_l1, oar 38 (r0 (.int .u64)) 1 20 b21 q23_l1] → colophonlaw01_PackLast.l1 a0 l1 k x27_l1 q28_l1 q23_l1 = some out → WL Try.prog (cbody (cbody (cr (cl (cr (cr (cr (cr (cr C5))))))))) Q 71 [(5, .int .i64 (wi (1 + (wi (Int.tmod (IntKind.wrap .u64 a0) 64))))), (6, .pointer (some ⟨b27, 0, none⟩)), (8, .pointer (some ⟨b21, 0, none⟩)), (25, .slice A1 l1.length c1), (26, .int .i64 (l1.length : Int)), (27, .int .i64 x27_l1)] w := by
  intro k
  induction k with
  | zero => intro x27_l1 q28_l1 q23_l1 w hS H; exact absurd (show none = some out from H) (by simp)
  | succ k ih =>
    intro x27_l1 q28_l1 q23_l1 w hS H
    unfold colophonlaw01_PackLast.l1 at H
    refine WL.round ?_
    refine WC.seq (by kernel_rfl) ?_
    refine WC.reg [0] (by kernel_rfl) (by kernel_rfl) ?_
    refine WR.runk [0] [] [5, 6, 8, 25, 26, 27, 28] (L' := [(5, .int .i64 (wi (1 + (wi (Int.tmod (IntKind.wrap .u64 a0) 64))))), (6, .pointer (some ⟨b27, 0, none⟩)), (8, .pointer (some ⟨b21, 0, none⟩)), (25, .slice A1 l1.length c1), (26, .int .i64 (l1.length : Int)), (27, .int .i64 x27_l1), (28, .bool (decide (x27_l1 < (l1.length : Int))))]) (w' := w) (by kernel_rfl) ?_
    refine WR.nil ?_
    refine At.go ?_
    refine WC.seq (by kernel_rfl) ?_
    refine WC.cond (by kernel_rfl) (decide (x27_l1 < (l1.length : Int))) (by kernel_rfl) (by kernel_rfl) (fun hb29 => ?_) (fun hb29 => ?_)
    · replace H := ite_t H hb29
      refine WC.skip (by kernel_rfl) ?_
      refine At.go ?_
      refine WC.seq (by kernel_rfl) ?_
      refine WC.block (by kernel_rfl) ?_
      refine WC.seq (by kernel_rfl) ?_
      refine WC.reg [0, 1, 2, 3, 4, 5] (by kernel_rfl) (by kernel_rfl) ?_
      refine WR.runk [0] [1, 2, 3, 4, 5] [5, 6, 8, 25, 26, 27, 29] (L' := [(5, .int .i64 (wi (1 + (wi (Int.tmod (IntKind.wrap .u64 a0) 64))))), (6, .pointer (some ⟨b27, 0, none⟩)), (8, .pointer (some ⟨b21, 0, none⟩)), (25, .slice A1 l1.length c1), (26, .int .i64 (l1.length : Int)), (27, .int .i64 x27_l1), (29, .int .i64 x27_l1)]) (w' := w) (by kernel_rfl) ?_
      obtain ⟨v30, e31, H⟩ := bind_ex H
      refine WR.st (St.ofP (PSt.idx (k := .i64) (.tmp 25) (.tmp 27) (by kernel_rfl) (by kernel_rfl) E37 (by kernel_rfl) (by kernel_rfl) (rdS.up R1 hS.sub0) e31 ?_))
      refine WR.runk [] [2, 3, 4, 5] [5, 6, 8, 25, 26, 27, 29, 30] (L' := [(5, .int .i64 (wi (1 + (wi (Int.tmod (IntKind.wrap .u64 a0) 64))))), (6, .pointer (some ⟨b27, 0, none⟩)), (8, .pointer (some ⟨b21, 0, none⟩)), (25, .slice A1 l1.length c1), (26, .int .i64 (l1.length : Int)), (27, .int .i64 x27_l1), (29, .int .i64 x27_l1), (30, .pointer (some (adr A1 x27_l1.toNat 2)))]) (w' := w) (by kernel_rfl) ?_
      refine WR.st (St.ofR (RSt.loadFlat (t := 40) (κ := (.pair (.int .i64) (.int .u64))) (.tmp 30) (by kernel_rfl) (by kernel_rfl) (by kernel_rfl) (by kernel_rfl) (by kernel_rfl) (by kernel_rfl) (rdS.up R1 hS.sub0) e31 ?_))
      refine WR.runk [] [3, 4, 5] [5, 6, 8, 25, 26, 27, 29, 31] (L' := [(5, .int .i64 (wi (1 + (wi (Int.tmod (IntKind.wrap .u64 a0) 64))))), (6, .pointer (some ⟨b27, 0, none⟩)), (8, .pointer (some ⟨b21, 0, none⟩)), (25, .slice A1 l1.length c1), (26, .int .i64 (l1.length : Int)), (27, .int .i64 x27_l1), (29, .int .i64 x27_l1), (31, .agg #[.int .i64 v30.1, .int .u64 v30.2])]) (w' := w) (by kernel_rfl) ?_
      refine WR.st (St.box hS (by kernel_rfl) (.cells #[.int .i64 0, .int .u64 0] 40) (fun b32 => .pointer (some ⟨b32, 0, none⟩)) (fun _ => by kernel_rfl) (fun b32 w33 hS => ?_))
      refine WR.runk [4] [5] [5, 6, 8, 9, 10, 25, 26, 27, 31] (L' := [(5, .int .i64 (wi (1 + (wi (Int.tmod (IntKind.wrap .u64 a0) 64))))), (6, .pointer (some ⟨b27, 0, none⟩)), (8, .pointer (some ⟨b21, 0, none⟩)), (9, .int .i64 x27_l1), (10, .pointer (some ⟨b32, 0, none⟩)), (25, .slice A1 l1.length c1), (26, .int .i64 (l1.length : Int)), (27, .int .i64 x27_l1), (31, .agg #[.int .i64 v30.1, .int .u64 v30.2])]) (w' := w33) (by kernel_rfl) ?_
      refine WR.st (St.storeAll (t := 40) (vs := [.int .i64 v30.1, .int .u64 v30.2]) (.tmp 10) (.tmp 31) (by kernel_rfl) (by kernel_rfl) (by kernel_rfl) hS (by kernel_rfl) (by kernel_rfl) (by kernel_rfl) (by kernel_rfl) (fun w35 hS => ?_))
      have hS : Sat w35 (rf w0) [pts b32 (.cells #[.int .i64 v30.1, .int .u64 v30.2] 40 (0, 0)), O55 b27 q28_l1, oar 38 (r0 (.int .u64)) 1 20 b21 q23_l1] := hS
      refine WR.runk [] [] [5, 6, 8, 9, 10, 25, 26, 27] (L' := [(5, .int .i64 (wi (1 + (wi (Int.tmod (IntKind.wrap .u64 a0) 64))))), (6, .pointer (some ⟨b27, 0, none⟩)), (8, .pointer (some ⟨b21, 0, none⟩)), (9, .int .i64 x27_l1), (10, .pointer (some ⟨b32, 0, none⟩)), (25, .slice A1 l1.length c1), (26, .int .i64 (l1.length : Int)), (27, .int .i64 x27_l1)]) (w' := w35) (by kernel_rfl) ?_
      refine WR.nil ?_
      refine At.go ?_
      refine WC.seq (by kernel_rfl) ?_
      refine WC.seq (by kernel_rfl) ?_
      refine WC.reg [0, 1] (by kernel_rfl) (by kernel_rfl) ?_
      refine WR.runk [0, 1] [] [5, 6, 8, 10, 25, 26, 27, 33] (L' := [(5, .int .i64 (wi (1 + (wi (Int.tmod (IntKind.wrap .u64 a0) 64))))), (6, .pointer (some ⟨b27, 0, none⟩)), (8, .pointer (some ⟨b21, 0, none⟩)), (10, .pointer (some ⟨b32, 0, none⟩)), (25, .slice A1 l1.length c1), (26, .int .i64 (l1.length : Int)), (27, .int .i64 x27_l1), (33, .bool (decide (x27_l1 ≥ 100)))]) (w' := w35) (by kernel_rfl) ?_
      refine WR.nil ?_
      refine At.go ?_
      refine WC.cond (by kernel_rfl) (decide (x27_l1 ≥ 100)) (by kernel_rfl) (by kernel_rfl) (fun hb36 => ?_) (fun hb36 => ?_)
      · replace H := ite_t H hb36
        refine WC.exit (by kernel_rfl) ?_
        refine At.thenExit ?_
        refine At.miss (by kernel_rfl) ?_
        refine At.thenExit ?_
        refine At.thenExit ?_
        obtain rfl := Option.some.inj H
        have hS : Sat w35 (rf w0) [O55 b27 q28_l1, oar 38 (r0 (.int .u64)) 1 20 b21 q23_l1] := hS.sel [1, 2] (by kernel_rfl)
        refine At.weaken [6, 8] (L' := [(6, .pointer (some ⟨b27, 0, none⟩)), (8, .pointer (some ⟨b21, 0, none⟩))]) (by kernel_rfl) ?_
        exact hn0 _ hS
      · replace H := ite_f H hb36
        refine WC.skip (by kernel_rfl) ?_
        refine At.go ?_
        refine WC.seq (by kernel_rfl) ?_
        refine WC.reg [0, 1, 2, 3, 4, 5] (by kernel_rfl) (by kernel_rfl) ?_
        refine WR.runk [0] [1, 2, 3, 4, 5] [5, 6, 8, 10, 25, 26, 27, 34] (L' := [(5, .int .i64 (wi (1 + (wi (Int.tmod (IntKind.wrap .u64 a0) 64))))), (6, .pointer (some ⟨b27, 0, none⟩)), (8, .pointer (some ⟨b21, 0, none⟩)), (10, .pointer (some ⟨b32, 0, none⟩)), (25, .slice A1 l1.length c1), (26, .int .i64 (l1.length : Int)), (27, .int .i64 x27_l1), (34, .pointer (some ⟨b32, 0, none⟩))]) (w' := w35) (by kernel_rfl) ?_
        refine WR.st (St.ofR (RSt.loadObj (t := 3) (k := 0) (v := .int .i64 v30.1) (.tmp 34) (by kernel_rfl) (by kernel_rfl) (by kernel_rfl) 0 hS rfl (by kernel_rfl) rfl ?_))
        refine WR.runk [2, 3, 4, 5] [] [5, 6, 8, 10, 11, 25, 26, 27] (L' := [(5, .int .i64 (wi (1 + (wi (Int.tmod (IntKind.wrap .u64 a0) 64))))), (6, .pointer (some ⟨b27, 0, none⟩)), (8, .pointer (some ⟨b21, 0, none⟩)), (10, .pointer (some ⟨b32, 0, none⟩)), (11, .int .i64 (wi (Int.tmod (IntKind.wrap .u64 v30.1) 20))), (25, .slice A1 l1.length c1), (26, .int .i64 (l1.length : Int)), (27, .int .i64 x27_l1)]) (w' := w35) (by kernel_rfl) ?_
        refine WR.nil ?_
        refine At.go ?_
        refine WC.seq (by kernel_rfl) ?_
        refine WC.reg [0, 1, 2, 3, 4, 5, 6, 7, 8] (by kernel_rfl) (by kernel_rfl) ?_
        refine WR.runk [0, 1, 2] [3, 4, 5, 6, 7, 8] [5, 6, 8, 10, 11, 25, 26, 27, 39, 40, 41] (L' := [(5, .int .i64 (wi (1 + (wi (Int.tmod (IntKind.wrap .u64 a0) 64))))), (6, .pointer (some ⟨b27, 0, none⟩)), (8, .pointer (some ⟨b21, 0, none⟩)), (10, .pointer (some ⟨b32, 0, none⟩)), (11, .int .i64 (wi (Int.tmod (IntKind.wrap .u64 v30.1) 20))), (25, .slice A1 l1.length c1), (26, .int .i64 (l1.length : Int)), (27, .int .i64 x27_l1), (39, .pointer (some ⟨b27, 0, none⟩)), (40, .int .i64 (wi (Int.tmod (IntKind.wrap .u64 v30.1) 20))), (41, .pointer (some ⟨b32, 1, none⟩))]) (w' := w35) (by kernel_rfl) ?_
        refine WR.st (St.ofR (RSt.loadObj (t := 22) (k := 1) (v := .int .u64 v30.2) (.tmp 41) (by kernel_rfl) (by kernel_rfl) (by kernel_rfl) 0 hS rfl (by kernel_rfl) rfl ?_))
        refine WR.runk [4, 5, 6] [7, 8] [5, 6, 8, 10, 11, 25, 26, 27, 39, 40, 42, 45] (L' := [(5, .int .i64 (wi (1 + (wi (Int.tmod (IntKind.wrap .u64 a0) 64))))), (6, .pointer (some ⟨b27, 0, none⟩)), (8, .pointer (some ⟨b21, 0, none⟩)), (10, .pointer (some ⟨b32, 0, none⟩)), (11, .int .i64 (wi (Int.tmod (IntKind.wrap .u64 v30.1) 20))), (25, .slice A1 l1.length c1), (26, .int .i64 (l1.length : Int)), (27, .int .i64 x27_l1), (39, .pointer (some ⟨b27, 0, none⟩)), (40, .int .i64 (wi (Int.tmod (IntKind.wrap .u64 v30.1) 20))), (42, .int .u64 v30.2), (45, .int .u64 (IntKind.wrap .u64 (wi (64 - (wi (1 + (wi (Int.tmod (IntKind.wrap .u64 a0) 64))))))))]) (w' := w35) (by kernel_rfl) ?_
        refine WR.st (St.ofP (PSt.shift (k := .u64) (k2 := .u64) (t := 22) (t2 := 33) (a := v30.2) (b := (IntKind.wrap .u64 (wi (64 - (wi (1 + (wi (Int.tmod (IntKind.wrap .u64 a0) 64)))))))) .shr (by decide) (.tmp 42) (.tmp 45) (by kernel_rfl) (by kernel_rfl) (by kernel_rfl) (by kernel_rfl) (wrap_u64_nonneg _) ?_))
        refine WR.runk [] [8] [5, 6, 8, 10, 11, 25, 26, 27, 39, 40, 46] (L' := [(5, .int .i64 (wi (1 + (wi (Int.tmod (IntKind.wrap .u64 a0) 64))))), (6, .pointer (some ⟨b27, 0, none⟩)), (8, .pointer (some ⟨b21, 0, none⟩)), (10, .pointer (some ⟨b32, 0, none⟩)), (11, .int .i64 (wi (Int.tmod (IntKind.wrap .u64 v30.1) 20))), (25, .slice A1 l1.length c1), (26, .int .i64 (l1.length : Int)), (27, .int .i64 x27_l1), (39, .pointer (some ⟨b27, 0, none⟩)), (40, .int .i64 (wi (Int.tmod (IntKind.wrap .u64 v30.1) 20))), (46, .int .u64 (ishr .u64 v30.2 (IntKind.wrap .u64 (wi (64 - (wi (1 + (wi (Int.tmod (IntKind.wrap .u64 a0) 64)))))))))]) (w' := w35) (by kernel_rfl) ?_
        have hS : Sat w35 (rf w0) [O55 b27 q28_l1, pts b32 (.cells #[.int .i64 v30.1, .int .u64 v30.2] 40 (0, 0)), oar 38 (r0 (.int .u64)) 1 20 b21 q23_l1] := hS.sel [1, 0, 2] (by kernel_rfl)
        obtain ⟨r37, e38, H⟩ := bind_ex H
        obtain ⟨B43, hso42, hsub40, hcs41, hb39⟩ := Sat.lend [O55 b27 q28_l1] (cs := [pts b32 (.cells #[.int .i64 v30.1, .int .u64 v30.2] 40 (0, 0)), oar 38 (r0 (.int .u64)) 1 20 b21 q23_l1]) hS
        refine WR.st (St.call (by kernel_rfl) (f := 12) (args := #[.pointer (some ⟨b27, 0, none⟩), .int .i64 (wi (Int.tmod (IntKind.wrap .u64 v30.1) 20)), .int .u64 (ishr .u64 v30.2 (IntKind.wrap .u64 (wi (64 - (wi (1 + (wi (Int.tmod (IntKind.wrap .u64 a0) 64))))))))]) (by kernel_rfl) (pack_Ints_Set.calls B43 w35 b27 q28_l1 hso42 (wi (Int.tmod (IntKind.wrap .u64 v30.1) 20)) (ishr .u64 v30.2 (IntKind.wrap .u64 (wi (64 - (wi (1 + (wi (Int.tmod (IntKind.wrap .u64 a0) 64)))))))) r37 e38) ?_)
        rintro _ w44 ⟨rfl, hS45⟩
        have hS : Sat w44 (rf w0) [O55 b27 r37.2, pts b32 (.cells #[.int .i64 v30.1, .int .u64 v30.2] 40 (0, 0)), oar 38 (r0 (.int .u64)) 1 20 b21 q23_l1] := hb39 _ _ hS45
        refine WR.runk [] [] [5, 6, 8, 10, 11, 25, 26, 27, 47] (L' := [(5, .int .i64 (wi (1 + (wi (Int.tmod (IntKind.wrap .u64 a0) 64))))), (6, .pointer (some ⟨b27, 0, none⟩)), (8, .pointer (some ⟨b21, 0, none⟩)), (10, .pointer (some ⟨b32, 0, none⟩)), (11, .int .i64 (wi (Int.tmod (IntKind.wrap .u64 v30.1) 20))), (25, .slice A1 l1.length c1), (26, .int .i64 (l1.length : Int)), (27, .int .i64 x27_l1), (47, .bool r37.1)]) (w' := w44) (by kernel_rfl) ?_
        refine WR.nil ?_
        refine At.go ?_
        refine WC.cond (by kernel_rfl) r37.1 (by kernel_rfl) (by kernel_rfl) (fun hb46 => ?_) (fun hb46 => ?_)
        · replace H := ite_t H hb46
          refine WC.reg [0, 1, 2, 3, 4, 5, 6, 7, 8] (by kernel_rfl) (by kernel_rfl) ?_
          refine WR.runk [0, 1] [2, 3, 4, 5, 6, 7, 8] [5, 6, 8, 25, 26, 27, 48, 49] (L' := [(5, .int .i64 (wi (1 + (wi (Int.tmod (IntKind.wrap .u64 a0) 64))))), (6, .pointer (some ⟨b27, 0, none⟩)), (8, .pointer (some ⟨b21, 0, none⟩)), (25, .slice A1 l1.length c1), (26, .int .i64 (l1.length : Int)), (27, .int .i64 x27_l1), (48, .int .i64 (wi (Int.tmod (IntKind.wrap .u64 v30.1) 20))), (49, .pointer (some ⟨b32, 1, none⟩))]) (w' := w44) (by kernel_rfl) ?_
          refine WR.st (St.ofR (RSt.loadObj (t := 22) (k := 1) (v := .int .u64 v30.2) (.tmp 49) (by kernel_rfl) (by kernel_rfl) (by kernel_rfl) 1 hS rfl (by kernel_rfl) rfl ?_))
          refine WR.runk [3, 4, 5] [6, 7, 8] [5, 6, 8, 25, 26, 27, 48, 50, 53] (L' := [(5, .int .i64 (wi (1 + (wi (Int.tmod (IntKind.wrap .u64 a0) 64))))), (6, .pointer (some ⟨b27, 0, none⟩)), (8, .pointer (some ⟨b21, 0, none⟩)), (25, .slice A1 l1.length c1), (26, .int .i64 (l1.length : Int)), (27, .int .i64 x27_l1), (48, .int .i64 (wi (Int.tmod (IntKind.wrap .u64 v30.1) 20))), (50, .int .u64 v30.2), (53, .int .u64 (IntKind.wrap .u64 (wi (64 - (wi (1 + (wi (Int.tmod (IntKind.wrap .u64 a0) 64))))))))]) (w' := w44) (by kernel_rfl) ?_
          refine WR.st (St.ofP (PSt.shift (k := .u64) (k2 := .u64) (t := 22) (t2 := 33) (a := v30.2) (b := (IntKind.wrap .u64 (wi (64 - (wi (1 + (wi (Int.tmod (IntKind.wrap .u64 a0) 64)))))))) .shr (by decide) (.tmp 50) (.tmp 53) (by kernel_rfl) (by kernel_rfl) (by kernel_rfl) (by kernel_rfl) (wrap_u64_nonneg _) ?_))
          refine WR.runk [] [7, 8] [5, 6, 8, 25, 26, 27, 48, 54] (L' := [(5, .int .i64 (wi (1 + (wi (Int.tmod (IntKind.wrap .u64 a0) 64))))), (6, .pointer (some ⟨b27, 0, none⟩)), (8, .pointer (some ⟨b21, 0, none⟩)), (25, .slice A1 l1.length c1), (26, .int .i64 (l1.length : Int)), (27, .int .i64 x27_l1), (48, .int .i64 (wi (Int.tmod (IntKind.wrap .u64 v30.1) 20))), (54, .int .u64 (ishr .u64 v30.2 (IntKind.wrap .u64 (wi (64 - (wi (1 + (wi (Int.tmod (IntKind.wrap .u64 a0) 64)))))))))]) (w' := w44) (by kernel_rfl) ?_
          obtain ⟨v47, e48, H⟩ := bind_ex H
          refine WR.st (St.ofP (PSt.idxArr (k := .i64) (t := 38) (e := 22) (sz := 1) (b := b21) (.tmp 8) (.tmp 48) (by kernel_rfl) (by kernel_rfl) (by kernel_rfl) (by kernel_rfl) (by kernel_rfl) (by kernel_rfl) (by kernel_rfl) (Sat.oarAt 2 hS rfl).2 e48 ?_))
          refine WR.runk [] [8] [5, 6, 8, 25, 26, 27, 54, 55] (L' := [(5, .int .i64 (wi (1 + (wi (Int.tmod (IntKind.wrap .u64 a0) 64))))), (6, .pointer (some ⟨b27, 0, none⟩)), (8, .pointer (some ⟨b21, 0, none⟩)), (25, .slice A1 l1.length c1), (26, .int .i64 (l1.length : Int)), (27, .int .i64 x27_l1), (54, .int .u64 (ishr .u64 v30.2 (IntKind.wrap .u64 (wi (64 - (wi (1 + (wi (Int.tmod (IntKind.wrap .u64 a0) 64))))))))), (55, .pointer (some (adr (some ⟨b21, 0, none⟩) (wi (Int.tmod (IntKind.wrap .u64 v30.1) 20)).toNat 1)))]) (w' := w44) (by kernel_rfl) ?_
          have hS : Sat w44 (rf w0) [oar 38 (r0 (.int .u64)) 1 20 b21 q23_l1, O55 b27 r37.2, pts b32 (.cells #[.int .i64 v30.1, .int .u64 v30.2] 40 (0, 0))] := hS.sel [2, 0, 1] (by kernel_rfl)
          obtain ⟨y49, e50, H⟩ := bind_ex H
          obtain ⟨hl52, hS⟩ := oar.op hS
          refine WR.st (St.storeElem' (t := 22) (.tmp 55) (.tmp 54) (by kernel_rfl) (by kernel_rfl) (by kernel_rfl) hS (by kernel_rfl) (by kernel_rfl) rfl e50 rfl (fun w51 hS => ?_))
          have hl53 := (set?_len e50).trans hl52
          have hS : Sat w51 (rf w0) [oar 38 (r0 (.int .u64)) 1 20 b21 y49, O55 b27 r37.2, pts b32 (.cells #[.int .i64 v30.1, .int .u64 v30.2] 40 (0, 0))] := oar.cl hl53 hS
          refine WR.runk [] [] [5, 6, 8, 25, 26, 27] (L' := [(5, .int .i64 (wi (1 + (wi (Int.tmod (IntKind.wrap .u64 a0) 64))))), (6, .pointer (some ⟨b27, 0, none⟩)), (8, .pointer (some ⟨b21, 0, none⟩)), (25, .slice A1 l1.length c1), (26, .int .i64 (l1.length : Int)), (27, .int .i64 x27_l1)]) (w' := w51) (by kernel_rfl) ?_
          refine WR.nil ?_
          refine At.blockNormal ?_
          refine At.go ?_
          refine WC.reg [0, 1] (by kernel_rfl) (by kernel_rfl) ?_
          refine WR.runk [0, 1] [] [5, 6, 8, 25, 26, 27] (L' := [(5, .int .i64 (wi (1 + (wi (Int.tmod (IntKind.wrap .u64 a0) 64))))), (6, .pointer (some ⟨b27, 0, none⟩)), (8, .pointer (some ⟨b21, 0, none⟩)), (25, .slice A1 l1.length c1), (26, .int .i64 (l1.length : Int)), (27, .int .i64 (wi (x27_l1 + 1)))]) (w' := w51) (by kernel_rfl) ?_
          refine WR.nil ?_
          have hS : Sat w51 (rf w0) [O55 b27 r37.2, oar 38 (r0 (.int .u64)) 1 20 b21 y49] := hS.sel [1, 0] (by kernel_rfl)
          refine At.again ?_
          refine WL.weaken [5, 6, 8, 25, 26, 27] (L' := [(5, .int .i64 (wi (1 + (wi (Int.tmod (IntKind.wrap .u64 a0) 64))))), (6, .pointer (some ⟨b27, 0, none⟩)), (8, .pointer (some ⟨b21, 0, none⟩)), (25, .slice A1 l1.length c1), (26, .int .i64 (l1.length : Int)), (27, .int .i64 (wi (x27_l1 + 1)))]) (by kernel_rfl) ?_
          exact ih (wi (x27_l1 + 1)) r37.2 y49 _ hS H
        · replace H := ite_f H hb46
          refine WC.skip (by kernel_rfl) ?_
          refine At.blockNormal ?_
          refine At.go ?_
          refine WC.reg [0, 1] (by kernel_rfl) (by kernel_rfl) ?_
          refine WR.runk [0, 1] [] [5, 6, 8, 25, 26, 27] (L' := [(5, .int .i64 (wi (1 + (wi (Int.tmod (IntKind.wrap .u64 a0) 64))))), (6, .pointer (some ⟨b27, 0, none⟩)), (8, .pointer (some ⟨b21, 0, none⟩)), (25, .slice A1 l1.length c1), (26, .int .i64 (l1.length : Int)), (27, .int .i64 (wi (x27_l1 + 1)))]) (w' := w44) (by kernel_rfl) ?_
          refine WR.nil ?_
          have hS : Sat w44 (rf w0) [O55 b27 r37.2, oar 38 (r0 (.int .u64)) 1 20 b21 q23_l1] := hS.sel [0, 2] (by kernel_rfl)
          refine At.again ?_
          refine WL.weaken [5, 6, 8, 25, 26, 27] (L' := [(5, .int .i64 (wi (1 + (wi (Int.tmod (IntKind.wrap .u64 a0) 64))))), (6, .pointer (some ⟨b27, 0, none⟩)), (8, .pointer (some ⟨b21, 0, none⟩)), (25, .slice A1 l1.length c1), (26, .int .i64 (l1.length : Int)), (27, .int .i64 (wi (x27_l1 + 1)))]) (by kernel_rfl) ?_
          exact ih (wi (x27_l1 + 1)) r37.2 q23_l1 _ hS H
    · replace H := ite_f H hb29
      refine WC.exit (by kernel_rfl) ?_
      refine At.thenExit ?_
      refine At.thenExit ?_
      obtain rfl := Option.some.inj H
      have hS : Sat w (rf w0) [O55 b27 q28_l1, oar 38 (r0 (.int .u64)) 1 20 b21 q23_l1] := hS.sel [0, 1] (by kernel_rfl)
      refine At.weaken [6, 8] (L' := [(6, .pointer (some ⟨b27, 0, none⟩)), (8, .pointer (some ⟨b21, 0, none⟩))]) (by kernel_rfl) ?_
      exact hn0 _ hS
theorem colophonlaw01_PackLast.l2_ok {Q} (w0 : World) (b21 : Nat) (b27 : Nat) (o54 : (Int × Int × (List Int)) × (List Int)) (out : Sum Bool Unit) (hn0 : ∀ (o0 : Bool) (w : World), out = (.inl o0) → Sat w (rf w0) [O55 b27 o54.1, oar 38 (r0 (.int .u64)) 1 20 b21 o54.2] → At Q .ret 71 [(4, .bool o0)] w) (hn1 : ∀ (o1 : Unit) (w : World), out = (.inr o1) → Sat w (rf w0) [O55 b27 o54.1, oar 38 (r0 (.int .u64)) 1 20 b21 o54.2] → At Q (.exit 2) 71 [(6, .pointer (some ⟨b27, 0, none⟩))] w) :
    ∀ (k : Nat) (x57_l2 : Int) (w : World), Sat w (rf w0) [O55 b27 o54.1, oar 38 (r0 (.int .u64)) 1 20 b21 o54.2] → colophonlaw01_PackLast.l2 o54 k x57_l2 = some out → WL Try.prog (cbody (cbody (cr (cl (cr (cr (cr (cr (cr (cr C5)))))))))) Q 71 [(6, .pointer (some ⟨b27, 0, none⟩)), (8, .pointer (some ⟨b21, 0, none⟩)), (57, .int .i64 x57_l2)] w := by
  intro k
  induction k with
  | zero => intro x57_l2 w hS H; exact absurd (show none = some out from H) (by simp)
  | succ k ih =>
    intro x57_l2 w hS H
    unfold colophonlaw01_PackLast.l2 at H
    refine WL.round ?_
    refine WC.seq (by kernel_rfl) ?_
    refine WC.reg [0] (by kernel_rfl) (by kernel_rfl) ?_
    refine WR.runk [0] [] [6, 8, 57, 58] (L' := [(6, .pointer (some ⟨b27, 0, none⟩)), (8, .pointer (some ⟨b21, 0, none⟩)), (57, .int .i64 x57_l2), (58, .bool (decide (x57_l2 < 20)))]) (w' := w) (by kernel_rfl) ?_
    refine WR.nil ?_
    refine At.go ?_
    refine WC.seq (by kernel_rfl) ?_
    refine WC.cond (by kernel_rfl) (decide (x57_l2 < 20)) (by kernel_rfl) (by kernel_rfl) (fun hb59 => ?_) (fun hb59 => ?_)
    · replace H := ite_t H hb59
      refine WC.skip (by kernel_rfl) ?_
      refine At.go ?_
      refine WC.seq (by kernel_rfl) ?_
      refine WC.block (by kernel_rfl) ?_
      refine WC.seq (by kernel_rfl) ?_
      refine WC.reg [0, 1] (by kernel_rfl) (by kernel_rfl) ?_
      refine WR.runk [0, 1] [] [6, 8, 12, 57] (L' := [(6, .pointer (some ⟨b27, 0, none⟩)), (8, .pointer (some ⟨b21, 0, none⟩)), (12, .int .i64 x57_l2), (57, .int .i64 x57_l2)]) (w' := w) (by kernel_rfl) ?_
      refine WR.nil ?_
      refine At.go ?_
      refine WC.seq (by kernel_rfl) ?_
      refine WC.drawn (by kernel_rfl) (by kernel_rfl) 7 (by kernel_rfl) (fun w60 hw61 => ?_)
      have hS := hS.heap hw61.1 hw61.2
      refine WD.weaken [6, 8, 12, 57] (L' := [(6, .pointer (some ⟨b27, 0, none⟩)), (8, .pointer (some ⟨b21, 0, none⟩)), (12, .int .i64 x57_l2), (57, .int .i64 x57_l2)]) (by kernel_rfl) ?_
      refine WD.pure (i := 0) (v := .pointer (some ⟨b27, 0, none⟩)) (by kernel_rfl) (by kernel_rfl) (fun _ => by kernel_rfl) ?_
      refine WD.weaken [6, 8, 12, 57, 60] (L' := [(6, .pointer (some ⟨b27, 0, none⟩)), (8, .pointer (some ⟨b21, 0, none⟩)), (12, .int .i64 x57_l2), (57, .int .i64 x57_l2), (60, .pointer (some ⟨b27, 0, none⟩))]) (by kernel_rfl) ?_
      refine WD.pure (i := 1) (v := .int .i64 x57_l2) (by kernel_rfl) (by kernel_rfl) (fun _ => by kernel_rfl) ?_
      refine WD.weaken [6, 8, 12, 57, 60, 61] (L' := [(6, .pointer (some ⟨b27, 0, none⟩)), (8, .pointer (some ⟨b21, 0, none⟩)), (12, .int .i64 x57_l2), (57, .int .i64 x57_l2), (60, .pointer (some ⟨b27, 0, none⟩)), (61, .int .i64 x57_l2)]) (by kernel_rfl) ?_
      refine WD.pure (i := 3) (v := .int .i64 x57_l2) (by kernel_rfl) (by kernel_rfl) (fun _ => by kernel_rfl) ?_
      refine WD.weaken [6, 8, 57, 60, 61, 63] (L' := [(6, .pointer (some ⟨b27, 0, none⟩)), (8, .pointer (some ⟨b21, 0, none⟩)), (57, .int .i64 x57_l2), (60, .pointer (some ⟨b27, 0, none⟩)), (61, .int .i64 x57_l2), (63, .int .i64 x57_l2)]) (by kernel_rfl) ?_
      obtain ⟨v62, e63, H⟩ := bind_ex H
      refine WD.ofP (i := 4) (by kernel_rfl) (PSt.idxArr (k := .i64) (t := 38) (e := 22) (sz := 1) (b := b21) (.tmp 8) (.tmp 63) (by kernel_rfl) (by kernel_rfl) (by kernel_rfl) (by kernel_rfl) (by kernel_rfl) (by kernel_rfl) (by kernel_rfl) (Sat.oarAt 1 hS rfl).2 e63 ?_)
      refine WD.weaken [6, 8, 57, 60, 61, 64] (L' := [(6, .pointer (some ⟨b27, 0, none⟩)), (8, .pointer (some ⟨b21, 0, none⟩)), (57, .int .i64 x57_l2), (60, .pointer (some ⟨b27, 0, none⟩)), (61, .int .i64 x57_l2), (64, .pointer (some (adr (some ⟨b21, 0, none⟩) x57_l2.toNat 1)))]) (by kernel_rfl) ?_
      refine WD.ofR (i := 5) (by kernel_rfl) (RSt.loadInt (t := 22) (.tmp 64) (by kernel_rfl) (by kernel_rfl) (by kernel_rfl) (by kernel_rfl) (Sat.oarAt 1 hS rfl).1 e63 ?_)
      refine WD.weaken [6, 8, 57, 60, 61, 65] (L' := [(6, .pointer (some ⟨b27, 0, none⟩)), (8, .pointer (some ⟨b21, 0, none⟩)), (57, .int .i64 x57_l2), (60, .pointer (some ⟨b27, 0, none⟩)), (61, .int .i64 x57_l2), (65, .int .u64 v62)]) (by kernel_rfl) ?_
      obtain ⟨r64, e65, H⟩ := bind_ex H
      obtain ⟨B70, hso69, hsub67, hcs68, hb66⟩ := Sat.lend [O55 b27 o54.1] (cs := [oar 38 (r0 (.int .u64)) 1 20 b21 o54.2]) hS
      refine WD.act (i := 2) (by kernel_rfl) (St.call (by kernel_rfl) (f := 13) (args := #[.pointer (some ⟨b27, 0, none⟩), .int .i64 x57_l2]) (by kernel_rfl) (pack_Ints_Get.calls B70 w60 b27 o54.1 hso69 x57_l2 r64 e65) ?_)
      rintro _ w71 ⟨rfl, hS72⟩
      have hS : Sat w71 (rf w0) [O55 b27 o54.1, oar 38 (r0 (.int .u64)) 1 20 b21 o54.2] := hb66 _ _ hS72
      refine ⟨(asked.cons (RSt.run (n := 71) (RSt.loadInt (t := 22) (.tmp 64) (by kernel_rfl) (by kernel_rfl) (by kernel_rfl) (by kernel_rfl) (Sat.oarAt 1 hS rfl).1 e63 rfl)) (asked.nil _ _)), ?_⟩
      refine WD.weaken [6, 8, 57, 62, 65] (L' := [(6, .pointer (some ⟨b27, 0, none⟩)), (8, .pointer (some ⟨b21, 0, none⟩)), (57, .int .i64 x57_l2), (62, .int .u64 r64), (65, .int .u64 v62)]) (by kernel_rfl) ?_
      refine WD.pure (i := 6) (v := .bool (r64 != v62)) (by kernel_rfl) (by kernel_rfl) (fun _ => by kernel_rfl) ?_
      refine WD.weaken [6, 8, 57, 66] (L' := [(6, .pointer (some ⟨b27, 0, none⟩)), (8, .pointer (some ⟨b21, 0, none⟩)), (57, .int .i64 x57_l2), (66, .bool (r64 != v62))]) (by kernel_rfl) ?_
      refine WD.nil (by kernel_rfl) ?_
      refine At.go ?_
      refine WC.cond (by kernel_rfl) (r64 != v62) (by kernel_rfl) (by kernel_rfl) (fun hb73 => ?_) (fun hb73 => ?_)
      · replace H := ite_t H hb73
        refine WC.seq (by kernel_rfl) ?_
        refine WC.reg [0] (by kernel_rfl) (by kernel_rfl) ?_
        refine WR.runk [0] [] [4] (L' := [(4, .bool false)]) (w' := w71) (by kernel_rfl) ?_
        refine WR.nil ?_
        refine At.go ?_
        refine WC.ret (by kernel_rfl) ?_
        refine At.blockRet ?_
        refine At.thenRet ?_
        refine At.thenRet ?_
        obtain rfl := Option.some.inj H
        have hS : Sat w71 (rf w0) [O55 b27 o54.1, oar 38 (r0 (.int .u64)) 1 20 b21 o54.2] := hS.sel [0, 1] (by kernel_rfl)
        refine At.weaken [4] (L' := [(4, .bool false)]) (by kernel_rfl) ?_
        exact hn0 false _ rfl hS
      · replace H := ite_f H hb73
        refine WC.skip (by kernel_rfl) ?_
        refine At.blockNormal ?_
        refine At.go ?_
        refine WC.reg [0, 1] (by kernel_rfl) (by kernel_rfl) ?_
        refine WR.runk [0, 1] [] [6, 8, 57] (L' := [(6, .pointer (some ⟨b27, 0, none⟩)), (8, .pointer (some ⟨b21, 0, none⟩)), (57, .int .i64 (wi (x57_l2 + 1)))]) (w' := w71) (by kernel_rfl) ?_
        refine WR.nil ?_
        have hS : Sat w71 (rf w0) [O55 b27 o54.1, oar 38 (r0 (.int .u64)) 1 20 b21 o54.2] := hS.sel [0, 1] (by kernel_rfl)
        refine At.again ?_
        refine WL.weaken [6, 8, 57] (L' := [(6, .pointer (some ⟨b27, 0, none⟩)), (8, .pointer (some ⟨b21, 0, none⟩)), (57, .int .i64 (wi (x57_l2 + 1)))]) (by kernel_rfl) ?_
        exact ih (wi (x57_l2 + 1)) _ hS H
    · replace H := ite_f H hb59
      refine WC.exit (by kernel_rfl) ?_
      refine At.thenExit ?_
      refine At.thenExit ?_
      obtain rfl := Option.some.inj H
      have hS : Sat w (rf w0) [O55 b27 o54.1, oar 38 (r0 (.int .u64)) 1 20 b21 o54.2] := hS.sel [0, 1] (by kernel_rfl)
      refine At.weaken [6] (L' := [(6, .pointer (some ⟨b27, 0, none⟩))]) (by kernel_rfl) ?_
      exact hn1 () _ rfl hS
theorem colophonlaw01_PackLast.calls (w0 : World) (a0 : Int) (A1 : Option Addr) (c1 : Nat) (l1 : List (Int × Int)) (R1 : rdS (r0 (.pair (.int .i64) (.int .u64))) 2 (hp w0) A1 c1 l1) (r : Bool) (H : colophonlaw01_PackLast.f a0 l1 = some r) :
    Calls Try.prog 5 #[.int .i64 a0, .slice A1 l1.length c1] w0 (fun e w' => ∃ v, e = .returned v ∧ colophonlaw01_PackLast.post w0 r v w') := by
  have hS : Sat w0 (rf w0) [] := Sat.start w0
  unfold colophonlaw01_PackLast.f at H
  refine calls_of_WC (vs := [.int .i64 a0, .slice A1 l1.length c1]) Try.func5 (c := C5) (n := 71) (by kernel_rfl) (by kernel_rfl) (by kernel_rfl) ?_
  refine WC.seq (by kernel_rfl) ?_
  refine WC.reg [0] (by kernel_rfl) (by kernel_rfl) ?_
  refine WR.runk [0] [] [0, 1] (L' := [(0, .int .i64 a0), (1, .slice A1 l1.length c1)]) (w' := w0) (by kernel_rfl) ?_
  refine WR.nil ?_
  refine At.go ?_
  refine WC.seq (by kernel_rfl) ?_
  refine WC.seq (by kernel_rfl) ?_
  refine WC.reg [0, 1] (by kernel_rfl) (by kernel_rfl) ?_
  obtain ⟨r1, e2, H⟩ := bind_ex H
  refine WR.st (St.call (by kernel_rfl) (f := 9) (args := #[]) (by kernel_rfl) (colophonlaw01_first.calls w0  r1 e2) ?_)
  rintro _ w8 ⟨rfl, hS9⟩
  have hS : Sat w8 (rf w0) [] := hS.ext hS9
  refine WR.runk [1] [] [0, 1, 14] (L' := [(0, .int .i64 a0), (1, .slice A1 l1.length c1), (14, .bool (!r1))]) (w' := w8) (by kernel_rfl) ?_
  refine WR.nil ?_
  refine At.go ?_
  refine WC.cond (by kernel_rfl) (!r1) (by kernel_rfl) (by kernel_rfl) (fun hb10 => ?_) (fun hb10 => ?_)
  · replace H := ite_t H hb10
    refine WC.seq (by kernel_rfl) ?_
    refine WC.reg [0] (by kernel_rfl) (by kernel_rfl) ?_
    refine WR.runk [0] [] [4] (L' := [(4, .bool false)]) (w' := w8) (by kernel_rfl) ?_
    refine WR.nil ?_
    refine At.go ?_
    refine WC.ret (by kernel_rfl) ?_
    refine At.thenRet ?_
    obtain rfl := Option.some.inj H
    have hS : Sat w8 (rf w0) [] := hS.sel [] (by kernel_rfl)
    exact At.body [.bool false] (by kernel_rfl) ⟨_, rfl, rfl, hS⟩
  · replace H := ite_f H hb10
    refine WC.skip (by kernel_rfl) ?_
    refine At.go ?_
    refine WC.seq (by kernel_rfl) ?_
    refine WC.reg [0, 1, 2, 3, 4, 5] (by kernel_rfl) (by kernel_rfl) ?_
    refine WR.runk [0, 1, 2, 3, 4, 5] [] [1, 5] (L' := [(1, .slice A1 l1.length c1), (5, .int .i64 (wi (1 + (wi (Int.tmod (IntKind.wrap .u64 a0) 64)))))]) (w' := w8) (by kernel_rfl) ?_
    refine WR.nil ?_
    refine At.go ?_
    refine WC.seq (by kernel_rfl) ?_
    refine WC.reg [0, 1, 2, 3, 4, 5, 6] (by kernel_rfl) (by kernel_rfl) ?_
    refine WR.runk [0] [1, 2, 3, 4, 5, 6] [1, 5, 21] (L' := [(1, .slice A1 l1.length c1), (5, .int .i64 (wi (1 + (wi (Int.tmod (IntKind.wrap .u64 a0) 64))))), (21, .int .i64 (wi (1 + (wi (Int.tmod (IntKind.wrap .u64 a0) 64)))))]) (w' := w8) (by kernel_rfl) ?_
    obtain ⟨r11, e12, H⟩ := bind_ex H
    refine WR.st (St.call (by kernel_rfl) (f := 11) (args := #[.int .i64 (wi (1 + (wi (Int.tmod (IntKind.wrap .u64 a0) 64)))), .int .i64 20]) (by kernel_rfl) (pack_New.calls w8 (wi (1 + (wi (Int.tmod (IntKind.wrap .u64 a0) 64)))) 20 r11 e12) ?_)
    rintro _ w18 ⟨pv20, rfl, hS19⟩
    have hS : Sat w18 (rf w0) [optP O55 pv20 r11.1] := hS.ext hS19
    refine WR.runk [2, 3, 4, 5, 6] [] [1, 5, 6] (L' := [(1, .slice A1 l1.length c1), (5, .int .i64 (wi (1 + (wi (Int.tmod (IntKind.wrap .u64 a0) 64))))), (6, pv20)]) (w' := w18) (by kernel_rfl) ?_
    refine WR.nil ?_
    refine At.go ?_
    refine WC.seq (by kernel_rfl) ?_
    refine WC.reg [0] (by kernel_rfl) (by kernel_rfl) ?_
    refine WR.st (St.box hS (by kernel_rfl) (.cells ⟨List.replicate 20 (.int .u64 0)⟩ 38) (fun b21 => .pointer (some ⟨b21, 0, none⟩)) (fun _ => by kernel_rfl) (fun b21 w22 hS => ?_))
    have hS : Sat w22 (rf w0) [oar 38 (r0 (.int .u64)) 1 20 b21 (List.replicate 20 0), optP O55 pv20 r11.1] := oar.ofPts (κ := (.int .u64)) 20 0 [.int .u64 0] (by kernel_rfl) (by kernel_rfl) rfl (by kernel_rfl) hS
    refine WR.runk [] [] [1, 5, 6, 8] (L' := [(1, .slice A1 l1.length c1), (5, .int .i64 (wi (1 + (wi (Int.tmod (IntKind.wrap .u64 a0) 64))))), (6, pv20), (8, .pointer (some ⟨b21, 0, none⟩))]) (w' := w22) (by kernel_rfl) ?_
    refine WR.nil ?_
    refine At.go ?_
    refine WC.seq (by kernel_rfl) ?_
    refine WC.seq (by kernel_rfl) ?_
    refine WC.reg [0, 1, 2] (by kernel_rfl) (by kernel_rfl) ?_
    refine WR.runk [0, 1, 2] [] [5, 6, 8, 25, 26, 27] (L' := [(5, .int .i64 (wi (1 + (wi (Int.tmod (IntKind.wrap .u64 a0) 64))))), (6, pv20), (8, .pointer (some ⟨b21, 0, none⟩)), (25, .slice A1 l1.length c1), (26, .int .i64 (l1.length : Int)), (27, .int .i64 0)]) (w' := w22) (by kernel_rfl) ?_
    refine WR.nil ?_
    refine At.go ?_
    refine WC.block (by kernel_rfl) ?_
    have hS : Sat w22 (rf w0) [optP O55 pv20 r11.1, oar 38 (r0 (.int .u64)) 1 20 b21 (List.replicate 20 0)] := hS.sel [1, 0] (by kernel_rfl)
    obtain ⟨y24, hr25, H⟩ := bind_ex H
    obtain ⟨b27, hv26, hN93⟩ := optP.some hS hr25
    subst hv26
    have hS : Sat w22 (rf w0) [O55 b27 y24, oar 38 (r0 (.int .u64)) 1 20 b21 (List.replicate 20 0)] := hN93
    have hS : Sat w22 (rf w0) [O55 b27 y24, oar 38 (r0 (.int .u64)) 1 20 b21 (List.replicate 20 0)] := hS.sel [0, 1] (by kernel_rfl)
    obtain ⟨o54, e55, H⟩ := bind_ex H
    refine WC.loop (by kernel_rfl) ?_
    refine WL.weaken [5, 6, 8, 25, 26, 27] (L' := [(5, .int .i64 (wi (1 + (wi (Int.tmod (IntKind.wrap .u64 a0) 64))))), (6, .pointer (some ⟨b27, 0, none⟩)), (8, .pointer (some ⟨b21, 0, none⟩)), (25, .slice A1 l1.length c1), (26, .int .i64 (l1.length : Int)), (27, .int .i64 0)]) (by kernel_rfl) ?_
    refine colophonlaw01_PackLast.l1_ok w0 a0 A1 c1 l1 b21 b27 R1 o54 (fun w57 hS => ?_) FU 0 y24 (List.replicate 20 0) _ hS e55
    refine At.hit ?_
    refine At.go ?_
    refine WC.seq (by kernel_rfl) ?_
    refine WC.seq (by kernel_rfl) ?_
    refine WC.reg [0] (by kernel_rfl) (by kernel_rfl) ?_
    refine WR.runk [0] [] [6, 8, 57] (L' := [(6, .pointer (some ⟨b27, 0, none⟩)), (8, .pointer (some ⟨b21, 0, none⟩)), (57, .int .i64 0)]) (w' := w57) (by kernel_rfl) ?_
    refine WR.nil ?_
    refine At.go ?_
    refine WC.block (by kernel_rfl) ?_
    have hS : Sat w57 (rf w0) [O55 b27 o54.1, oar 38 (r0 (.int .u64)) 1 20 b21 o54.2] := hS.sel [0, 1] (by kernel_rfl)
    obtain ⟨o74, e75, H⟩ := bind_ex H
    refine WC.loop (by kernel_rfl) ?_
    refine WL.weaken [6, 8, 57] (L' := [(6, .pointer (some ⟨b27, 0, none⟩)), (8, .pointer (some ⟨b21, 0, none⟩)), (57, .int .i64 0)]) (by kernel_rfl) ?_
    refine colophonlaw01_PackLast.l2_ok w0 b21 b27 o54 o74 (fun o76 w78 ho79 hS => ?_) (fun o80 w82 ho83 hS => ?_) FU 0 _ hS e75
    · subst ho79
      dsimp only at H
      refine At.blockRet ?_
      refine At.thenRet ?_
      obtain rfl := Option.some.inj H
      have hS : Sat w78 (rf w0) [] := hS.sel [] (by kernel_rfl)
      exact At.body [.bool o76] (by kernel_rfl) ⟨_, rfl, rfl, hS⟩
    · subst ho83
      dsimp only at H
      refine At.hit ?_
      refine At.go ?_
      refine WC.seq (by kernel_rfl) ?_
      refine WC.reg [0, 1, 2, 3] (by kernel_rfl) (by kernel_rfl) ?_
      refine WR.runk [0] [1, 2, 3] [68] (L' := [(68, .pointer (some ⟨b27, 0, none⟩))]) (w' := w82) (by kernel_rfl) ?_
      obtain ⟨r84, e85, H⟩ := bind_ex H
      obtain ⟨B90, hso89, hsub87, hcs88, hb86⟩ := Sat.lend [O55 b27 o54.1] (cs := [oar 38 (r0 (.int .u64)) 1 20 b21 o54.2]) hS
      refine WR.st (St.call (by kernel_rfl) (f := 13) (args := #[.pointer (some ⟨b27, 0, none⟩), .int .i64 20]) (by kernel_rfl) (pack_Ints_Get.calls B90 w82 b27 o54.1 hso89 20 r84 e85) ?_)
      rintro _ w91 ⟨rfl, hS92⟩
      have hS : Sat w91 (rf w0) [O55 b27 o54.1, oar 38 (r0 (.int .u64)) 1 20 b21 o54.2] := hb86 _ _ hS92
      refine WR.runk [2, 3] [] [4] (L' := [(4, .bool (r84 == 0))]) (w' := w91) (by kernel_rfl) ?_
      refine WR.nil ?_
      refine At.go ?_
      refine WC.ret (by kernel_rfl) ?_
      obtain rfl := Option.some.inj H
      have hS : Sat w91 (rf w0) [] := hS.sel [] (by kernel_rfl)
      exact At.body [.bool (r84 == 0)] (by kernel_rfl) ⟨_, rfl, rfl, hS⟩
end Go.Proofs.Ytamlfkfdpgchiaa
