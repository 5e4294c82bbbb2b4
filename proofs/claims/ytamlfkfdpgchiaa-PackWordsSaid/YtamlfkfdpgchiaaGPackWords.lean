/-
  Printed by gen.py (my own tool): for each Go function a plain Lean function and the proof that a call of it does what that function says.
-/
import Derived.Test.YtamlfkfdpgchiaaGP1b
set_option linter.unusedVariables false
set_option linter.unusedSimpArgs false
set_option maxRecDepth 100000
namespace Go.Proofs.Ytamlfkfdpgchiaa
open Go Go.Gol
/-! ### 4 colophon/colophonlaw01.PackWords -/
def colophonlaw01_PackWords.l2 : Nat → Int → Int → Option Int
  | 0, _, _ => none
  | k + 1, x9_l2, x11_l2 => (if decide (x11_l2 > 0) then colophonlaw01_PackWords.l2 k (wi (x9_l2 + 1)) (iand .u64 x11_l2 (IntKind.wrap .u64 (x11_l2 - 1))) else some x9_l2)
def colophonlaw01_PackWords.l1 (a0 : Int) (l1 : List Int) : Nat → Int → Int → (Int × Int × (List Int)) → Option (Int × (Int × Int × (List Int)))
  | 0, _, _, _ => none
  | k + 1, x9_l1, x35_l1, q25_l1 => (if decide (x35_l1 < imin (l1.length : Int) 100) then ((at? l1 x35_l1).bind fun v27 => ((pack_Ints_Set.f q25_l1 x35_l1 (ishr .u64 v27 (IntKind.wrap .u64 (wi (64 - (wi (1 + (wi (Int.tmod (IntKind.wrap .u64 a0) 64))))))))).bind fun r29 => ((colophonlaw01_PackWords.l2 FU x9_l1 (ishr .u64 v27 (IntKind.wrap .u64 (wi (64 - (wi (1 + (wi (Int.tmod (IntKind.wrap .u64 a0) 64))))))))).bind fun o39 => colophonlaw01_PackWords.l1 a0 l1 k o39 (wi (x35_l1 + 1)) r29.2))) else some (x9_l1, q25_l1))
def colophonlaw01_PackWords.l4 : Nat → Int → Int → Option Int
  | 0, _, _ => none
  | k + 1, x9_l4, x14_l4 => (if decide (x14_l4 > 0) then colophonlaw01_PackWords.l4 k (wi (x9_l4 - 1)) (iand .u64 x14_l4 (IntKind.wrap .u64 (x14_l4 - 1))) else some x9_l4)
def colophonlaw01_PackWords.l3 (r49 : (List Int)) : Nat → Int → Int → Option Int
  | 0, _, _ => none
  | k + 1, x9_l3, x63_l3 => (if decide (x63_l3 < (r49.length : Int)) then ((at? r49 x63_l3).bind fun v61 => ((colophonlaw01_PackWords.l4 FU x9_l3 v61).bind fun o64 => colophonlaw01_PackWords.l3 r49 k o64 (wi (x63_l3 + 1)))) else some x9_l3)
def colophonlaw01_PackWords.l5 (l1 : List Int) (o44 : Int × (Int × Int × (List Int))) (y87 : Int × Int × (List Int)) : Nat → Int → Option (Sum Bool Unit)
  | 0, _ => none
  | k + 1, x100_l5 => (if decide (x100_l5 < imin (l1.length : Int) 100) then ((pack_Ints_Get.f (some y87) x100_l5).bind fun r93 => ((pack_Ints_Get.f (some o44.2) x100_l5).bind fun r102 => (if (r93 != r102) then some (.inl false) else colophonlaw01_PackWords.l5 l1 o44 y87 k (wi (x100_l5 + 1))))) else some (.inr ()))
def colophonlaw01_PackWords.f (a0 : Int) (l1 : List Int) : Option Bool := (colophonlaw01_first.f.bind fun r1 => (if (!r1) then some false else ((pack_New.f (wi (1 + (wi (Int.tmod (IntKind.wrap .u64 a0) 64)))) (imin (l1.length : Int) 100)).bind fun r11 => (r11.1.bind fun y21 => ((colophonlaw01_PackWords.l1 a0 l1 FU 0 0 y21).bind fun o44 => ((pack_Ints_Words.f (some o44.2)).bind fun r49 => ((colophonlaw01_PackWords.l3 r49 FU o44.1 0).bind fun o69 => ((pack_From.f (wi (1 + (wi (Int.tmod (IntKind.wrap .u64 a0) 64)))) (imin (l1.length : Int) 100) r49).bind fun r74 => (if (r74.2 != 0) then some false else (if (o69 != 0) then some false else (if ((r49.length : Int) != (wi (Int.tdiv (wi ((wi ((imin (l1.length : Int) 100) * (wi (1 + (wi (Int.tmod (IntKind.wrap .u64 a0) 64)))))) + 63)) 64))) then some false else (r74.1.bind fun y87 => ((colophonlaw01_PackWords.l5 l1 o44 y87 FU 0).bind fun o112 => (match o112 with | .inl o114 => some o114 | .inr o118 => some true))))))))))))))
def colophonlaw01_PackWords.post (w : World) (r : Bool) (v : Value) (w' : World) : Prop := v = (.bool r : Value) ∧ Sat w' (rf w) []
theorem colophonlaw01_PackWords.l2_ok {Q} (w0 : World) (a0 : Int) (A1 : Option Addr) (c1 : Nat) (l1 : List Int) (b24 : Nat) (x35_l1 : Int) (r29 : Bool × (Int × Int × (List Int))) (out : Int) (hn0 : ∀ (w : World), Sat w (rf w0) [O55 b24 r29.2] → At Q (.exit 2) 111 [(1, .slice A1 l1.length c1), (5, .int .i64 (wi (1 + (wi (Int.tmod (IntKind.wrap .u64 a0) 64))))), (6, .int .i64 (imin (l1.length : Int) 100)), (7, .pointer (some ⟨b24, 0, none⟩)), (9, .int .i64 out), (34, .int .i64 (imin (l1.length : Int) 100)), (35, .int .i64 x35_l1)] w) :
    ∀ (k : Nat) (x9_l2 : Int) (x11_l2 : Int) (w : World), Sat w (rf w0) [O55 b24 r29.2] → colophonlaw01_PackWords.l2 k x9_l2 x11_l2 = some out → WL Try.prog (cbody (cbody (cr (cr (cr (cbody (cl (cr (cr (cbody (cbody (cr (cl (cr (cr (cr (cr (cr (cr C4))))))))))))))))))) Q 111 [(1, .slice A1 l1.length c1), (5, .int .i64 (wi (1 + (wi (Int.tmod (IntKind.wrap .u64 a0) 64))))), (6, .int .i64 (imin (l1.length : Int) 100)), (7, .pointer (some ⟨b24, 0, none⟩)), (9, .int .i64 x9_l2), (11, .int .u64 x11_l2), (34, .int .i64 (imin (l1.length : Int) 100)), (35, .int .i64 x35_l1)] w := by
  intro k
  induction k with
  | zero => intro x9_l2 x11_l2 w hS H; exact absurd (show none = some out from H) (by simp)
  | succ k ih =>
    intro x9_l2 x11_l2 w hS H
    unfold colophonlaw01_PackWords.l2 at H
    refine WL.round ?_
    refine WC.seq (by kernel_rfl) ?_
    refine WC.seq (by kernel_rfl) ?_
    refine WC.reg [0, 1] (by kernel_rfl) (by kernel_rfl) ?_
    refine WR.runk [0, 1] [] [1, 5, 6, 7, 9, 11, 34, 35, 51] (L' := [(1, .slice A1 l1.length c1), (5, .int .i64 (wi (1 + (wi (Int.tmod (IntKind.wrap .u64 a0) 64))))), (6, .int .i64 (imin (l1.length : Int) 100)), (7, .pointer (some ⟨b24, 0, none⟩)), (9, .int .i64 x9_l2), (11, .int .u64 x11_l2), (34, .int .i64 (imin (l1.length : Int) 100)), (35, .int .i64 x35_l1), (51, .bool (decide (x11_l2 > 0)))]) (w' := w) (by kernel_rfl) ?_
    refine WR.nil ?_
    refine At.go ?_
    refine WC.cond (by kernel_rfl) (decide (x11_l2 > 0)) (by kernel_rfl) (by kernel_rfl) (fun hb38 => ?_) (fun hb38 => ?_)
    · replace H := ite_t H hb38
      refine WC.skip (by kernel_rfl) ?_
      refine At.go ?_
      refine WC.seq (by kernel_rfl) ?_
      refine WC.block (by kernel_rfl) ?_
      refine WC.reg [0, 1, 2] (by kernel_rfl) (by kernel_rfl) ?_
      refine WR.runk [0, 1, 2] [] [1, 5, 6, 7, 9, 11, 34, 35] (L' := [(1, .slice A1 l1.length c1), (5, .int .i64 (wi (1 + (wi (Int.tmod (IntKind.wrap .u64 a0) 64))))), (6, .int .i64 (imin (l1.length : Int) 100)), (7, .pointer (some ⟨b24, 0, none⟩)), (9, .int .i64 (wi (x9_l2 + 1))), (11, .int .u64 x11_l2), (34, .int .i64 (imin (l1.length : Int) 100)), (35, .int .i64 x35_l1)]) (w' := w) (by kernel_rfl) ?_
      refine WR.nil ?_
      refine At.blockNormal ?_
      refine At.go ?_
      refine WC.reg [0, 1, 2, 3, 4] (by kernel_rfl) (by kernel_rfl) ?_
      refine WR.runk [0, 1, 2, 3, 4] [] [1, 5, 6, 7, 9, 11, 34, 35] (L' := [(1, .slice A1 l1.length c1), (5, .int .i64 (wi (1 + (wi (Int.tmod (IntKind.wrap .u64 a0) 64))))), (6, .int .i64 (imin (l1.length : Int) 100)), (7, .pointer (some ⟨b24, 0, none⟩)), (9, .int .i64 (wi (x9_l2 + 1))), (11, .int .u64 (iand .u64 x11_l2 (IntKind.wrap .u64 (x11_l2 - 1)))), (34, .int .i64 (imin (l1.length : Int) 100)), (35, .int .i64 x35_l1)]) (w' := w) (by kernel_rfl) ?_
      refine WR.nil ?_
      have hS : Sat w (rf w0) [O55 b24 r29.2] := hS.sel [0] (by kernel_rfl)
      refine At.again ?_
      refine WL.weaken [1, 5, 6, 7, 9, 11, 34, 35] (L' := [(1, .slice A1 l1.length c1), (5, .int .i64 (wi (1 + (wi (Int.tmod (IntKind.wrap .u64 a0) 64))))), (6, .int .i64 (imin (l1.length : Int) 100)), (7, .pointer (some ⟨b24, 0, none⟩)), (9, .int .i64 (wi (x9_l2 + 1))), (11, .int .u64 (iand .u64 x11_l2 (IntKind.wrap .u64 (x11_l2 - 1)))), (34, .int .i64 (imin (l1.length : Int) 100)), (35, .int .i64 x35_l1)]) (by kernel_rfl) ?_
      exact ih (wi (x9_l2 + 1)) (iand .u64 x11_l2 (IntKind.wrap .u64 (x11_l2 - 1))) _ hS H
    · replace H := ite_f H hb38
      refine WC.exit (by kernel_rfl) ?_
      refine At.thenExit ?_
      refine At.thenExit ?_
      obtain rfl := Option.some.inj H
      have hS : Sat w (rf w0) [O55 b24 r29.2] := hS.sel [0] (by kernel_rfl)
      refine At.weaken [1, 5, 6, 7, 9, 34, 35] (L' := [(1, .slice A1 l1.length c1), (5, .int .i64 (wi (1 + (wi (Int.tmod (IntKind.wrap .u64 a0) 64))))), (6, .int .i64 (imin (l1.length : Int) 100)), (7, .pointer (some ⟨b24, 0, none⟩)), (9, .int .i64 x9_l2), (34, .int .i64 (imin (l1.length : Int) 100)), (35, .int .i64 x35_l1)]) (by kernel_rfl) ?_
      exact hn0 _ hS
theorem colophonlaw01_PackWords.l1_ok {Q} (w0 : World) (a0 : Int) (A1 : Option Addr) (c1 : Nat) (l1 : List Int) (b24 : Nat) (R1 : rdS (r0 (.int .u64)) 1 (hp w0) A1 c1 l1) (out : Int × (Int × Int × (List Int))) (hn0 : ∀ (w : World), Sat w (rf w0) [O55 b24 out.2] → At Q (.exit 0) 111 [(5, .int .i64 (wi (1 + (wi (Int.tmod (IntKind.wrap .u64 a0) 64))))), (6, .int .i64 (imin (l1.length : Int) 100)), (7, .pointer (some ⟨b24, 0, none⟩)), (9, .int .i64 out.1)] w) :
    ∀ (k : Nat) (x9_l1 : Int) (x35_l1 : Int) (q25_l1 : Int × Int × (List Int)) (w : World), Sat w (rf w0) [O55 b24 q25_l1] → colophonlaw01_PackWords.l1 a0 l1 k x9_l1 x35_l1 q25_l1 = some out → WL Try.prog (cbody (cbody (cr (cl (cr (cr (cr (cr (cr (cr C4)))))))))) Q 111 [(1, .slice A1 l1.length c1), (5, .int .i64 (wi (1 + (wi (Int.tmod (IntKind.wrap .u64 a0) 64))))), (6, .int .i64 (imin (l1.length : Int) 100)), (7, .pointer (some ⟨b24, 0, none⟩)), (9, .int .i64 x9_l1), (34, .int .i64 (imin (l1.length : Int) 100)), (35, .int .i64 x35_l1)] w := by
  intro k
  induction k with
  | zero => intro x9_l1 x35_l1 q25_l1 w hS H; exact absurd (show none = some out from H) (by simp)
  | succ k ih =>
    intro x9_l1 x35_l1 q25_l1 w hS H
    unfold colophonlaw01_PackWords.l1 at H
    refine WL.round ?_
    refine WC.seq (by kernel_rfl) ?_
    refine WC.reg [0] (by kernel_rfl) (by kernel_rfl) ?_
    refine WR.runk [0] [] [1, 5, 6, 7, 9, 34, 35, 36] (L' := [(1, .slice A1 l1.length c1), (5, .int .i64 (wi (1 + (wi (Int.tmod (IntKind.wrap .u64 a0) 64))))), (6, .int .i64 (imin (l1.length : Int) 100)), (7, .pointer (some ⟨b24, 0, none⟩)), (9, .int .i64 x9_l1), (34, .int .i64 (imin (l1.length : Int) 100)), (35, .int .i64 x35_l1), (36, .bool (decide (x35_l1 < imin (l1.length : Int) 100)))]) (w' := w) (by kernel_rfl) ?_
    refine WR.nil ?_
    refine At.go ?_
    refine WC.seq (by kernel_rfl) ?_
    refine WC.cond (by kernel_rfl) (decide (x35_l1 < imin (l1.length : Int) 100)) (by kernel_rfl) (by kernel_rfl) (fun hb26 => ?_) (fun hb26 => ?_)
    · replace H := ite_t H hb26
      refine WC.skip (by kernel_rfl) ?_
      refine At.go ?_
      refine WC.seq (by kernel_rfl) ?_
      refine WC.block (by kernel_rfl) ?_
      refine WC.seq (by kernel_rfl) ?_
      refine WC.reg [0, 1] (by kernel_rfl) (by kernel_rfl) ?_
      refine WR.runk [0, 1] [] [1, 5, 6, 7, 9, 10, 34, 35] (L' := [(1, .slice A1 l1.length c1), (5, .int .i64 (wi (1 + (wi (Int.tmod (IntKind.wrap .u64 a0) 64))))), (6, .int .i64 (imin (l1.length : Int) 100)), (7, .pointer (some ⟨b24, 0, none⟩)), (9, .int .i64 x9_l1), (10, .int .i64 x35_l1), (34, .int .i64 (imin (l1.length : Int) 100)), (35, .int .i64 x35_l1)]) (w' := w) (by kernel_rfl) ?_
      refine WR.nil ?_
      refine At.go ?_
      refine WC.seq (by kernel_rfl) ?_
      refine WC.reg [0, 1, 2, 3, 4, 5, 6, 7, 8] (by kernel_rfl) (by kernel_rfl) ?_
      refine WR.runk [0, 1] [2, 3, 4, 5, 6, 7, 8] [1, 5, 6, 7, 9, 10, 34, 35, 38, 39] (L' := [(1, .slice A1 l1.length c1), (5, .int .i64 (wi (1 + (wi (Int.tmod (IntKind.wrap .u64 a0) 64))))), (6, .int .i64 (imin (l1.length : Int) 100)), (7, .pointer (some ⟨b24, 0, none⟩)), (9, .int .i64 x9_l1), (10, .int .i64 x35_l1), (34, .int .i64 (imin (l1.length : Int) 100)), (35, .int .i64 x35_l1), (38, .slice A1 l1.length c1), (39, .int .i64 x35_l1)]) (w' := w) (by kernel_rfl) ?_
      obtain ⟨v27, e28, H⟩ := bind_ex H
      refine WR.st (St.ofP (PSt.idx (k := .i64) (.tmp 38) (.tmp 39) (by kernel_rfl) (by kernel_rfl) E32 (by kernel_rfl) (by kernel_rfl) (rdS.up R1 hS.sub0) e28 ?_))
      refine WR.runk [] [3, 4, 5, 6, 7, 8] [1, 5, 6, 7, 9, 10, 34, 35, 40] (L' := [(1, .slice A1 l1.length c1), (5, .int .i64 (wi (1 + (wi (Int.tmod (IntKind.wrap .u64 a0) 64))))), (6, .int .i64 (imin (l1.length : Int) 100)), (7, .pointer (some ⟨b24, 0, none⟩)), (9, .int .i64 x9_l1), (10, .int .i64 x35_l1), (34, .int .i64 (imin (l1.length : Int) 100)), (35, .int .i64 x35_l1), (40, .pointer (some (adr A1 x35_l1.toNat 1)))]) (w' := w) (by kernel_rfl) ?_
      refine WR.st (St.ofR (RSt.loadInt (t := 22) (.tmp 40) (by kernel_rfl) (by kernel_rfl) (by kernel_rfl) (by kernel_rfl) (rdS.up R1 hS.sub0) e28 ?_))
      refine WR.runk [4, 5, 6] [7, 8] [1, 5, 6, 7, 9, 10, 34, 35, 41, 44] (L' := [(1, .slice A1 l1.length c1), (5, .int .i64 (wi (1 + (wi (Int.tmod (IntKind.wrap .u64 a0) 64))))), (6, .int .i64 (imin (l1.length : Int) 100)), (7, .pointer (some ⟨b24, 0, none⟩)), (9, .int .i64 x9_l1), (10, .int .i64 x35_l1), (34, .int .i64 (imin (l1.length : Int) 100)), (35, .int .i64 x35_l1), (41, .int .u64 v27), (44, .int .u64 (IntKind.wrap .u64 (wi (64 - (wi (1 + (wi (Int.tmod (IntKind.wrap .u64 a0) 64))))))))]) (w' := w) (by kernel_rfl) ?_
      refine WR.st (St.ofP (PSt.shift (k := .u64) (k2 := .u64) (t := 22) (t2 := 33) (a := v27) (b := (IntKind.wrap .u64 (wi (64 - (wi (1 + (wi (Int.tmod (IntKind.wrap .u64 a0) 64)))))))) .shr (by decide) (.tmp 41) (.tmp 44) (by kernel_rfl) (by kernel_rfl) (by kernel_rfl) (by kernel_rfl) (wrap_u64_nonneg _) ?_))
      refine WR.runk [8] [] [1, 5, 6, 7, 9, 10, 11, 34, 35] (L' := [(1, .slice A1 l1.length c1), (5, .int .i64 (wi (1 + (wi (Int.tmod (IntKind.wrap .u64 a0) 64))))), (6, .int .i64 (imin (l1.length : Int) 100)), (7, .pointer (some ⟨b24, 0, none⟩)), (9, .int .i64 x9_l1), (10, .int .i64 x35_l1), (11, .int .u64 (ishr .u64 v27 (IntKind.wrap .u64 (wi (64 - (wi (1 + (wi (Int.tmod (IntKind.wrap .u64 a0) 64))))))))), (34, .int .i64 (imin (l1.length : Int) 100)), (35, .int .i64 x35_l1)]) (w' := w) (by kernel_rfl) ?_
      refine WR.nil ?_
      refine At.go ?_
      refine WC.seq (by kernel_rfl) ?_
      refine WC.reg [0, 1, 2, 3] (by kernel_rfl) (by kernel_rfl) ?_
      refine WR.runk [0, 1, 2] [3] [1, 5, 6, 7, 9, 11, 34, 35, 46, 47, 48] (L' := [(1, .slice A1 l1.length c1), (5, .int .i64 (wi (1 + (wi (Int.tmod (IntKind.wrap .u64 a0) 64))))), (6, .int .i64 (imin (l1.length : Int) 100)), (7, .pointer (some ⟨b24, 0, none⟩)), (9, .int .i64 x9_l1), (11, .int .u64 (ishr .u64 v27 (IntKind.wrap .u64 (wi (64 - (wi (1 + (wi (Int.tmod (IntKind.wrap .u64 a0) 64))))))))), (34, .int .i64 (imin (l1.length : Int) 100)), (35, .int .i64 x35_l1), (46, .pointer (some ⟨b24, 0, none⟩)), (47, .int .i64 x35_l1), (48, .int .u64 (ishr .u64 v27 (IntKind.wrap .u64 (wi (64 - (wi (1 + (wi (Int.tmod (IntKind.wrap .u64 a0) 64)))))))))]) (w' := w) (by kernel_rfl) ?_
      obtain ⟨r29, e30, H⟩ := bind_ex H
      obtain ⟨B35, hso34, hsub32, hcs33, hb31⟩ := Sat.lend [O55 b24 q25_l1] (cs := []) hS
      refine WR.st (St.call (by kernel_rfl) (f := 12) (args := #[.pointer (some ⟨b24, 0, none⟩), .int .i64 x35_l1, .int .u64 (ishr .u64 v27 (IntKind.wrap .u64 (wi (64 - (wi (1 + (wi (Int.tmod (IntKind.wrap .u64 a0) 64))))))))]) (by kernel_rfl) (pack_Ints_Set.calls B35 w b24 q25_l1 hso34 x35_l1 (ishr .u64 v27 (IntKind.wrap .u64 (wi (64 - (wi (1 + (wi (Int.tmod (IntKind.wrap .u64 a0) 64)))))))) r29 e30) ?_)
      rintro _ w36 ⟨rfl, hS37⟩
      have hS : Sat w36 (rf w0) [O55 b24 r29.2] := hb31 _ _ hS37
      refine WR.runk [] [] [1, 5, 6, 7, 9, 11, 34, 35] (L' := [(1, .slice A1 l1.length c1), (5, .int .i64 (wi (1 + (wi (Int.tmod (IntKind.wrap .u64 a0) 64))))), (6, .int .i64 (imin (l1.length : Int) 100)), (7, .pointer (some ⟨b24, 0, none⟩)), (9, .int .i64 x9_l1), (11, .int .u64 (ishr .u64 v27 (IntKind.wrap .u64 (wi (64 - (wi (1 + (wi (Int.tmod (IntKind.wrap .u64 a0) 64))))))))), (34, .int .i64 (imin (l1.length : Int) 100)), (35, .int .i64 x35_l1)]) (w' := w36) (by kernel_rfl) ?_
      refine WR.nil ?_
      refine At.go ?_
      refine WC.block (by kernel_rfl) ?_
      have hS : Sat w36 (rf w0) [O55 b24 r29.2] := hS.sel [0] (by kernel_rfl)
      obtain ⟨o39, e40, H⟩ := bind_ex H
      refine WC.loop (by kernel_rfl) ?_
      refine WL.weaken [1, 5, 6, 7, 9, 11, 34, 35] (L' := [(1, .slice A1 l1.length c1), (5, .int .i64 (wi (1 + (wi (Int.tmod (IntKind.wrap .u64 a0) 64))))), (6, .int .i64 (imin (l1.length : Int) 100)), (7, .pointer (some ⟨b24, 0, none⟩)), (9, .int .i64 x9_l1), (11, .int .u64 (ishr .u64 v27 (IntKind.wrap .u64 (wi (64 - (wi (1 + (wi (Int.tmod (IntKind.wrap .u64 a0) 64))))))))), (34, .int .i64 (imin (l1.length : Int) 100)), (35, .int .i64 x35_l1)]) (by kernel_rfl) ?_
      refine colophonlaw01_PackWords.l2_ok w0 a0 A1 c1 l1 b24 x35_l1 r29 o39 (fun w42 hS => ?_) FU x9_l1 (ishr .u64 v27 (IntKind.wrap .u64 (wi (64 - (wi (1 + (wi (Int.tmod (IntKind.wrap .u64 a0) 64)))))))) _ hS e40
      refine At.hit ?_
      refine At.blockNormal ?_
      refine At.go ?_
      refine WC.reg [0, 1] (by kernel_rfl) (by kernel_rfl) ?_
      refine WR.runk [0, 1] [] [1, 5, 6, 7, 9, 34, 35] (L' := [(1, .slice A1 l1.length c1), (5, .int .i64 (wi (1 + (wi (Int.tmod (IntKind.wrap .u64 a0) 64))))), (6, .int .i64 (imin (l1.length : Int) 100)), (7, .pointer (some ⟨b24, 0, none⟩)), (9, .int .i64 o39), (34, .int .i64 (imin (l1.length : Int) 100)), (35, .int .i64 (wi (x35_l1 + 1)))]) (w' := w42) (by kernel_rfl) ?_
      refine WR.nil ?_
      have hS : Sat w42 (rf w0) [O55 b24 r29.2] := hS.sel [0] (by kernel_rfl)
      refine At.again ?_
      refine WL.weaken [1, 5, 6, 7, 9, 34, 35] (L' := [(1, .slice A1 l1.length c1), (5, .int .i64 (wi (1 + (wi (Int.tmod (IntKind.wrap .u64 a0) 64))))), (6, .int .i64 (imin (l1.length : Int) 100)), (7, .pointer (some ⟨b24, 0, none⟩)), (9, .int .i64 o39), (34, .int .i64 (imin (l1.length : Int) 100)), (35, .int .i64 (wi (x35_l1 + 1)))]) (by kernel_rfl) ?_
      exact ih o39 (wi (x35_l1 + 1)) r29.2 _ hS H
    · replace H := ite_f H hb26
      refine WC.exit (by kernel_rfl) ?_
      refine At.thenExit ?_
      refine At.thenExit ?_
      obtain rfl := Option.some.inj H
      have hS : Sat w (rf w0) [O55 b24 q25_l1] := hS.sel [0] (by kernel_rfl)
      refine At.weaken [5, 6, 7, 9] (L' := [(5, .int .i64 (wi (1 + (wi (Int.tmod (IntKind.wrap .u64 a0) 64))))), (6, .int .i64 (imin (l1.length : Int) 100)), (7, .pointer (some ⟨b24, 0, none⟩)), (9, .int .i64 x9_l1)]) (by kernel_rfl) ?_
      exact hn0 _ hS
theorem colophonlaw01_PackWords.l4_ok {Q} (w0 : World) (a0 : Int) (l1 : List Int) (b24 : Nat) (o44 : Int × (Int × Int × (List Int))) (r49 : (List Int)) (A58 : Option Addr) (c59 : Nat) (x63_l3 : Int) (out : Int) (hn0 : ∀ (w : World), Sat w (rf w0) [osl 22 (r0 (.int .u64)) 1 A58 c59 r49, O55 b24 o44.2] → At Q (.exit 6) 111 [(5, .int .i64 (wi (1 + (wi (Int.tmod (IntKind.wrap .u64 a0) 64))))), (6, .int .i64 (imin (l1.length : Int) 100)), (7, .pointer (some ⟨b24, 0, none⟩)), (9, .int .i64 out), (12, .slice A58 r49.length c59), (61, .slice A58 r49.length c59), (62, .int .i64 (r49.length : Int)), (63, .int .i64 x63_l3)] w) :
    ∀ (k : Nat) (x9_l4 : Int) (x14_l4 : Int) (w : World), Sat w (rf w0) [osl 22 (r0 (.int .u64)) 1 A58 c59 r49, O55 b24 o44.2] → colophonlaw01_PackWords.l4 k x9_l4 x14_l4 = some out → WL Try.prog (cbody (cbody (cr (cbody (cl (cr (cr (cbody (cbody (cr (cl (cr (cr (cr (cr (cr (cr (cr (cr C4))))))))))))))))))) Q 111 [(5, .int .i64 (wi (1 + (wi (Int.tmod (IntKind.wrap .u64 a0) 64))))), (6, .int .i64 (imin (l1.length : Int) 100)), (7, .pointer (some ⟨b24, 0, none⟩)), (9, .int .i64 x9_l4), (12, .slice A58 r49.length c59), (14, .int .u64 x14_l4), (61, .slice A58 r49.length c59), (62, .int .i64 (r49.length : Int)), (63, .int .i64 x63_l3)] w := by
  intro k
  induction k with
  | zero => intro x9_l4 x14_l4 w hS H; exact absurd (show none = some out from H) (by simp)
  | succ k ih =>
    intro x9_l4 x14_l4 w hS H
    unfold colophonlaw01_PackWords.l4 at H
    refine WL.round ?_
    refine WC.seq (by kernel_rfl) ?_
    refine WC.seq (by kernel_rfl) ?_
    refine WC.reg [0, 1] (by kernel_rfl) (by kernel_rfl) ?_
    refine WR.runk [0, 1] [] [5, 6, 7, 9, 12, 14, 61, 62, 63, 68] (L' := [(5, .int .i64 (wi (1 + (wi (Int.tmod (IntKind.wrap .u64 a0) 64))))), (6, .int .i64 (imin (l1.length : Int) 100)), (7, .pointer (some ⟨b24, 0, none⟩)), (9, .int .i64 x9_l4), (12, .slice A58 r49.length c59), (14, .int .u64 x14_l4), (61, .slice A58 r49.length c59), (62, .int .i64 (r49.length : Int)), (63, .int .i64 x63_l3), (68, .bool (decide (x14_l4 > 0)))]) (w' := w) (by kernel_rfl) ?_
    refine WR.nil ?_
    refine At.go ?_
    refine WC.cond (by kernel_rfl) (decide (x14_l4 > 0)) (by kernel_rfl) (by kernel_rfl) (fun hb63 => ?_) (fun hb63 => ?_)
    · replace H := ite_t H hb63
      refine WC.skip (by kernel_rfl) ?_
      refine At.go ?_
      refine WC.seq (by kernel_rfl) ?_
      refine WC.block (by kernel_rfl) ?_
      refine WC.reg [0, 1, 2] (by kernel_rfl) (by kernel_rfl) ?_
      refine WR.runk [0, 1, 2] [] [5, 6, 7, 9, 12, 14, 61, 62, 63] (L' := [(5, .int .i64 (wi (1 + (wi (Int.tmod (IntKind.wrap .u64 a0) 64))))), (6, .int .i64 (imin (l1.length : Int) 100)), (7, .pointer (some ⟨b24, 0, none⟩)), (9, .int .i64 (wi (x9_l4 - 1))), (12, .slice A58 r49.length c59), (14, .int .u64 x14_l4), (61, .slice A58 r49.length c59), (62, .int .i64 (r49.length : Int)), (63, .int .i64 x63_l3)]) (w' := w) (by kernel_rfl) ?_
      refine WR.nil ?_
      refine At.blockNormal ?_
      refine At.go ?_
      refine WC.reg [0, 1, 2, 3, 4] (by kernel_rfl) (by kernel_rfl) ?_
      refine WR.runk [0, 1, 2, 3, 4] [] [5, 6, 7, 9, 12, 14, 61, 62, 63] (L' := [(5, .int .i64 (wi (1 + (wi (Int.tmod (IntKind.wrap .u64 a0) 64))))), (6, .int .i64 (imin (l1.length : Int) 100)), (7, .pointer (some ⟨b24, 0, none⟩)), (9, .int .i64 (wi (x9_l4 - 1))), (12, .slice A58 r49.length c59), (14, .int .u64 (iand .u64 x14_l4 (IntKind.wrap .u64 (x14_l4 - 1)))), (61, .slice A58 r49.length c59), (62, .int .i64 (r49.length : Int)), (63, .int .i64 x63_l3)]) (w' := w) (by kernel_rfl) ?_
      refine WR.nil ?_
      have hS : Sat w (rf w0) [osl 22 (r0 (.int .u64)) 1 A58 c59 r49, O55 b24 o44.2] := hS.sel [0, 1] (by kernel_rfl)
      refine At.again ?_
      refine WL.weaken [5, 6, 7, 9, 12, 14, 61, 62, 63] (L' := [(5, .int .i64 (wi (1 + (wi (Int.tmod (IntKind.wrap .u64 a0) 64))))), (6, .int .i64 (imin (l1.length : Int) 100)), (7, .pointer (some ⟨b24, 0, none⟩)), (9, .int .i64 (wi (x9_l4 - 1))), (12, .slice A58 r49.length c59), (14, .int .u64 (iand .u64 x14_l4 (IntKind.wrap .u64 (x14_l4 - 1)))), (61, .slice A58 r49.length c59), (62, .int .i64 (r49.length : Int)), (63, .int .i64 x63_l3)]) (by kernel_rfl) ?_
      exact ih (wi (x9_l4 - 1)) (iand .u64 x14_l4 (IntKind.wrap .u64 (x14_l4 - 1))) _ hS H
    · replace H := ite_f H hb63
      refine WC.exit (by kernel_rfl) ?_
      refine At.thenExit ?_
      refine At.thenExit ?_
      obtain rfl := Option.some.inj H
      have hS : Sat w (rf w0) [osl 22 (r0 (.int .u64)) 1 A58 c59 r49, O55 b24 o44.2] := hS.sel [0, 1] (by kernel_rfl)
      refine At.weaken [5, 6, 7, 9, 12, 61, 62, 63] (L' := [(5, .int .i64 (wi (1 + (wi (Int.tmod (IntKind.wrap .u64 a0) 64))))), (6, .int .i64 (imin (l1.length : Int) 100)), (7, .pointer (some ⟨b24, 0, none⟩)), (9, .int .i64 x9_l4), (12, .slice A58 r49.length c59), (61, .slice A58 r49.length c59), (62, .int .i64 (r49.length : Int)), (63, .int .i64 x63_l3)]) (by kernel_rfl) ?_
      exact hn0 _ hS
theorem colophonlaw01_PackWords.l3_ok {Q} (w0 : World) (a0 : Int) (l1 : List Int) (b24 : Nat) (o44 : Int × (Int × Int × (List Int))) (r49 : (List Int)) (A58 : Option Addr) (c59 : Nat) (out : Int) (hn0 : ∀ (w : World), Sat w (rf w0) [osl 22 (r0 (.int .u64)) 1 A58 c59 r49, O55 b24 o44.2] → At Q (.exit 4) 111 [(5, .int .i64 (wi (1 + (wi (Int.tmod (IntKind.wrap .u64 a0) 64))))), (6, .int .i64 (imin (l1.length : Int) 100)), (7, .pointer (some ⟨b24, 0, none⟩)), (9, .int .i64 out), (12, .slice A58 r49.length c59)] w) :
    ∀ (k : Nat) (x9_l3 : Int) (x63_l3 : Int) (w : World), Sat w (rf w0) [osl 22 (r0 (.int .u64)) 1 A58 c59 r49, O55 b24 o44.2] → colophonlaw01_PackWords.l3 r49 k x9_l3 x63_l3 = some out → WL Try.prog (cbody (cbody (cr (cl (cr (cr (cr (cr (cr (cr (cr (cr C4)))))))))))) Q 111 [(5, .int .i64 (wi (1 + (wi (Int.tmod (IntKind.wrap .u64 a0) 64))))), (6, .int .i64 (imin (l1.length : Int) 100)), (7, .pointer (some ⟨b24, 0, none⟩)), (9, .int .i64 x9_l3), (12, .slice A58 r49.length c59), (61, .slice A58 r49.length c59), (62, .int .i64 (r49.length : Int)), (63, .int .i64 x63_l3)] w := by
  intro k
  induction k with
  | zero => intro x9_l3 x63_l3 w hS H; exact absurd (show none = some out from H) (by simp)
  | succ k ih =>
    intro x9_l3 x63_l3 w hS H
    unfold colophonlaw01_PackWords.l3 at H
    refine WL.round ?_
    refine WC.seq (by kernel_rfl) ?_
    refine WC.reg [0] (by kernel_rfl) (by kernel_rfl) ?_
    refine WR.runk [0] [] [5, 6, 7, 9, 12, 61, 62, 63, 64] (L' := [(5, .int .i64 (wi (1 + (wi (Int.tmod (IntKind.wrap .u64 a0) 64))))), (6, .int .i64 (imin (l1.length : Int) 100)), (7, .pointer (some ⟨b24, 0, none⟩)), (9, .int .i64 x9_l3), (12, .slice A58 r49.length c59), (61, .slice A58 r49.length c59), (62, .int .i64 (r49.length : Int)), (63, .int .i64 x63_l3), (64, .bool (decide (x63_l3 < (r49.length : Int))))]) (w' := w) (by kernel_rfl) ?_
    refine WR.nil ?_
    refine At.go ?_
    refine WC.seq (by kernel_rfl) ?_
    refine WC.cond (by kernel_rfl) (decide (x63_l3 < (r49.length : Int))) (by kernel_rfl) (by kernel_rfl) (fun hb60 => ?_) (fun hb60 => ?_)
    · replace H := ite_t H hb60
      refine WC.skip (by kernel_rfl) ?_
      refine At.go ?_
      refine WC.seq (by kernel_rfl) ?_
      refine WC.block (by kernel_rfl) ?_
      refine WC.seq (by kernel_rfl) ?_
      refine WC.reg [0, 1, 2] (by kernel_rfl) (by kernel_rfl) ?_
      refine WR.runk [] [0, 1, 2] [5, 6, 7, 9, 12, 61, 62, 63] (L' := [(5, .int .i64 (wi (1 + (wi (Int.tmod (IntKind.wrap .u64 a0) 64))))), (6, .int .i64 (imin (l1.length : Int) 100)), (7, .pointer (some ⟨b24, 0, none⟩)), (9, .int .i64 x9_l3), (12, .slice A58 r49.length c59), (61, .slice A58 r49.length c59), (62, .int .i64 (r49.length : Int)), (63, .int .i64 x63_l3)]) (w' := w) (by kernel_rfl) ?_
      obtain ⟨v61, e62, H⟩ := bind_ex H
      refine WR.st (St.ofP (PSt.idx (k := .i64) (.tmp 61) (.tmp 63) (by kernel_rfl) (by kernel_rfl) E32 (by kernel_rfl) (by kernel_rfl) (Sat.rdAt 0 hS rfl) e62 ?_))
      refine WR.runk [] [1, 2] [5, 6, 7, 9, 12, 61, 62, 63, 65] (L' := [(5, .int .i64 (wi (1 + (wi (Int.tmod (IntKind.wrap .u64 a0) 64))))), (6, .int .i64 (imin (l1.length : Int) 100)), (7, .pointer (some ⟨b24, 0, none⟩)), (9, .int .i64 x9_l3), (12, .slice A58 r49.length c59), (61, .slice A58 r49.length c59), (62, .int .i64 (r49.length : Int)), (63, .int .i64 x63_l3), (65, .pointer (some (adr A58 x63_l3.toNat 1)))]) (w' := w) (by kernel_rfl) ?_
      refine WR.st (St.ofR (RSt.loadInt (t := 22) (.tmp 65) (by kernel_rfl) (by kernel_rfl) (by kernel_rfl) (by kernel_rfl) (Sat.rdAt 0 hS rfl) e62 ?_))
      refine WR.runk [2] [] [5, 6, 7, 9, 12, 14, 61, 62, 63] (L' := [(5, .int .i64 (wi (1 + (wi (Int.tmod (IntKind.wrap .u64 a0) 64))))), (6, .int .i64 (imin (l1.length : Int) 100)), (7, .pointer (some ⟨b24, 0, none⟩)), (9, .int .i64 x9_l3), (12, .slice A58 r49.length c59), (14, .int .u64 v61), (61, .slice A58 r49.length c59), (62, .int .i64 (r49.length : Int)), (63, .int .i64 x63_l3)]) (w' := w) (by kernel_rfl) ?_
      refine WR.nil ?_
      refine At.go ?_
      refine WC.block (by kernel_rfl) ?_
      have hS : Sat w (rf w0) [osl 22 (r0 (.int .u64)) 1 A58 c59 r49, O55 b24 o44.2] := hS.sel [0, 1] (by kernel_rfl)
      obtain ⟨o64, e65, H⟩ := bind_ex H
      refine WC.loop (by kernel_rfl) ?_
      refine WL.weaken [5, 6, 7, 9, 12, 14, 61, 62, 63] (L' := [(5, .int .i64 (wi (1 + (wi (Int.tmod (IntKind.wrap .u64 a0) 64))))), (6, .int .i64 (imin (l1.length : Int) 100)), (7, .pointer (some ⟨b24, 0, none⟩)), (9, .int .i64 x9_l3), (12, .slice A58 r49.length c59), (14, .int .u64 v61), (61, .slice A58 r49.length c59), (62, .int .i64 (r49.length : Int)), (63, .int .i64 x63_l3)]) (by kernel_rfl) ?_
      refine colophonlaw01_PackWords.l4_ok w0 a0 l1 b24 o44 r49 A58 c59 x63_l3 o64 (fun w67 hS => ?_) FU x9_l3 v61 _ hS e65
      refine At.hit ?_
      refine At.blockNormal ?_
      refine At.go ?_
      refine WC.reg [0, 1] (by kernel_rfl) (by kernel_rfl) ?_
      refine WR.runk [0, 1] [] [5, 6, 7, 9, 12, 61, 62, 63] (L' := [(5, .int .i64 (wi (1 + (wi (Int.tmod (IntKind.wrap .u64 a0) 64))))), (6, .int .i64 (imin (l1.length : Int) 100)), (7, .pointer (some ⟨b24, 0, none⟩)), (9, .int .i64 o64), (12, .slice A58 r49.length c59), (61, .slice A58 r49.length c59), (62, .int .i64 (r49.length : Int)), (63, .int .i64 (wi (x63_l3 + 1)))]) (w' := w67) (by kernel_rfl) ?_
      refine WR.nil ?_
      have hS : Sat w67 (rf w0) [osl 22 (r0 (.int .u64)) 1 A58 c59 r49, O55 b24 o44.2] := hS.sel [0, 1] (by kernel_rfl)
      refine At.again ?_
      refine WL.weaken [5, 6, 7, 9, 12, 61, 62, 63] (L' := [(5, .int .i64 (wi (1 + (wi (Int.tmod (IntKind.wrap .u64 a0) 64))))), (6, .int .i64 (imin (l1.length : Int) 100)), (7, .pointer (some ⟨b24, 0, none⟩)), (9, .int .i64 o64), (12, .slice A58 r49.length c59), (61, .slice A58 r49.length c59), (62, .int .i64 (r49.length : Int)), (63, .int .i64 (wi (x63_l3 + 1)))]) (by kernel_rfl) ?_
      exact ih o64 (wi (x63_l3 + 1)) _ hS H
    · replace H := ite_f H hb60
      refine WC.exit (by kernel_rfl) ?_
      refine At.thenExit ?_
      refine At.thenExit ?_
      obtain rfl := Option.some.inj H
      have hS : Sat w (rf w0) [osl 22 (r0 (.int .u64)) 1 A58 c59 r49, O55 b24 o44.2] := hS.sel [0, 1] (by kernel_rfl)
      refine At.weaken [5, 6, 7, 9, 12] (L' := [(5, .int .i64 (wi (1 + (wi (Int.tmod (IntKind.wrap .u64 a0) 64))))), (6, .int .i64 (imin (l1.length : Int) 100)), (7, .pointer (some ⟨b24, 0, none⟩)), (9, .int .i64 x9_l3), (12, .slice A58 r49.length c59)]) (by kernel_rfl) ?_
      exact hn0 _ hS
theorem colophonlaw01_PackWords.l5_ok {Q} (w0 : World) (l1 : List Int) (b24 : Nat) (o44 : Int × (Int × Int × (List Int))) (y87 : Int × Int × (List Int)) (b90 : Nat) (out : Sum Bool Unit) (hn0 : ∀ (o0 : Bool) (w : World), out = (.inl o0) → Sat w (rf w0) [O55 b24 o44.2, O55 b90 y87] → At Q .ret 111 [(4, .bool o0)] w) (hn1 : ∀ (o1 : Unit) (w : World), out = (.inr o1) → Sat w (rf w0) [O55 b24 o44.2, O55 b90 y87] → At Q (.exit 8) 111 [] w) :
    ∀ (k : Nat) (x100_l5 : Int) (w : World), Sat w (rf w0) [O55 b24 o44.2, O55 b90 y87] → colophonlaw01_PackWords.l5 l1 o44 y87 k x100_l5 = some out → WL Try.prog (cbody (cbody (cr (cl (cr (cr (cr (cr (cr (cr (cr (cr (cr (cr (cr C4))))))))))))))) Q 111 [(7, .pointer (some ⟨b24, 0, none⟩)), (15, .pointer (some ⟨b90, 0, none⟩)), (99, .int .i64 (imin (l1.length : Int) 100)), (100, .int .i64 x100_l5)] w := by
  intro k
  induction k with
  | zero => intro x100_l5 w hS H; exact absurd (show none = some out from H) (by simp)
  | succ k ih =>
    intro x100_l5 w hS H
    unfold colophonlaw01_PackWords.l5 at H
    refine WL.round ?_
    refine WC.seq (by kernel_rfl) ?_
    refine WC.reg [0] (by kernel_rfl) (by kernel_rfl) ?_
    refine WR.runk [0] [] [7, 15, 99, 100, 101] (L' := [(7, .pointer (some ⟨b24, 0, none⟩)), (15, .pointer (some ⟨b90, 0, none⟩)), (99, .int .i64 (imin (l1.length : Int) 100)), (100, .int .i64 x100_l5), (101, .bool (decide (x100_l5 < imin (l1.length : Int) 100)))]) (w' := w) (by kernel_rfl) ?_
    refine WR.nil ?_
    refine At.go ?_
    refine WC.seq (by kernel_rfl) ?_
    refine WC.cond (by kernel_rfl) (decide (x100_l5 < imin (l1.length : Int) 100)) (by kernel_rfl) (by kernel_rfl) (fun hb92 => ?_) (fun hb92 => ?_)
    · replace H := ite_t H hb92
      refine WC.skip (by kernel_rfl) ?_
      refine At.go ?_
      refine WC.seq (by kernel_rfl) ?_
      refine WC.block (by kernel_rfl) ?_
      refine WC.seq (by kernel_rfl) ?_
      refine WC.reg [0, 1] (by kernel_rfl) (by kernel_rfl) ?_
      refine WR.runk [0, 1] [] [7, 15, 17, 99, 100] (L' := [(7, .pointer (some ⟨b24, 0, none⟩)), (15, .pointer (some ⟨b90, 0, none⟩)), (17, .int .i64 x100_l5), (99, .int .i64 (imin (l1.length : Int) 100)), (100, .int .i64 x100_l5)]) (w' := w) (by kernel_rfl) ?_
      refine WR.nil ?_
      refine At.go ?_
      refine WC.seq (by kernel_rfl) ?_
      refine WC.reg [0, 1, 2, 3, 4, 5, 6] (by kernel_rfl) (by kernel_rfl) ?_
      refine WR.runk [0, 1] [2, 3, 4, 5, 6] [7, 15, 17, 99, 100, 103, 104] (L' := [(7, .pointer (some ⟨b24, 0, none⟩)), (15, .pointer (some ⟨b90, 0, none⟩)), (17, .int .i64 x100_l5), (99, .int .i64 (imin (l1.length : Int) 100)), (100, .int .i64 x100_l5), (103, .pointer (some ⟨b90, 0, none⟩)), (104, .int .i64 x100_l5)]) (w' := w) (by kernel_rfl) ?_
      obtain ⟨r93, e94, H⟩ := bind_ex H
      refine WR.st (St.call (by kernel_rfl) (f := 13) (args := #[.pointer (some ⟨b90, 0, none⟩), .int .i64 x100_l5]) (by kernel_rfl) (pack_Ints_Get.calls w (.pointer (some ⟨b90, 0, none⟩)) (some y87) (Sat.rdAny 1 hS rfl (fun _ h => O55.rd _ _ _ h)) x100_l5 r93 e94) ?_)
      rintro _ w100 ⟨rfl, hS101⟩
      have hS : Sat w100 (rf w0) [O55 b24 o44.2, O55 b90 y87] := hS.ext hS101
      refine WR.runk [3, 4] [5, 6] [7, 15, 99, 100, 105, 106, 107] (L' := [(7, .pointer (some ⟨b24, 0, none⟩)), (15, .pointer (some ⟨b90, 0, none⟩)), (99, .int .i64 (imin (l1.length : Int) 100)), (100, .int .i64 x100_l5), (105, .int .u64 r93), (106, .pointer (some ⟨b24, 0, none⟩)), (107, .int .i64 x100_l5)]) (w' := w100) (by kernel_rfl) ?_
      obtain ⟨r102, e103, H⟩ := bind_ex H
      refine WR.st (St.call (by kernel_rfl) (f := 13) (args := #[.pointer (some ⟨b24, 0, none⟩), .int .i64 x100_l5]) (by kernel_rfl) (pack_Ints_Get.calls w100 (.pointer (some ⟨b24, 0, none⟩)) (some o44.2) (Sat.rdAny 0 hS rfl (fun _ h => O55.rd _ _ _ h)) x100_l5 r102 e103) ?_)
      rintro _ w109 ⟨rfl, hS110⟩
      have hS : Sat w109 (rf w0) [O55 b24 o44.2, O55 b90 y87] := hS.ext hS110
      refine WR.runk [6] [] [7, 15, 99, 100, 109] (L' := [(7, .pointer (some ⟨b24, 0, none⟩)), (15, .pointer (some ⟨b90, 0, none⟩)), (99, .int .i64 (imin (l1.length : Int) 100)), (100, .int .i64 x100_l5), (109, .bool (r93 != r102))]) (w' := w109) (by kernel_rfl) ?_
      refine WR.nil ?_
      refine At.go ?_
      refine WC.cond (by kernel_rfl) (r93 != r102) (by kernel_rfl) (by kernel_rfl) (fun hb111 => ?_) (fun hb111 => ?_)
      · replace H := ite_t H hb111
        refine WC.seq (by kernel_rfl) ?_
        refine WC.reg [0] (by kernel_rfl) (by kernel_rfl) ?_
        refine WR.runk [0] [] [4] (L' := [(4, .bool false)]) (w' := w109) (by kernel_rfl) ?_
        refine WR.nil ?_
        refine At.go ?_
        refine WC.ret (by kernel_rfl) ?_
        refine At.blockRet ?_
        refine At.thenRet ?_
        refine At.thenRet ?_
        obtain rfl := Option.some.inj H
        have hS : Sat w109 (rf w0) [O55 b24 o44.2, O55 b90 y87] := hS.sel [0, 1] (by kernel_rfl)
        refine At.weaken [4] (L' := [(4, .bool false)]) (by kernel_rfl) ?_
        exact hn0 false _ rfl hS
      · replace H := ite_f H hb111
        refine WC.skip (by kernel_rfl) ?_
        refine At.blockNormal ?_
        refine At.go ?_
        refine WC.reg [0, 1] (by kernel_rfl) (by kernel_rfl) ?_
        refine WR.runk [0, 1] [] [7, 15, 99, 100] (L' := [(7, .pointer (some ⟨b24, 0, none⟩)), (15, .pointer (some ⟨b90, 0, none⟩)), (99, .int .i64 (imin (l1.length : Int) 100)), (100, .int .i64 (wi (x100_l5 + 1)))]) (w' := w109) (by kernel_rfl) ?_
        refine WR.nil ?_
        have hS : Sat w109 (rf w0) [O55 b24 o44.2, O55 b90 y87] := hS.sel [0, 1] (by kernel_rfl)
        refine At.again ?_
        refine WL.weaken [7, 15, 99, 100] (L' := [(7, .pointer (some ⟨b24, 0, none⟩)), (15, .pointer (some ⟨b90, 0, none⟩)), (99, .int .i64 (imin (l1.length : Int) 100)), (100, .int .i64 (wi (x100_l5 + 1)))]) (by kernel_rfl) ?_
        exact ih (wi (x100_l5 + 1)) _ hS H
    · replace H := ite_f H hb92
      refine WC.exit (by kernel_rfl) ?_
      refine At.thenExit ?_
      refine At.thenExit ?_
      obtain rfl := Option.some.inj H
      have hS : Sat w (rf w0) [O55 b24 o44.2, O55 b90 y87] := hS.sel [0, 1] (by kernel_rfl)
      refine At.weaken [] (L' := []) (by kernel_rfl) ?_
      exact hn1 () _ rfl hS
theorem colophonlaw01_PackWords.calls (w0 : World) (a0 : Int) (A1 : Option Addr) (c1 : Nat) (l1 : List Int) (R1 : rdS (r0 (.int .u64)) 1 (hp w0) A1 c1 l1) (r : Bool) (H : colophonlaw01_PackWords.f a0 l1 = some r) :
    Calls Try.prog 4 #[.int .i64 a0, .slice A1 l1.length c1] w0 (fun e w' => ∃ v, e = .returned v ∧ colophonlaw01_PackWords.post w0 r v w') := by
  have hS : Sat w0 (rf w0) [] := Sat.start w0
  unfold colophonlaw01_PackWords.f at H
  refine calls_of_WC (vs := [.int .i64 a0, .slice A1 l1.length c1]) Try.func4 (c := C4) (n := 111) (by kernel_rfl) (by kernel_rfl) (by kernel_rfl) ?_
  refine WC.seq (by kernel_rfl) ?_
  refine WC.reg [0] (by kernel_rfl) (by kernel_rfl) ?_
  refine WR.runk [0] [] [0, 1] (L' := [(0, .int .i64 a0), (1, .slice A1 l1.length c1)]) (w' := w0) (by kernel_rfl) ?_
  refine WR.nil ?_
  refine At.go ?_
  refine WC.seq (by kernel_rfl) ?_
  refine WC.seq (by kernel_rfl) ?_
  refine WC.reg [0, 1] (by kernel_rfl) (by kernel_rfl) ?_
  obtain ⟨r1, e2, H⟩ := bind_ex H
  refine WR.st (St.call (by kernel_rfl) (f := 9) (args := #[]) (by kernel_rfl) (colophonlaw01_first.calls w0  r1 e2) ?_)
  rintro _ w8 ⟨rfl, hS9⟩
  have hS : Sat w8 (rf w0) [] := hS.ext hS9
  refine WR.runk [1] [] [0, 1, 19] (L' := [(0, .int .i64 a0), (1, .slice A1 l1.length c1), (19, .bool (!r1))]) (w' := w8) (by kernel_rfl) ?_
  refine WR.nil ?_
  refine At.go ?_
  refine WC.cond (by kernel_rfl) (!r1) (by kernel_rfl) (by kernel_rfl) (fun hb10 => ?_) (fun hb10 => ?_)
  · replace H := ite_t H hb10
    refine WC.seq (by kernel_rfl) ?_
    refine WC.reg [0] (by kernel_rfl) (by kernel_rfl) ?_
    refine WR.runk [0] [] [4] (L' := [(4, .bool false)]) (w' := w8) (by kernel_rfl) ?_
    refine WR.nil ?_
    refine At.go ?_
    refine WC.ret (by kernel_rfl) ?_
    refine At.thenRet ?_
    obtain rfl := Option.some.inj H
    have hS : Sat w8 (rf w0) [] := hS.sel [] (by kernel_rfl)
    exact At.body [.bool false] (by kernel_rfl) ⟨_, rfl, rfl, hS⟩
  · replace H := ite_f H hb10
    refine WC.skip (by kernel_rfl) ?_
    refine At.go ?_
    refine WC.seq (by kernel_rfl) ?_
    refine WC.reg [0, 1, 2, 3, 4, 5] (by kernel_rfl) (by kernel_rfl) ?_
    refine WR.runk [0, 1, 2, 3, 4, 5] [] [1, 5] (L' := [(1, .slice A1 l1.length c1), (5, .int .i64 (wi (1 + (wi (Int.tmod (IntKind.wrap .u64 a0) 64)))))]) (w' := w8) (by kernel_rfl) ?_
    refine WR.nil ?_
    refine At.go ?_
    refine WC.seq (by kernel_rfl) ?_
    refine WC.reg [0, 1, 2, 3] (by kernel_rfl) (by kernel_rfl) ?_
    refine WR.runk [0, 1, 2, 3] [] [1, 5, 6] (L' := [(1, .slice A1 l1.length c1), (5, .int .i64 (wi (1 + (wi (Int.tmod (IntKind.wrap .u64 a0) 64))))), (6, .int .i64 (imin (l1.length : Int) 100))]) (w' := w8) (by kernel_rfl) ?_
    refine WR.nil ?_
    refine At.go ?_
    refine WC.seq (by kernel_rfl) ?_
    refine WC.reg [0, 1, 2, 3, 4, 5, 6, 7] (by kernel_rfl) (by kernel_rfl) ?_
    refine WR.runk [0, 1] [2, 3, 4, 5, 6, 7] [1, 5, 6, 29, 30] (L' := [(1, .slice A1 l1.length c1), (5, .int .i64 (wi (1 + (wi (Int.tmod (IntKind.wrap .u64 a0) 64))))), (6, .int .i64 (imin (l1.length : Int) 100)), (29, .int .i64 (wi (1 + (wi (Int.tmod (IntKind.wrap .u64 a0) 64))))), (30, .int .i64 (imin (l1.length : Int) 100))]) (w' := w8) (by kernel_rfl) ?_
    obtain ⟨r11, e12, H⟩ := bind_ex H
    refine WR.st (St.call (by kernel_rfl) (f := 11) (args := #[.int .i64 (wi (1 + (wi (Int.tmod (IntKind.wrap .u64 a0) 64)))), .int .i64 (imin (l1.length : Int) 100)]) (by kernel_rfl) (pack_New.calls w8 (wi (1 + (wi (Int.tmod (IntKind.wrap .u64 a0) 64)))) (imin (l1.length : Int) 100) r11 e12) ?_)
    rintro _ w18 ⟨pv20, rfl, hS19⟩
    have hS : Sat w18 (rf w0) [optP O55 pv20 r11.1] := hS.ext hS19
    refine WR.runk [3, 4, 5, 6, 7] [] [1, 5, 6, 7] (L' := [(1, .slice A1 l1.length c1), (5, .int .i64 (wi (1 + (wi (Int.tmod (IntKind.wrap .u64 a0) 64))))), (6, .int .i64 (imin (l1.length : Int) 100)), (7, pv20)]) (w' := w18) (by kernel_rfl) ?_
    refine WR.nil ?_
    refine At.go ?_
    refine WC.seq (by kernel_rfl) ?_
    refine WC.reg [0] (by kernel_rfl) (by kernel_rfl) ?_
    refine WR.runk [0] [] [1, 5, 6, 7, 9] (L' := [(1, .slice A1 l1.length c1), (5, .int .i64 (wi (1 + (wi (Int.tmod (IntKind.wrap .u64 a0) 64))))), (6, .int .i64 (imin (l1.length : Int) 100)), (7, pv20), (9, .int .i64 0)]) (w' := w18) (by kernel_rfl) ?_
    refine WR.nil ?_
    refine At.go ?_
    refine WC.seq (by kernel_rfl) ?_
    refine WC.seq (by kernel_rfl) ?_
    refine WC.reg [0, 1] (by kernel_rfl) (by kernel_rfl) ?_
    refine WR.runk [0, 1] [] [1, 5, 6, 7, 9, 34, 35] (L' := [(1, .slice A1 l1.length c1), (5, .int .i64 (wi (1 + (wi (Int.tmod (IntKind.wrap .u64 a0) 64))))), (6, .int .i64 (imin (l1.length : Int) 100)), (7, pv20), (9, .int .i64 0), (34, .int .i64 (imin (l1.length : Int) 100)), (35, .int .i64 0)]) (w' := w18) (by kernel_rfl) ?_
    refine WR.nil ?_
    refine At.go ?_
    refine WC.block (by kernel_rfl) ?_
    obtain ⟨y21, hr22, H⟩ := bind_ex H
    obtain ⟨b24, hv23, hN123⟩ := optP.some hS hr22
    subst hv23
    have hS : Sat w18 (rf w0) [O55 b24 y21] := hN123
    have hS : Sat w18 (rf w0) [O55 b24 y21] := hS.sel [0] (by kernel_rfl)
    obtain ⟨o44, e45, H⟩ := bind_ex H
    refine WC.loop (by kernel_rfl) ?_
    refine WL.weaken [1, 5, 6, 7, 9, 34, 35] (L' := [(1, .slice A1 l1.length c1), (5, .int .i64 (wi (1 + (wi (Int.tmod (IntKind.wrap .u64 a0) 64))))), (6, .int .i64 (imin (l1.length : Int) 100)), (7, .pointer (some ⟨b24, 0, none⟩)), (9, .int .i64 0), (34, .int .i64 (imin (l1.length : Int) 100)), (35, .int .i64 0)]) (by kernel_rfl) ?_
    refine colophonlaw01_PackWords.l1_ok w0 a0 A1 c1 l1 b24 R1 o44 (fun w47 hS => ?_) FU 0 0 y21 _ hS e45
    refine At.hit ?_
    refine At.go ?_
    refine WC.seq (by kernel_rfl) ?_
    refine WC.reg [0, 1, 2] (by kernel_rfl) (by kernel_rfl) ?_
    refine WR.runk [0] [1, 2] [5, 6, 7, 9, 59] (L' := [(5, .int .i64 (wi (1 + (wi (Int.tmod (IntKind.wrap .u64 a0) 64))))), (6, .int .i64 (imin (l1.length : Int) 100)), (7, .pointer (some ⟨b24, 0, none⟩)), (9, .int .i64 o44.1), (59, .pointer (some ⟨b24, 0, none⟩))]) (w' := w47) (by kernel_rfl) ?_
    obtain ⟨r49, e50, H⟩ := bind_ex H
    refine WR.st (St.call (by kernel_rfl) (f := 14) (args := #[.pointer (some ⟨b24, 0, none⟩)]) (by kernel_rfl) (pack_Ints_Words.calls w47 (.pointer (some ⟨b24, 0, none⟩)) (some o44.2) (Sat.rdAny 0 hS rfl (fun _ h => O55.rd _ _ _ h)) r49 e50) ?_)
    rintro _ w56 ⟨A58, c59, rfl, hS57⟩
    have hS : Sat w56 (rf w0) [osl 22 (r0 (.int .u64)) 1 A58 c59 r49, O55 b24 o44.2] := hS.ext hS57
    refine WR.runk [2] [] [5, 6, 7, 9, 12] (L' := [(5, .int .i64 (wi (1 + (wi (Int.tmod (IntKind.wrap .u64 a0) 64))))), (6, .int .i64 (imin (l1.length : Int) 100)), (7, .pointer (some ⟨b24, 0, none⟩)), (9, .int .i64 o44.1), (12, .slice A58 r49.length c59)]) (w' := w56) (by kernel_rfl) ?_
    refine WR.nil ?_
    refine At.go ?_
    refine WC.seq (by kernel_rfl) ?_
    refine WC.seq (by kernel_rfl) ?_
    refine WC.reg [0, 1, 2] (by kernel_rfl) (by kernel_rfl) ?_
    refine WR.runk [0, 1, 2] [] [5, 6, 7, 9, 12, 61, 62, 63] (L' := [(5, .int .i64 (wi (1 + (wi (Int.tmod (IntKind.wrap .u64 a0) 64))))), (6, .int .i64 (imin (l1.length : Int) 100)), (7, .pointer (some ⟨b24, 0, none⟩)), (9, .int .i64 o44.1), (12, .slice A58 r49.length c59), (61, .slice A58 r49.length c59), (62, .int .i64 (r49.length : Int)), (63, .int .i64 0)]) (w' := w56) (by kernel_rfl) ?_
    refine WR.nil ?_
    refine At.go ?_
    refine WC.block (by kernel_rfl) ?_
    have hS : Sat w56 (rf w0) [osl 22 (r0 (.int .u64)) 1 A58 c59 r49, O55 b24 o44.2] := hS.sel [0, 1] (by kernel_rfl)
    obtain ⟨o69, e70, H⟩ := bind_ex H
    refine WC.loop (by kernel_rfl) ?_
    refine WL.weaken [5, 6, 7, 9, 12, 61, 62, 63] (L' := [(5, .int .i64 (wi (1 + (wi (Int.tmod (IntKind.wrap .u64 a0) 64))))), (6, .int .i64 (imin (l1.length : Int) 100)), (7, .pointer (some ⟨b24, 0, none⟩)), (9, .int .i64 o44.1), (12, .slice A58 r49.length c59), (61, .slice A58 r49.length c59), (62, .int .i64 (r49.length : Int)), (63, .int .i64 0)]) (by kernel_rfl) ?_
    refine colophonlaw01_PackWords.l3_ok w0 a0 l1 b24 o44 r49 A58 c59 o69 (fun w72 hS => ?_) FU o44.1 0 _ hS e70
    refine At.hit ?_
    refine At.go ?_
    refine WC.seq (by kernel_rfl) ?_
    refine WC.reg [0, 1, 2, 3, 4, 5, 6, 7, 8] (by kernel_rfl) (by kernel_rfl) ?_
    refine WR.runk [0, 1, 2] [3, 4, 5, 6, 7, 8] [5, 6, 7, 9, 12, 77, 78, 79] (L' := [(5, .int .i64 (wi (1 + (wi (Int.tmod (IntKind.wrap .u64 a0) 64))))), (6, .int .i64 (imin (l1.length : Int) 100)), (7, .pointer (some ⟨b24, 0, none⟩)), (9, .int .i64 o69), (12, .slice A58 r49.length c59), (77, .int .i64 (wi (1 + (wi (Int.tmod (IntKind.wrap .u64 a0) 64))))), (78, .int .i64 (imin (l1.length : Int) 100)), (79, .slice A58 r49.length c59)]) (w' := w72) (by kernel_rfl) ?_
    obtain ⟨r74, e75, H⟩ := bind_ex H
    refine WR.st (St.call (by kernel_rfl) (f := 15) (args := #[.int .i64 (wi (1 + (wi (Int.tmod (IntKind.wrap .u64 a0) 64)))), .int .i64 (imin (l1.length : Int) 100), .slice A58 r49.length c59]) (by kernel_rfl) (pack_From.calls w72 (wi (1 + (wi (Int.tmod (IntKind.wrap .u64 a0) 64)))) (imin (l1.length : Int) 100) A58 c59 r49 (Sat.rdAt 0 hS rfl) r74 e75) ?_)
    rintro _ w81 ⟨pv83, rfl, hS82⟩
    have hS : Sat w81 (rf w0) [optP O55 pv83 r74.1, osl 22 (r0 (.int .u64)) 1 A58 c59 r49, O55 b24 o44.2] := hS.ext hS82
    refine WR.runk [4, 5, 6, 7, 8] [] [5, 6, 7, 9, 12, 15, 16] (L' := [(5, .int .i64 (wi (1 + (wi (Int.tmod (IntKind.wrap .u64 a0) 64))))), (6, .int .i64 (imin (l1.length : Int) 100)), (7, .pointer (some ⟨b24, 0, none⟩)), (9, .int .i64 o69), (12, .slice A58 r49.length c59), (15, pv83), (16, .int .i64 r74.2)]) (w' := w81) (by kernel_rfl) ?_
    refine WR.nil ?_
    refine At.go ?_
    refine WC.seq (by kernel_rfl) ?_
    refine WC.seq (by kernel_rfl) ?_
    refine WC.reg [0, 1, 2, 3, 4, 5, 6, 7, 8, 9, 10, 11, 12, 13, 14, 15] (by kernel_rfl) (by kernel_rfl) ?_
    refine WR.runk [0, 1, 2] [3, 4, 5, 6, 7, 8, 9, 10, 11, 12, 13, 14, 15] [5, 6, 7, 9, 12, 15, 85] (L' := [(5, .int .i64 (wi (1 + (wi (Int.tmod (IntKind.wrap .u64 a0) 64))))), (6, .int .i64 (imin (l1.length : Int) 100)), (7, .pointer (some ⟨b24, 0, none⟩)), (9, .int .i64 o69), (12, .slice A58 r49.length c59), (15, pv83), (85, .bool (r74.2 != 0))]) (w' := w81) (by kernel_rfl) ?_
    refine WR.split 85 (b := (r74.2 != 0)) (by kernel_rfl) (fun hb84 => ?_) (fun hb84 => ?_)
    · replace H := ite_t H hb84
      refine WR.runk [3, 4, 5, 6, 7, 8, 9, 10, 11, 12, 13, 14, 15] [] [6, 7, 15, 98] (L' := [(6, .int .i64 (imin (l1.length : Int) 100)), (7, .pointer (some ⟨b24, 0, none⟩)), (15, pv83), (98, .bool true)]) (w' := w81) (by kernel_rfl) ?_
      refine WR.nil ?_
      refine At.go ?_
      refine WC.condT (by kernel_rfl) (by kernel_rfl) (by kernel_rfl) ?_
      refine WC.seq (by kernel_rfl) ?_
      refine WC.reg [0] (by kernel_rfl) (by kernel_rfl) ?_
      refine WR.runk [0] [] [4] (L' := [(4, .bool false)]) (w' := w81) (by kernel_rfl) ?_
      refine WR.nil ?_
      refine At.go ?_
      refine WC.ret (by kernel_rfl) ?_
      refine At.thenRet ?_
      obtain rfl := Option.some.inj H
      have hS : Sat w81 (rf w0) [] := hS.sel [] (by kernel_rfl)
      exact At.body [.bool false] (by kernel_rfl) ⟨_, rfl, rfl, hS⟩
    · replace H := ite_f H hb84
      refine WR.runk [3, 4, 5, 6] [7, 8, 9, 10, 11, 12, 13, 14, 15] [5, 6, 7, 12, 15, 89] (L' := [(5, .int .i64 (wi (1 + (wi (Int.tmod (IntKind.wrap .u64 a0) 64))))), (6, .int .i64 (imin (l1.length : Int) 100)), (7, .pointer (some ⟨b24, 0, none⟩)), (12, .slice A58 r49.length c59), (15, pv83), (89, .bool (o69 != 0))]) (w' := w81) (by kernel_rfl) ?_
      refine WR.split 89 (b := (o69 != 0)) (by kernel_rfl) (fun hb85 => ?_) (fun hb85 => ?_)
      · replace H := ite_t H hb85
        refine WR.runk [7, 8, 9, 10, 11, 12, 13, 14, 15] [] [6, 7, 15, 98] (L' := [(6, .int .i64 (imin (l1.length : Int) 100)), (7, .pointer (some ⟨b24, 0, none⟩)), (15, pv83), (98, .bool true)]) (w' := w81) (by kernel_rfl) ?_
        refine WR.nil ?_
        refine At.go ?_
        refine WC.condT (by kernel_rfl) (by kernel_rfl) (by kernel_rfl) ?_
        refine WC.seq (by kernel_rfl) ?_
        refine WC.reg [0] (by kernel_rfl) (by kernel_rfl) ?_
        refine WR.runk [0] [] [4] (L' := [(4, .bool false)]) (w' := w81) (by kernel_rfl) ?_
        refine WR.nil ?_
        refine At.go ?_
        refine WC.ret (by kernel_rfl) ?_
        refine At.thenRet ?_
        obtain rfl := Option.some.inj H
        have hS : Sat w81 (rf w0) [] := hS.sel [] (by kernel_rfl)
        exact At.body [.bool false] (by kernel_rfl) ⟨_, rfl, rfl, hS⟩
      · replace H := ite_f H hb85
        refine WR.runk [7, 8, 9, 10, 11, 12, 13, 14, 15] [] [6, 7, 15, 98] (L' := [(6, .int .i64 (imin (l1.length : Int) 100)), (7, .pointer (some ⟨b24, 0, none⟩)), (15, pv83), (98, .bool ((r49.length : Int) != (wi (Int.tdiv (wi ((wi ((imin (l1.length : Int) 100) * (wi (1 + (wi (Int.tmod (IntKind.wrap .u64 a0) 64)))))) + 63)) 64))))]) (w' := w81) (by kernel_rfl) ?_
        refine WR.nil ?_
        refine At.go ?_
        refine WC.cond (by kernel_rfl) ((r49.length : Int) != (wi (Int.tdiv (wi ((wi ((imin (l1.length : Int) 100) * (wi (1 + (wi (Int.tmod (IntKind.wrap .u64 a0) 64)))))) + 63)) 64))) (by kernel_rfl) (by kernel_rfl) (fun hb86 => ?_) (fun hb86 => ?_)
        · replace H := ite_t H hb86
          refine WC.seq (by kernel_rfl) ?_
          refine WC.reg [0] (by kernel_rfl) (by kernel_rfl) ?_
          refine WR.runk [0] [] [4] (L' := [(4, .bool false)]) (w' := w81) (by kernel_rfl) ?_
          refine WR.nil ?_
          refine At.go ?_
          refine WC.ret (by kernel_rfl) ?_
          refine At.thenRet ?_
          obtain rfl := Option.some.inj H
          have hS : Sat w81 (rf w0) [] := hS.sel [] (by kernel_rfl)
          exact At.body [.bool false] (by kernel_rfl) ⟨_, rfl, rfl, hS⟩
        · replace H := ite_f H hb86
          refine WC.skip (by kernel_rfl) ?_
          refine At.go ?_
          refine WC.seq (by kernel_rfl) ?_
          refine WC.seq (by kernel_rfl) ?_
          refine WC.reg [0, 1] (by kernel_rfl) (by kernel_rfl) ?_
          refine WR.runk [0, 1] [] [7, 15, 99, 100] (L' := [(7, .pointer (some ⟨b24, 0, none⟩)), (15, pv83), (99, .int .i64 (imin (l1.length : Int) 100)), (100, .int .i64 0)]) (w' := w81) (by kernel_rfl) ?_
          refine WR.nil ?_
          refine At.go ?_
          refine WC.block (by kernel_rfl) ?_
          obtain ⟨y87, hr88, H⟩ := bind_ex H
          obtain ⟨b90, hv89, hN122⟩ := optP.some hS hr88
          subst hv89
          have hS : Sat w81 (rf w0) [O55 b90 y87, osl 22 (r0 (.int .u64)) 1 A58 c59 r49, O55 b24 o44.2] := hN122
          have hS : Sat w81 (rf w0) [O55 b24 o44.2, O55 b90 y87] := hS.sel [2, 0] (by kernel_rfl)
          obtain ⟨o112, e113, H⟩ := bind_ex H
          refine WC.loop (by kernel_rfl) ?_
          refine WL.weaken [7, 15, 99, 100] (L' := [(7, .pointer (some ⟨b24, 0, none⟩)), (15, .pointer (some ⟨b90, 0, none⟩)), (99, .int .i64 (imin (l1.length : Int) 100)), (100, .int .i64 0)]) (by kernel_rfl) ?_
          refine colophonlaw01_PackWords.l5_ok w0 l1 b24 o44 y87 b90 o112 (fun o114 w116 ho117 hS => ?_) (fun o118 w120 ho121 hS => ?_) FU 0 _ hS e113
          · subst ho117
            dsimp only at H
            refine At.blockRet ?_
            refine At.thenRet ?_
            obtain rfl := Option.some.inj H
            have hS : Sat w116 (rf w0) [] := hS.sel [] (by kernel_rfl)
            exact At.body [.bool o114] (by kernel_rfl) ⟨_, rfl, rfl, hS⟩
          · subst ho121
            dsimp only at H
            refine At.hit ?_
            refine At.go ?_
            refine WC.seq (by kernel_rfl) ?_
            refine WC.reg [0] (by kernel_rfl) (by kernel_rfl) ?_
            refine WR.runk [0] [] [4] (L' := [(4, .bool true)]) (w' := w120) (by kernel_rfl) ?_
            refine WR.nil ?_
            refine At.go ?_
            refine WC.ret (by kernel_rfl) ?_
            obtain rfl := Option.some.inj H
            have hS : Sat w120 (rf w0) [] := hS.sel [] (by kernel_rfl)
            exact At.body [.bool true] (by kernel_rfl) ⟨_, rfl, rfl, hS⟩
end Go.Proofs.Ytamlfkfdpgchiaa
