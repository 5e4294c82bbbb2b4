/-
  Printed by gen.py (my own tool): for each Go function a plain Lean function and the proof that a call of it does what that function says.
-/
import Derived.Test.YtamlfkfdpgchiaaGP1b
set_option linter.unusedVariables false
set_option linter.unusedSimpArgs false
set_option maxRecDepth 100000
namespace Go.Proofs.Ytamlfkfdpgchiaa
open Go Go.Gol
/-! ### 8 colophon/colophonlaw01.PackApart -/
noncomputable abbrev C8 : Code := Try.f8.body.getD .skip
def colophonlaw01_PackApart.l1 (a0 : Int) (l1 : List Int) (a2 : Int) : Nat → Int → (Int × Int × (List Int)) → Option (Sum (Bool × (Int × Int × (List Int))) (Int × Int × (List Int)))
  | 0, _, _ => none
  | k + 1, x32_l1, q25_l1 => (if decide (x32_l1 < imin (l1.length : Int) 80) then ((chk? (decide ((imin (l1.length : Int) 80) ≠ 0))).bind fun _ => ((at? l1 (Int.tmod (wi (x32_l1 + (wi (Int.tmod (IntKind.wrap .u64 a2) 80)))) (imin (l1.length : Int) 80))).bind fun v28 => ((pack_Ints_Set.f q25_l1 (Int.tmod (wi (x32_l1 + (wi (Int.tmod (IntKind.wrap .u64 a2) 80)))) (imin (l1.length : Int) 80)) (ishr .u64 v28 (IntKind.wrap .u64 (wi (64 - (wi (1 + (wi (Int.tmod (IntKind.wrap .u64 a0) 64))))))))).bind fun r30 => (if (!r30.1) then some (.inl (false, r30.2)) else colophonlaw01_PackApart.l1 a0 l1 a2 k (wi (x32_l1 + 1)) r30.2)))) else some (.inr q25_l1))
def colophonlaw01_PackApart.l2 (a0 : Int) (l1 : List Int) (o46 : (Int × Int × (List Int))) : Nat → Int → Option (Sum Bool Unit)
  | 0, _ => none
  | k + 1, x57_l2 => (if decide (x57_l2 < imin (l1.length : Int) 80) then ((at? l1 x57_l2).bind fun v53 => ((pack_Ints_Get.f o46 x57_l2).bind fun r55 => (if (r55 != (ishr .u64 v53 (IntKind.wrap .u64 (wi (64 - (wi (1 + (wi (Int.tmod (IntKind.wrap .u64 a0) 64))))))))) then some (.inl false) else colophonlaw01_PackApart.l2 a0 l1 o46 k (wi (x57_l2 + 1))))) else some (.inr ()))
def colophonlaw01_PackApart.f (a0 : Int) (l1 : List Int) (a2 : Int) : Option Bool := (colophonlaw01_first.f.bind fun r1 => (if (!r1) then some false else ((pack_New.f (wi (1 + (wi (Int.tmod (IntKind.wrap .u64 a0) 64)))) (imin (l1.length : Int) 80)).bind fun r11 => (r11.1.bind fun y21 => ((colophonlaw01_PackApart.l1 a0 l1 a2 FU 0 y21).bind fun o40 => (match o40 with | .inl o42 => some o42.1 | .inr o46 => ((colophonlaw01_PackApart.l2 a0 l1 o46 FU 0).bind fun o65 => (match o65 with | .inl o67 => some o67 | .inr o71 => ((pack_Ints_Get_nil0.f 0).bind fun r75 => (if (r75 == 0) then ((pack_Ints_Set_nil0.f 0 0).bind fun r85 => (if (!r85) then (pack_Ints_Len_nil0.f.bind fun r95 => (if (r95 == 0) then (pack_Ints_Width_nil0.f.bind fun r105 => (if (r105 == 0) then (pack_Ints_Words_nil0.f.bind fun r115 => some ((r115.length : Int) == 0)) else some false)) else some false)) else some false)) else some false))))))))))
def colophonlaw01_PackApart.post (w : World) (r : Bool) (v : Value) (w' : World) : Prop := v = (.bool r : Value) ∧ Sat w' (rf w) []
theorem colophonlaw01_PackApart.l1_ok {Q} (w0 : World) (a0 : Int) (A1 : Option Addr) (c1 : Nat) (l1 : List Int) (a2 : Int) (b24 : Nat) (R1 : rdS (r0 (.int .u64)) 1 (hp w0) A1 c1 l1) (out : Sum (Bool × (Int × Int × (List Int))) (Int × Int × (List Int))) (hn0 : ∀ (o0 : Bool × (Int × Int × (List Int))) (w : World), out = (.inl o0) → Sat w (rf w0) [O55 b24 o0.2] → At Q .ret 97 [(6, .bool o0.1)] w) (hn1 : ∀ (o1 : (Int × Int × (List Int))) (w : World), out = (.inr o1) → Sat w (rf w0) [O55 b24 o1] → At Q (.exit 0) 97 [(1, .slice A1 l1.length c1), (7, .int .i64 (wi (1 + (wi (Int.tmod (IntKind.wrap .u64 a0) 64))))), (8, .int .i64 (imin (l1.length : Int) 80)), (9, .pointer (some ⟨b24, 0, none⟩))] w) :
    ∀ (k : Nat) (x32_l1 : Int) (q25_l1 : Int × Int × (List Int)) (w : World), Sat w (rf w0) [O55 b24 q25_l1] → colophonlaw01_PackApart.l1 a0 l1 a2 k x32_l1 q25_l1 = some out → WL Try.prog (cbody (cbody (cr (cl (cr (cr (cr (cr (cr C8))))))))) Q 97 [(1, .slice A1 l1.length c1), (2, .int .i64 a2), (7, .int .i64 (wi (1 + (wi (Int.tmod (IntKind.wrap .u64 a0) 64))))), (8, .int .i64 (imin (l1.length : Int) 80)), (9, .pointer (some ⟨b24, 0, none⟩)), (31, .int .i64 (imin (l1.length : Int) 80)), (32, .int .i64 x32_l1)] w := by
  intro k
  induction k with
  | zero => intro x32_l1 q25_l1 w hS H; exact absurd (show none = some out from H) (by simp)
  | succ k ih =>
    intro x32_l1 q25_l1 w hS H
    unfold colophonlaw01_PackApart.l1 at H
    refine WL.round ?_
    refine WC.seq (by kernel_rfl) ?_
    refine WC.reg [0] (by kernel_rfl) (by kernel_rfl) ?_
    refine WR.runk [0] [] [1, 2, 7, 8, 9, 31, 32, 33] (L' := [(1, .slice A1 l1.length c1), (2, .int .i64 a2), (7, .int .i64 (wi (1 + (wi (Int.tmod (IntKind.wrap .u64 a0) 64))))), (8, .int .i64 (imin (l1.length : Int) 80)), (9, .pointer (some ⟨b24, 0, none⟩)), (31, .int .i64 (imin (l1.length : Int) 80)), (32, .int .i64 x32_l1), (33, .bool (decide (x32_l1 < imin (l1.length : Int) 80)))]) (w' := w) (by kernel_rfl) ?_
    refine WR.nil ?_
    refine At.go ?_
    refine WC.seq (by kernel_rfl) ?_
    refine WC.cond (by kernel_rfl) (decide (x32_l1 < imin (l1.length : Int) 80)) (by kernel_rfl) (by kernel_rfl) (fun hb26 => ?_) (fun hb26 => ?_)
    · replace H := ite_t H hb26
      refine WC.skip (by kernel_rfl) ?_
      refine At.go ?_
      refine WC.seq (by kernel_rfl) ?_
      refine WC.block (by kernel_rfl) ?_
      refine WC.seq (by kernel_rfl) ?_
      refine WC.reg [0, 1] (by kernel_rfl) (by kernel_rfl) ?_
      refine WR.runk [0, 1] [] [1, 2, 7, 8, 9, 11, 31, 32] (L' := [(1, .slice A1 l1.length c1), (2, .int .i64 a2), (7, .int .i64 (wi (1 + (wi (Int.tmod (IntKind.wrap .u64 a0) 64))))), (8, .int .i64 (imin (l1.length : Int) 80)), (9, .pointer (some ⟨b24, 0, none⟩)), (11, .int .i64 x32_l1), (31, .int .i64 (imin (l1.length : Int) 80)), (32, .int .i64 x32_l1)]) (w' := w) (by kernel_rfl) ?_
      refine WR.nil ?_
      refine At.go ?_
      refine WC.seq (by kernel_rfl) ?_
      refine WC.reg [0, 1, 2, 3, 4, 5, 6, 7, 8] (by kernel_rfl) (by kernel_rfl) ?_
      refine WR.runk [0, 1, 2, 3, 4, 5, 6] [7, 8] [1, 2, 7, 8, 9, 31, 32, 40, 41] (L' := [(1, .slice A1 l1.length c1), (2, .int .i64 a2), (7, .int .i64 (wi (1 + (wi (Int.tmod (IntKind.wrap .u64 a0) 64))))), (8, .int .i64 (imin (l1.length : Int) 80)), (9, .pointer (some ⟨b24, 0, none⟩)), (31, .int .i64 (imin (l1.length : Int) 80)), (32, .int .i64 x32_l1), (40, .int .i64 (wi (x32_l1 + (wi (Int.tmod (IntKind.wrap .u64 a2) 80))))), (41, .int .i64 (imin (l1.length : Int) 80))]) (w' := w) (by kernel_rfl) ?_
      obtain ⟨_, e27, H⟩ := bind_ex H
      refine WR.st (St.ofP (PSt.div (k := .i64) (t := 3) (t2 := 3) (a := (wi (x32_l1 + (wi (Int.tmod (IntKind.wrap .u64 a2) 80))))) (b := (imin (l1.length : Int) 80)) .rem (by decide) (.tmp 40) (.tmp 41) (by kernel_rfl) (by kernel_rfl) (by kernel_rfl) (by kernel_rfl) (of_decide_eq_true (chk?_some e27)) ?_))
      refine WR.runk [8] [] [1, 2, 7, 8, 9, 12, 31, 32] (L' := [(1, .slice A1 l1.length c1), (2, .int .i64 a2), (7, .int .i64 (wi (1 + (wi (Int.tmod (IntKind.wrap .u64 a0) 64))))), (8, .int .i64 (imin (l1.length : Int) 80)), (9, .pointer (some ⟨b24, 0, none⟩)), (12, .int .i64 (Int.tmod (wi (x32_l1 + (wi (Int.tmod (IntKind.wrap .u64 a2) 80)))) (imin (l1.length : Int) 80))), (31, .int .i64 (imin (l1.length : Int) 80)), (32, .int .i64 x32_l1)]) (w' := w) (by kernel_rfl) ?_
      refine WR.nil ?_
      refine At.go ?_
      refine WC.seq (by kernel_rfl) ?_
      refine WC.reg [0, 1, 2, 3, 4, 5, 6, 7, 8, 9, 10, 11] (by kernel_rfl) (by kernel_rfl) ?_
      refine WR.runk [0, 1, 2, 3] [4, 5, 6, 7, 8, 9, 10, 11] [1, 2, 7, 8, 9, 31, 32, 43, 44, 45, 46] (L' := [(1, .slice A1 l1.length c1), (2, .int .i64 a2), (7, .int .i64 (wi (1 + (wi (Int.tmod (IntKind.wrap .u64 a0) 64))))), (8, .int .i64 (imin (l1.length : Int) 80)), (9, .pointer (some ⟨b24, 0, none⟩)), (31, .int .i64 (imin (l1.length : Int) 80)), (32, .int .i64 x32_l1), (43, .pointer (some ⟨b24, 0, none⟩)), (44, .int .i64 (Int.tmod (wi (x32_l1 + (wi (Int.tmod (IntKind.wrap .u64 a2) 80)))) (imin (l1.length : Int) 80))), (45, .slice A1 l1.length c1), (46, .int .i64 (Int.tmod (wi (x32_l1 + (wi (Int.tmod (IntKind.wrap .u64 a2) 80)))) (imin (l1.length : Int) 80)))]) (w' := w) (by kernel_rfl) ?_
      obtain ⟨v28, e29, H⟩ := bind_ex H
      refine WR.st (St.ofP (PSt.idx (k := .i64) (.tmp 45) (.tmp 46) (by kernel_rfl) (by kernel_rfl) E32 (by kernel_rfl) (by kernel_rfl) (rdS.up R1 hS.sub0) e29 ?_))
      refine WR.runk [] [5, 6, 7, 8, 9, 10, 11] [1, 2, 7, 8, 9, 31, 32, 43, 44, 47] (L' := [(1, .slice A1 l1.length c1), (2, .int .i64 a2), (7, .int .i64 (wi (1 + (wi (Int.tmod (IntKind.wrap .u64 a0) 64))))), (8, .int .i64 (imin (l1.length : Int) 80)), (9, .pointer (some ⟨b24, 0, none⟩)), (31, .int .i64 (imin (l1.length : Int) 80)), (32, .int .i64 x32_l1), (43, .pointer (some ⟨b24, 0, none⟩)), (44, .int .i64 (Int.tmod (wi (x32_l1 + (wi (Int.tmod (IntKind.wrap .u64 a2) 80)))) (imin (l1.length : Int) 80))), (47, .pointer (some (adr A1 (Int.tmod (wi (x32_l1 + (wi (Int.tmod (IntKind.wrap .u64 a2) 80)))) (imin (l1.length : Int) 80)).toNat 1)))]) (w' := w) (by kernel_rfl) ?_
      refine WR.st (St.ofR (RSt.loadInt (t := 22) (.tmp 47) (by kernel_rfl) (by kernel_rfl) (by kernel_rfl) (by kernel_rfl) (rdS.up R1 hS.sub0) e29 ?_))
      refine WR.runk [6, 7, 8] [9, 10, 11] [1, 2, 7, 8, 9, 31, 32, 43, 44, 48, 51] (L' := [(1, .slice A1 l1.length c1), (2, .int .i64 a2), (7, .int .i64 (wi (1 + (wi (Int.tmod (IntKind.wrap .u64 a0) 64))))), (8, .int .i64 (imin (l1.length : Int) 80)), (9, .pointer (some ⟨b24, 0, none⟩)), (31, .int .i64 (imin (l1.length : Int) 80)), (32, .int .i64 x32_l1), (43, .pointer (some ⟨b24, 0, none⟩)), (44, .int .i64 (Int.tmod (wi (x32_l1 + (wi (Int.tmod (IntKind.wrap .u64 a2) 80)))) (imin (l1.length : Int) 80))), (48, .int .u64 v28), (51, .int .u64 (IntKind.wrap .u64 (wi (64 - (wi (1 + (wi (Int.tmod (IntKind.wrap .u64 a0) 64))))))))]) (w' := w) (by kernel_rfl) ?_
      refine WR.st (St.ofP (PSt.shift (k := .u64) (k2 := .u64) (t := 22) (t2 := 33) (a := v28) (b := (IntKind.wrap .u64 (wi (64 - (wi (1 + (wi (Int.tmod (IntKind.wrap .u64 a0) 64)))))))) .shr (by decide) (.tmp 48) (.tmp 51) (by kernel_rfl) (by kernel_rfl) (by kernel_rfl) (by kernel_rfl) (wrap_u64_nonneg _) ?_))
      refine WR.runk [] [10, 11] [1, 2, 7, 8, 9, 31, 32, 43, 44, 52] (L' := [(1, .slice A1 l1.length c1), (2, .int .i64 a2), (7, .int .i64 (wi (1 + (wi (Int.tmod (IntKind.wrap .u64 a0) 64))))), (8, .int .i64 (imin (l1.length : Int) 80)), (9, .pointer (some ⟨b24, 0, none⟩)), (31, .int .i64 (imin (l1.length : Int) 80)), (32, .int .i64 x32_l1), (43, .pointer (some ⟨b24, 0, none⟩)), (44, .int .i64 (Int.tmod (wi (x32_l1 + (wi (Int.tmod (IntKind.wrap .u64 a2) 80)))) (imin (l1.length : Int) 80))), (52, .int .u64 (ishr .u64 v28 (IntKind.wrap .u64 (wi (64 - (wi (1 + (wi (Int.tmod (IntKind.wrap .u64 a0) 64)))))))))]) (w' := w) (by kernel_rfl) ?_
      obtain ⟨r30, e31, H⟩ := bind_ex H
      obtain ⟨B36, hso35, hsub33, hcs34, hb32⟩ := Sat.lend [O55 b24 q25_l1] (cs := []) hS
      refine WR.st (St.call (by kernel_rfl) (f := 12) (args := #[.pointer (some ⟨b24, 0, none⟩), .int .i64 (Int.tmod (wi (x32_l1 + (wi (Int.tmod (IntKind.wrap .u64 a2) 80)))) (imin (l1.length : Int) 80)), .int .u64 (ishr .u64 v28 (IntKind.wrap .u64 (wi (64 - (wi (1 + (wi (Int.tmod (IntKind.wrap .u64 a0) 64))))))))]) (by kernel_rfl) (pack_Ints_Set.calls B36 w b24 q25_l1 hso35 (Int.tmod (wi (x32_l1 + (wi (Int.tmod (IntKind.wrap .u64 a2) 80)))) (imin (l1.length : Int) 80)) (ishr .u64 v28 (IntKind.wrap .u64 (wi (64 - (wi (1 + (wi (Int.tmod (IntKind.wrap .u64 a0) 64)))))))) r30 e31) ?_)
      rintro _ w37 ⟨rfl, hS38⟩
      have hS : Sat w37 (rf w0) [O55 b24 r30.2] := hb32 _ _ hS38
      refine WR.runk [11] [] [1, 2, 7, 8, 9, 31, 32, 54] (L' := [(1, .slice A1 l1.length c1), (2, .int .i64 a2), (7, .int .i64 (wi (1 + (wi (Int.tmod (IntKind.wrap .u64 a0) 64))))), (8, .int .i64 (imin (l1.length : Int) 80)), (9, .pointer (some ⟨b24, 0, none⟩)), (31, .int .i64 (imin (l1.length : Int) 80)), (32, .int .i64 x32_l1), (54, .bool (!r30.1))]) (w' := w37) (by kernel_rfl) ?_
      refine WR.nil ?_
      refine At.go ?_
      refine WC.cond (by kernel_rfl) (!r30.1) (by kernel_rfl) (by kernel_rfl) (fun hb39 => ?_) (fun hb39 => ?_)
      · replace H := ite_t H hb39
        refine WC.seq (by kernel_rfl) ?_
        refine WC.reg [0] (by kernel_rfl) (by kernel_rfl) ?_
        refine WR.runk [0] [] [6] (L' := [(6, .bool false)]) (w' := w37) (by kernel_rfl) ?_
        refine WR.nil ?_
        refine At.go ?_
        refine WC.ret (by kernel_rfl) ?_
        refine At.blockRet ?_
        refine At.thenRet ?_
        refine At.thenRet ?_
        obtain rfl := Option.some.inj H
        have hS : Sat w37 (rf w0) [O55 b24 r30.2] := hS.sel [0] (by kernel_rfl)
        refine At.weaken [6] (L' := [(6, .bool false)]) (by kernel_rfl) ?_
        exact hn0 (false, r30.2) _ rfl hS
      · replace H := ite_f H hb39
        refine WC.skip (by kernel_rfl) ?_
        refine At.blockNormal ?_
        refine At.go ?_
        refine WC.reg [0, 1] (by kernel_rfl) (by kernel_rfl) ?_
        refine WR.runk [0, 1] [] [1, 2, 7, 8, 9, 31, 32] (L' := [(1, .slice A1 l1.length c1), (2, .int .i64 a2), (7, .int .i64 (wi (1 + (wi (Int.tmod (IntKind.wrap .u64 a0) 64))))), (8, .int .i64 (imin (l1.length : Int) 80)), (9, .pointer (some ⟨b24, 0, none⟩)), (31, .int .i64 (imin (l1.length : Int) 80)), (32, .int .i64 (wi (x32_l1 + 1)))]) (w' := w37) (by kernel_rfl) ?_
        refine WR.nil ?_
        have hS : Sat w37 (rf w0) [O55 b24 r30.2] := hS.sel [0] (by kernel_rfl)
        refine At.again ?_
        refine WL.weaken [1, 2, 7, 8, 9, 31, 32] (L' := [(1, .slice A1 l1.length c1), (2, .int .i64 a2), (7, .int .i64 (wi (1 + (wi (Int.tmod (IntKind.wrap .u64 a0) 64))))), (8, .int .i64 (imin (l1.length : Int) 80)), (9, .pointer (some ⟨b24, 0, none⟩)), (31, .int .i64 (imin (l1.length : Int) 80)), (32, .int .i64 (wi (x32_l1 + 1)))]) (by kernel_rfl) ?_
        exact ih (wi (x32_l1 + 1)) r30.2 _ hS H
    · replace H := ite_f H hb26
      refine WC.exit (by kernel_rfl) ?_
      refine At.thenExit ?_
      refine At.thenExit ?_
      obtain rfl := Option.some.inj H
      have hS : Sat w (rf w0) [O55 b24 q25_l1] := hS.sel [0] (by kernel_rfl)
      refine At.weaken [1, 7, 8, 9] (L' := [(1, .slice A1 l1.length c1), (7, .int .i64 (wi (1 + (wi (Int.tmod (IntKind.wrap .u64 a0) 64))))), (8, .int .i64 (imin (l1.length : Int) 80)), (9, .pointer (some ⟨b24, 0, none⟩))]) (by kernel_rfl) ?_
      exact hn1 q25_l1 _ rfl hS
theorem colophonlaw01_PackApart.l2_ok {Q} (w0 : World) (a0 : Int) (A1 : Option Addr) (c1 : Nat) (l1 : List Int) (b24 : Nat) (o46 : (Int × Int × (List Int))) (R1 : rdS (r0 (.int .u64)) 1 (hp w0) A1 c1 l1) (out : Sum Bool Unit) (hn0 : ∀ (o0 : Bool) (w : World), out = (.inl o0) → Sat w (rf w0) [O55 b24 o46] → At Q .ret 97 [(6, .bool o0)] w) (hn1 : ∀ (o1 : Unit) (w : World), out = (.inr o1) → Sat w (rf w0) [O55 b24 o46] → At Q (.exit 2) 97 [] w) :
    ∀ (k : Nat) (x57_l2 : Int) (w : World), Sat w (rf w0) [O55 b24 o46] → colophonlaw01_PackApart.l2 a0 l1 o46 k x57_l2 = some out → WL Try.prog (cbody (cbody (cr (cl (cr (cr (cr (cr (cr (cr C8)))))))))) Q 97 [(1, .slice A1 l1.length c1), (7, .int .i64 (wi (1 + (wi (Int.tmod (IntKind.wrap .u64 a0) 64))))), (9, .pointer (some ⟨b24, 0, none⟩)), (56, .int .i64 (imin (l1.length : Int) 80)), (57, .int .i64 x57_l2)] w := by
  intro k
  induction k with
  | zero => intro x57_l2 w hS H; exact absurd (show none = some out from H) (by simp)
  | succ k ih =>
    intro x57_l2 w hS H
    unfold colophonlaw01_PackApart.l2 at H
    refine WL.round ?_
    refine WC.seq (by kernel_rfl) ?_
    refine WC.reg [0] (by kernel_rfl) (by kernel_rfl) ?_
    refine WR.runk [0] [] [1, 7, 9, 56, 57, 58] (L' := [(1, .slice A1 l1.length c1), (7, .int .i64 (wi (1 + (wi (Int.tmod (IntKind.wrap .u64 a0) 64))))), (9, .pointer (some ⟨b24, 0, none⟩)), (56, .int .i64 (imin (l1.length : Int) 80)), (57, .int .i64 x57_l2), (58, .bool (decide (x57_l2 < imin (l1.length : Int) 80)))]) (w' := w) (by kernel_rfl) ?_
    refine WR.nil ?_
    refine At.go ?_
    refine WC.seq (by kernel_rfl) ?_
    refine WC.cond (by kernel_rfl) (decide (x57_l2 < imin (l1.length : Int) 80)) (by kernel_rfl) (by kernel_rfl) (fun hb50 => ?_) (fun hb50 => ?_)
    · replace H := ite_t H hb50
      refine WC.skip (by kernel_rfl) ?_
      refine At.go ?_
      refine WC.seq (by kernel_rfl) ?_
      refine WC.block (by kernel_rfl) ?_
      refine WC.seq (by kernel_rfl) ?_
      refine WC.reg [0, 1] (by kernel_rfl) (by kernel_rfl) ?_
      refine WR.runk [0, 1] [] [1, 7, 9, 13, 56, 57] (L' := [(1, .slice A1 l1.length c1), (7, .int .i64 (wi (1 + (wi (Int.tmod (IntKind.wrap .u64 a0) 64))))), (9, .pointer (some ⟨b24, 0, none⟩)), (13, .int .i64 x57_l2), (56, .int .i64 (imin (l1.length : Int) 80)), (57, .int .i64 x57_l2)]) (w' := w) (by kernel_rfl) ?_
      refine WR.nil ?_
      refine At.go ?_
      refine WC.seq (by kernel_rfl) ?_
      refine WC.drawn (by kernel_rfl) (by kernel_rfl) 12 (by kernel_rfl) (fun w51 hw52 => ?_)
      have hS := hS.heap hw52.1 hw52.2
      refine WD.weaken [1, 7, 9, 13, 56, 57] (L' := [(1, .slice A1 l1.length c1), (7, .int .i64 (wi (1 + (wi (Int.tmod (IntKind.wrap .u64 a0) 64))))), (9, .pointer (some ⟨b24, 0, none⟩)), (13, .int .i64 x57_l2), (56, .int .i64 (imin (l1.length : Int) 80)), (57, .int .i64 x57_l2)]) (by kernel_rfl) ?_
      refine WD.pure (i := 0) (v := .pointer (some ⟨b24, 0, none⟩)) (by kernel_rfl) (by kernel_rfl) (fun _ => by kernel_rfl) ?_
      refine WD.weaken [1, 7, 9, 13, 56, 57, 60] (L' := [(1, .slice A1 l1.length c1), (7, .int .i64 (wi (1 + (wi (Int.tmod (IntKind.wrap .u64 a0) 64))))), (9, .pointer (some ⟨b24, 0, none⟩)), (13, .int .i64 x57_l2), (56, .int .i64 (imin (l1.length : Int) 80)), (57, .int .i64 x57_l2), (60, .pointer (some ⟨b24, 0, none⟩))]) (by kernel_rfl) ?_
      refine WD.pure (i := 1) (v := .int .i64 x57_l2) (by kernel_rfl) (by kernel_rfl) (fun _ => by kernel_rfl) ?_
      refine WD.weaken [1, 7, 9, 13, 56, 57, 60, 61] (L' := [(1, .slice A1 l1.length c1), (7, .int .i64 (wi (1 + (wi (Int.tmod (IntKind.wrap .u64 a0) 64))))), (9, .pointer (some ⟨b24, 0, none⟩)), (13, .int .i64 x57_l2), (56, .int .i64 (imin (l1.length : Int) 80)), (57, .int .i64 x57_l2), (60, .pointer (some ⟨b24, 0, none⟩)), (61, .int .i64 x57_l2)]) (by kernel_rfl) ?_
      refine WD.pure (i := 3) (v := .slice A1 l1.length c1) (by kernel_rfl) (by kernel_rfl) (fun _ => by kernel_rfl) ?_
      refine WD.weaken [1, 7, 9, 13, 56, 57, 60, 61, 63] (L' := [(1, .slice A1 l1.length c1), (7, .int .i64 (wi (1 + (wi (Int.tmod (IntKind.wrap .u64 a0) 64))))), (9, .pointer (some ⟨b24, 0, none⟩)), (13, .int .i64 x57_l2), (56, .int .i64 (imin (l1.length : Int) 80)), (57, .int .i64 x57_l2), (60, .pointer (some ⟨b24, 0, none⟩)), (61, .int .i64 x57_l2), (63, .slice A1 l1.length c1)]) (by kernel_rfl) ?_
      refine WD.pure (i := 4) (v := .int .i64 x57_l2) (by kernel_rfl) (by kernel_rfl) (fun _ => by kernel_rfl) ?_
      refine WD.weaken [1, 7, 9, 56, 57, 60, 61, 63, 64] (L' := [(1, .slice A1 l1.length c1), (7, .int .i64 (wi (1 + (wi (Int.tmod (IntKind.wrap .u64 a0) 64))))), (9, .pointer (some ⟨b24, 0, none⟩)), (56, .int .i64 (imin (l1.length : Int) 80)), (57, .int .i64 x57_l2), (60, .pointer (some ⟨b24, 0, none⟩)), (61, .int .i64 x57_l2), (63, .slice A1 l1.length c1), (64, .int .i64 x57_l2)]) (by kernel_rfl) ?_
      obtain ⟨v53, e54, H⟩ := bind_ex H
      refine WD.ofP (i := 5) (by kernel_rfl) (PSt.idx (k := .i64) (.tmp 63) (.tmp 64) (by kernel_rfl) (by kernel_rfl) E32 (by kernel_rfl) (by kernel_rfl) (rdS.up R1 hS.sub0) e54 ?_)
      refine WD.weaken [1, 7, 9, 56, 57, 60, 61, 65] (L' := [(1, .slice A1 l1.length c1), (7, .int .i64 (wi (1 + (wi (Int.tmod (IntKind.wrap .u64 a0) 64))))), (9, .pointer (some ⟨b24, 0, none⟩)), (56, .int .i64 (imin (l1.length : Int) 80)), (57, .int .i64 x57_l2), (60, .pointer (some ⟨b24, 0, none⟩)), (61, .int .i64 x57_l2), (65, .pointer (some (adr A1 x57_l2.toNat 1)))]) (by kernel_rfl) ?_
      refine WD.ofR (i := 6) (by kernel_rfl) (RSt.loadInt (t := 22) (.tmp 65) (by kernel_rfl) (by kernel_rfl) (by kernel_rfl) (by kernel_rfl) (rdS.up R1 hS.sub0) e54 ?_)
      refine WD.weaken [1, 7, 9, 56, 57, 60, 61, 66] (L' := [(1, .slice A1 l1.length c1), (7, .int .i64 (wi (1 + (wi (Int.tmod (IntKind.wrap .u64 a0) 64))))), (9, .pointer (some ⟨b24, 0, none⟩)), (56, .int .i64 (imin (l1.length : Int) 80)), (57, .int .i64 x57_l2), (60, .pointer (some ⟨b24, 0, none⟩)), (61, .int .i64 x57_l2), (66, .int .u64 v53)]) (by kernel_rfl) ?_
      refine WD.pure (i := 7) (v := .int .i64 (wi (1 + (wi (Int.tmod (IntKind.wrap .u64 a0) 64))))) (by kernel_rfl) (by kernel_rfl) (fun _ => by kernel_rfl) ?_
      refine WD.weaken [1, 7, 9, 56, 57, 60, 61, 66, 67] (L' := [(1, .slice A1 l1.length c1), (7, .int .i64 (wi (1 + (wi (Int.tmod (IntKind.wrap .u64 a0) 64))))), (9, .pointer (some ⟨b24, 0, none⟩)), (56, .int .i64 (imin (l1.length : Int) 80)), (57, .int .i64 x57_l2), (60, .pointer (some ⟨b24, 0, none⟩)), (61, .int .i64 x57_l2), (66, .int .u64 v53), (67, .int .i64 (wi (1 + (wi (Int.tmod (IntKind.wrap .u64 a0) 64)))))]) (by kernel_rfl) ?_
      refine WD.pure (i := 8) (v := .int .i64 (wi (64 - (wi (1 + (wi (Int.tmod (IntKind.wrap .u64 a0) 64))))))) (by kernel_rfl) (by kernel_rfl) (fun _ => by kernel_rfl) ?_
      refine WD.weaken [1, 7, 9, 56, 57, 60, 61, 66, 68] (L' := [(1, .slice A1 l1.length c1), (7, .int .i64 (wi (1 + (wi (Int.tmod (IntKind.wrap .u64 a0) 64))))), (9, .pointer (some ⟨b24, 0, none⟩)), (56, .int .i64 (imin (l1.length : Int) 80)), (57, .int .i64 x57_l2), (60, .pointer (some ⟨b24, 0, none⟩)), (61, .int .i64 x57_l2), (66, .int .u64 v53), (68, .int .i64 (wi (64 - (wi (1 + (wi (Int.tmod (IntKind.wrap .u64 a0) 64)))))))]) (by kernel_rfl) ?_
      refine WD.pure (i := 9) (v := .int .u64 (IntKind.wrap .u64 (wi (64 - (wi (1 + (wi (Int.tmod (IntKind.wrap .u64 a0) 64)))))))) (by kernel_rfl) (by kernel_rfl) (fun _ => by kernel_rfl) ?_
      refine WD.weaken [1, 7, 9, 56, 57, 60, 61, 66, 69] (L' := [(1, .slice A1 l1.length c1), (7, .int .i64 (wi (1 + (wi (Int.tmod (IntKind.wrap .u64 a0) 64))))), (9, .pointer (some ⟨b24, 0, none⟩)), (56, .int .i64 (imin (l1.length : Int) 80)), (57, .int .i64 x57_l2), (60, .pointer (some ⟨b24, 0, none⟩)), (61, .int .i64 x57_l2), (66, .int .u64 v53), (69, .int .u64 (IntKind.wrap .u64 (wi (64 - (wi (1 + (wi (Int.tmod (IntKind.wrap .u64 a0) 64))))))))]) (by kernel_rfl) ?_
      refine WD.ofP (i := 10) (by kernel_rfl) (PSt.shift (k := .u64) (k2 := .u64) (t := 22) (t2 := 33) (a := v53) (b := (IntKind.wrap .u64 (wi (64 - (wi (1 + (wi (Int.tmod (IntKind.wrap .u64 a0) 64)))))))) .shr (by decide) (.tmp 66) (.tmp 69) (by kernel_rfl) (by kernel_rfl) (by kernel_rfl) (by kernel_rfl) (wrap_u64_nonneg _) ?_)
      refine WD.weaken [1, 7, 9, 56, 57, 60, 61, 70] (L' := [(1, .slice A1 l1.length c1), (7, .int .i64 (wi (1 + (wi (Int.tmod (IntKind.wrap .u64 a0) 64))))), (9, .pointer (some ⟨b24, 0, none⟩)), (56, .int .i64 (imin (l1.length : Int) 80)), (57, .int .i64 x57_l2), (60, .pointer (some ⟨b24, 0, none⟩)), (61, .int .i64 x57_l2), (70, .int .u64 (ishr .u64 v53 (IntKind.wrap .u64 (wi (64 - (wi (1 + (wi (Int.tmod (IntKind.wrap .u64 a0) 64)))))))))]) (by kernel_rfl) ?_
      obtain ⟨r55, e56, H⟩ := bind_ex H
      obtain ⟨B61, hso60, hsub58, hcs59, hb57⟩ := Sat.lend [O55 b24 o46] (cs := []) hS
      refine WD.act (i := 2) (by kernel_rfl) (St.call (by kernel_rfl) (f := 13) (args := #[.pointer (some ⟨b24, 0, none⟩), .int .i64 x57_l2]) (by kernel_rfl) (pack_Ints_Get.calls B61 w51 b24 o46 hso60 x57_l2 r55 e56) ?_)
      rintro _ w62 ⟨rfl, hS63⟩
      have hS : Sat w62 (rf w0) [O55 b24 o46] := hb57 _ _ hS63
      refine ⟨(asked.cons (RSt.run (n := 97) (RSt.loadInt (t := 22) (.tmp 65) (by kernel_rfl) (by kernel_rfl) (by kernel_rfl) (by kernel_rfl) (rdS.up R1 hS.sub0) e54 rfl)) (asked.nil _ _)), ?_⟩
      refine WD.weaken [1, 7, 9, 56, 57, 62, 70] (L' := [(1, .slice A1 l1.length c1), (7, .int .i64 (wi (1 + (wi (Int.tmod (IntKind.wrap .u64 a0) 64))))), (9, .pointer (some ⟨b24, 0, none⟩)), (56, .int .i64 (imin (l1.length : Int) 80)), (57, .int .i64 x57_l2), (62, .int .u64 r55), (70, .int .u64 (ishr .u64 v53 (IntKind.wrap .u64 (wi (64 - (wi (1 + (wi (Int.tmod (IntKind.wrap .u64 a0) 64)))))))))]) (by kernel_rfl) ?_
      refine WD.pure (i := 11) (v := .bool (r55 != (ishr .u64 v53 (IntKind.wrap .u64 (wi (64 - (wi (1 + (wi (Int.tmod (IntKind.wrap .u64 a0) 64)))))))))) (by kernel_rfl) (by kernel_rfl) (fun _ => by kernel_rfl) ?_
      refine WD.weaken [1, 7, 9, 56, 57, 71] (L' := [(1, .slice A1 l1.length c1), (7, .int .i64 (wi (1 + (wi (Int.tmod (IntKind.wrap .u64 a0) 64))))), (9, .pointer (some ⟨b24, 0, none⟩)), (56, .int .i64 (imin (l1.length : Int) 80)), (57, .int .i64 x57_l2), (71, .bool (r55 != (ishr .u64 v53 (IntKind.wrap .u64 (wi (64 - (wi (1 + (wi (Int.tmod (IntKind.wrap .u64 a0) 64))))))))))]) (by kernel_rfl) ?_
      refine WD.nil (by kernel_rfl) ?_
      refine At.go ?_
      refine WC.cond (by kernel_rfl) (r55 != (ishr .u64 v53 (IntKind.wrap .u64 (wi (64 - (wi (1 + (wi (Int.tmod (IntKind.wrap .u64 a0) 64))))))))) (by kernel_rfl) (by kernel_rfl) (fun hb64 => ?_) (fun hb64 => ?_)
      · replace H := ite_t H hb64
        refine WC.seq (by kernel_rfl) ?_
        refine WC.reg [0] (by kernel_rfl) (by kernel_rfl) ?_
        refine WR.runk [0] [] [6] (L' := [(6, .bool false)]) (w' := w62) (by kernel_rfl) ?_
        refine WR.nil ?_
        refine At.go ?_
        refine WC.ret (by kernel_rfl) ?_
        refine At.blockRet ?_
        refine At.thenRet ?_
        refine At.thenRet ?_
        obtain rfl := Option.some.inj H
        have hS : Sat w62 (rf w0) [O55 b24 o46] := hS.sel [0] (by kernel_rfl)
        refine At.weaken [6] (L' := [(6, .bool false)]) (by kernel_rfl) ?_
        exact hn0 false _ rfl hS
      · replace H := ite_f H hb64
        refine WC.skip (by kernel_rfl) ?_
        refine At.blockNormal ?_
        refine At.go ?_
        refine WC.reg [0, 1] (by kernel_rfl) (by kernel_rfl) ?_
        refine WR.runk [0, 1] [] [1, 7, 9, 56, 57] (L' := [(1, .slice A1 l1.length c1), (7, .int .i64 (wi (1 + (wi (Int.tmod (IntKind.wrap .u64 a0) 64))))), (9, .pointer (some ⟨b24, 0, none⟩)), (56, .int .i64 (imin (l1.length : Int) 80)), (57, .int .i64 (wi (x57_l2 + 1)))]) (w' := w62) (by kernel_rfl) ?_
        refine WR.nil ?_
        have hS : Sat w62 (rf w0) [O55 b24 o46] := hS.sel [0] (by kernel_rfl)
        refine At.again ?_
        refine WL.weaken [1, 7, 9, 56, 57] (L' := [(1, .slice A1 l1.length c1), (7, .int .i64 (wi (1 + (wi (Int.tmod (IntKind.wrap .u64 a0) 64))))), (9, .pointer (some ⟨b24, 0, none⟩)), (56, .int .i64 (imin (l1.length : Int) 80)), (57, .int .i64 (wi (x57_l2 + 1)))]) (by kernel_rfl) ?_
        exact ih (wi (x57_l2 + 1)) _ hS H
    · replace H := ite_f H hb50
      refine WC.exit (by kernel_rfl) ?_
      refine At.thenExit ?_
      refine At.thenExit ?_
      obtain rfl := Option.some.inj H
      have hS : Sat w (rf w0) [O55 b24 o46] := hS.sel [0] (by kernel_rfl)
      refine At.weaken [] (L' := []) (by kernel_rfl) ?_
      exact hn1 () _ rfl hS
theorem colophonlaw01_PackApart.calls (w0 : World) (a0 : Int) (A1 : Option Addr) (c1 : Nat) (l1 : List Int) (R1 : rdS (r0 (.int .u64)) 1 (hp w0) A1 c1 l1) (a2 : Int) (r : Bool) (H : colophonlaw01_PackApart.f a0 l1 a2 = some r) :
    Calls Try.prog 8 #[.int .i64 a0, .slice A1 l1.length c1, .int .i64 a2] w0 (fun e w' => ∃ v, e = .returned v ∧ colophonlaw01_PackApart.post w0 r v w') := by
  have hS : Sat w0 (rf w0) [] := Sat.start w0
  unfold colophonlaw01_PackApart.f at H
  refine calls_of_WC (vs := [.int .i64 a0, .slice A1 l1.length c1, .int .i64 a2]) Try.func8 (c := C8) (n := 97) (by kernel_rfl) (by kernel_rfl) (by kernel_rfl) ?_
  refine WC.seq (by kernel_rfl) ?_
  refine WC.reg [0] (by kernel_rfl) (by kernel_rfl) ?_
  refine WR.runk [0] [] [0, 1, 2] (L' := [(0, .int .i64 a0), (1, .slice A1 l1.length c1), (2, .int .i64 a2)]) (w' := w0) (by kernel_rfl) ?_
  refine WR.nil ?_
  refine At.go ?_
  refine WC.seq (by kernel_rfl) ?_
  refine WC.seq (by kernel_rfl) ?_
  refine WC.reg [0, 1] (by kernel_rfl) (by kernel_rfl) ?_
  obtain ⟨r1, e2, H⟩ := bind_ex H
  refine WR.st (St.call (by kernel_rfl) (f := 9) (args := #[]) (by kernel_rfl) (colophonlaw01_first.calls w0  r1 e2) ?_)
  rintro _ w8 ⟨rfl, hS9⟩
  have hS : Sat w8 (rf w0) [] := hS.ext hS9
  refine WR.runk [1] [] [0, 1, 2, 16] (L' := [(0, .int .i64 a0), (1, .slice A1 l1.length c1), (2, .int .i64 a2), (16, .bool (!r1))]) (w' := w8) (by kernel_rfl) ?_
  refine WR.nil ?_
  refine At.go ?_
  refine WC.cond (by kernel_rfl) (!r1) (by kernel_rfl) (by kernel_rfl) (fun hb10 => ?_) (fun hb10 => ?_)
  · replace H := ite_t H hb10
    refine WC.seq (by kernel_rfl) ?_
    refine WC.reg [0] (by kernel_rfl) (by kernel_rfl) ?_
    refine WR.runk [0] [] [6] (L' := [(6, .bool false)]) (w' := w8) (by kernel_rfl) ?_
    refine WR.nil ?_
    refine At.go ?_
    refine WC.ret (by kernel_rfl) ?_
    refine At.thenRet ?_
    obtain rfl := Option.some.inj H
    have hS : Sat w8 (rf w0) [] := hS.sel [] (by kernel_rfl)
    exact At.body [.bool false] (by kernel_rfl) ⟨_, rfl, rfl, hS⟩
  · replace H := ite_f H hb10
    refine WC.skip (by kernel_rfl) ?_
    refine At.go ?_
    refine WC.seq (by kernel_rfl) ?_
    refine WC.reg [0, 1, 2, 3, 4, 5] (by kernel_rfl) (by kernel_rfl) ?_
    refine WR.runk [0, 1, 2, 3, 4, 5] [] [1, 2, 7] (L' := [(1, .slice A1 l1.length c1), (2, .int .i64 a2), (7, .int .i64 (wi (1 + (wi (Int.tmod (IntKind.wrap .u64 a0) 64)))))]) (w' := w8) (by kernel_rfl) ?_
    refine WR.nil ?_
    refine At.go ?_
    refine WC.seq (by kernel_rfl) ?_
    refine WC.reg [0, 1, 2, 3] (by kernel_rfl) (by kernel_rfl) ?_
    refine WR.runk [0, 1, 2, 3] [] [1, 2, 7, 8] (L' := [(1, .slice A1 l1.length c1), (2, .int .i64 a2), (7, .int .i64 (wi (1 + (wi (Int.tmod (IntKind.wrap .u64 a0) 64))))), (8, .int .i64 (imin (l1.length : Int) 80))]) (w' := w8) (by kernel_rfl) ?_
    refine WR.nil ?_
    refine At.go ?_
    refine WC.seq (by kernel_rfl) ?_
    refine WC.reg [0, 1, 2, 3, 4, 5, 6, 7] (by kernel_rfl) (by kernel_rfl) ?_
    refine WR.runk [0, 1] [2, 3, 4, 5, 6, 7] [1, 2, 7, 8, 26, 27] (L' := [(1, .slice A1 l1.length c1), (2, .int .i64 a2), (7, .int .i64 (wi (1 + (wi (Int.tmod (IntKind.wrap .u64 a0) 64))))), (8, .int .i64 (imin (l1.length : Int) 80)), (26, .int .i64 (wi (1 + (wi (Int.tmod (IntKind.wrap .u64 a0) 64))))), (27, .int .i64 (imin (l1.length : Int) 80))]) (w' := w8) (by kernel_rfl) ?_
    obtain ⟨r11, e12, H⟩ := bind_ex H
    refine WR.st (St.call (by kernel_rfl) (f := 11) (args := #[.int .i64 (wi (1 + (wi (Int.tmod (IntKind.wrap .u64 a0) 64)))), .int .i64 (imin (l1.length : Int) 80)]) (by kernel_rfl) (pack_New.calls w8 (wi (1 + (wi (Int.tmod (IntKind.wrap .u64 a0) 64)))) (imin (l1.length : Int) 80) r11 e12) ?_)
    rintro _ w18 ⟨pv20, rfl, hS19⟩
    have hS : Sat w18 (rf w0) [optP O55 pv20 r11.1] := hS.ext hS19
    refine WR.runk [3, 4, 5, 6, 7] [] [1, 2, 7, 8, 9] (L' := [(1, .slice A1 l1.length c1), (2, .int .i64 a2), (7, .int .i64 (wi (1 + (wi (Int.tmod (IntKind.wrap .u64 a0) 64))))), (8, .int .i64 (imin (l1.length : Int) 80)), (9, pv20)]) (w' := w18) (by kernel_rfl) ?_
    refine WR.nil ?_
    refine At.go ?_
    refine WC.seq (by kernel_rfl) ?_
    refine WC.seq (by kernel_rfl) ?_
    refine WC.reg [0, 1] (by kernel_rfl) (by kernel_rfl) ?_
    refine WR.runk [0, 1] [] [1, 2, 7, 8, 9, 31, 32] (L' := [(1, .slice A1 l1.length c1), (2, .int .i64 a2), (7, .int .i64 (wi (1 + (wi (Int.tmod (IntKind.wrap .u64 a0) 64))))), (8, .int .i64 (imin (l1.length : Int) 80)), (9, pv20), (31, .int .i64 (imin (l1.length : Int) 80)), (32, .int .i64 0)]) (w' := w18) (by kernel_rfl) ?_
    refine WR.nil ?_
    refine At.go ?_
    refine WC.block (by kernel_rfl) ?_
    obtain ⟨y21, hr22, H⟩ := bind_ex H
    obtain ⟨b24, hv23, hN126⟩ := optP.some hS hr22
    subst hv23
    have hS : Sat w18 (rf w0) [O55 b24 y21] := hN126
    have hS : Sat w18 (rf w0) [O55 b24 y21] := hS.sel [0] (by kernel_rfl)
    obtain ⟨o40, e41, H⟩ := bind_ex H
    refine WC.loop (by kernel_rfl) ?_
    refine WL.weaken [1, 2, 7, 8, 9, 31, 32] (L' := [(1, .slice A1 l1.length c1), (2, .int .i64 a2), (7, .int .i64 (wi (1 + (wi (Int.tmod (IntKind.wrap .u64 a0) 64))))), (8, .int .i64 (imin (l1.length : Int) 80)), (9, .pointer (some ⟨b24, 0, none⟩)), (31, .int .i64 (imin (l1.length : Int) 80)), (32, .int .i64 0)]) (by kernel_rfl) ?_
    refine colophonlaw01_PackApart.l1_ok w0 a0 A1 c1 l1 a2 b24 R1 o40 (fun o42 w44 ho45 hS => ?_) (fun o46 w48 ho49 hS => ?_) FU 0 y21 _ hS e41
    · subst ho45
      dsimp only at H
      refine At.blockRet ?_
      refine At.thenRet ?_
      obtain rfl := Option.some.inj H
      have hS : Sat w44 (rf w0) [] := hS.sel [] (by kernel_rfl)
      exact At.body [.bool o42.1] (by kernel_rfl) ⟨_, rfl, rfl, hS⟩
    · subst ho49
      dsimp only at H
      refine At.hit ?_
      refine At.go ?_
      refine WC.seq (by kernel_rfl) ?_
      refine WC.seq (by kernel_rfl) ?_
      refine WC.reg [0, 1] (by kernel_rfl) (by kernel_rfl) ?_
      refine WR.runk [0, 1] [] [1, 7, 9, 56, 57] (L' := [(1, .slice A1 l1.length c1), (7, .int .i64 (wi (1 + (wi (Int.tmod (IntKind.wrap .u64 a0) 64))))), (9, .pointer (some ⟨b24, 0, none⟩)), (56, .int .i64 (imin (l1.length : Int) 80)), (57, .int .i64 0)]) (w' := w48) (by kernel_rfl) ?_
      refine WR.nil ?_
      refine At.go ?_
      refine WC.block (by kernel_rfl) ?_
      have hS : Sat w48 (rf w0) [O55 b24 o46] := hS.sel [0] (by kernel_rfl)
      obtain ⟨o65, e66, H⟩ := bind_ex H
      refine WC.loop (by kernel_rfl) ?_
      refine WL.weaken [1, 7, 9, 56, 57] (L' := [(1, .slice A1 l1.length c1), (7, .int .i64 (wi (1 + (wi (Int.tmod (IntKind.wrap .u64 a0) 64))))), (9, .pointer (some ⟨b24, 0, none⟩)), (56, .int .i64 (imin (l1.length : Int) 80)), (57, .int .i64 0)]) (by kernel_rfl) ?_
      refine colophonlaw01_PackApart.l2_ok w0 a0 A1 c1 l1 b24 o46 R1 o65 (fun o67 w69 ho70 hS => ?_) (fun o71 w73 ho74 hS => ?_) FU 0 _ hS e66
      · subst ho70
        dsimp only at H
        refine At.blockRet ?_
        refine At.thenRet ?_
        obtain rfl := Option.some.inj H
        have hS : Sat w69 (rf w0) [] := hS.sel [] (by kernel_rfl)
        exact At.body [.bool o67] (by kernel_rfl) ⟨_, rfl, rfl, hS⟩
      · subst ho74
        dsimp only at H
        refine At.hit ?_
        refine At.go ?_
        refine WC.seq (by kernel_rfl) ?_
        refine WC.reg [0] (by kernel_rfl) (by kernel_rfl) ?_
        refine WR.runk [0] [] [14] (L' := [(14, .pointer none)]) (w' := w73) (by kernel_rfl) ?_
        refine WR.nil ?_
        refine At.go ?_
        refine WC.seq (by kernel_rfl) ?_
        refine WC.reg [0, 1, 2, 3, 4, 5, 6, 7, 8, 9, 10, 11, 12, 13, 14, 15, 16, 17, 18, 19, 20, 21, 22, 23, 24] (by kernel_rfl) (by kernel_rfl) ?_
        refine WR.runk [0] [1, 2, 3, 4, 5, 6, 7, 8, 9, 10, 11, 12, 13, 14, 15, 16, 17, 18, 19, 20, 21, 22, 23, 24] [14, 73] (L' := [(14, .pointer none), (73, .pointer none)]) (w' := w73) (by kernel_rfl) ?_
        obtain ⟨r75, e76, H⟩ := bind_ex H
        refine WR.st (St.call (by kernel_rfl) (f := 13) (args := #[.pointer none, .int .i64 0]) (by kernel_rfl) (pack_Ints_Get_nil0.calls w73 0 r75 e76) ?_)
        rintro _ w82 ⟨rfl, hS83⟩
        have hS : Sat w82 (rf w0) [O55 b24 o46] := hS.ext hS83
        refine WR.runk [2, 3] [4, 5, 6, 7, 8, 9, 10, 11, 12, 13, 14, 15, 16, 17, 18, 19, 20, 21, 22, 23, 24] [14, 76] (L' := [(14, .pointer none), (76, .bool (r75 == 0))]) (w' := w82) (by kernel_rfl) ?_
        refine WR.split 76 (b := (r75 == 0)) (by kernel_rfl) (fun hb84 => ?_) (fun hb84 => ?_)
        · replace H := ite_t H hb84
          refine WR.runk [4] [5, 6, 7, 8, 9, 10, 11, 12, 13, 14, 15, 16, 17, 18, 19, 20, 21, 22, 23, 24] [14, 76, 77] (L' := [(14, .pointer none), (76, .bool true), (77, .pointer none)]) (w' := w82) (by kernel_rfl) ?_
          obtain ⟨r85, e86, H⟩ := bind_ex H
          refine WR.st (St.call (by kernel_rfl) (f := 12) (args := #[.pointer none, .int .i64 0, .int .u64 0]) (by kernel_rfl) (pack_Ints_Set_nil0.calls w82 0 0 r85 e86) ?_)
          rintro _ w92 ⟨rfl, hS93⟩
          have hS : Sat w92 (rf w0) [O55 b24 o46] := hS.ext hS93
          refine WR.runk [6, 7, 8] [9, 10, 11, 12, 13, 14, 15, 16, 17, 18, 19, 20, 21, 22, 23, 24] [14, 81] (L' := [(14, .pointer none), (81, .bool (!r85))]) (w' := w92) (by kernel_rfl) ?_
          refine WR.split 81 (b := (!r85)) (by kernel_rfl) (fun hb94 => ?_) (fun hb94 => ?_)
          · replace H := ite_t H hb94
            refine WR.runk [9] [10, 11, 12, 13, 14, 15, 16, 17, 18, 19, 20, 21, 22, 23, 24] [14, 81, 82] (L' := [(14, .pointer none), (81, .bool true), (82, .pointer none)]) (w' := w92) (by kernel_rfl) ?_
            obtain ⟨r95, e96, H⟩ := bind_ex H
            refine WR.st (St.call (by kernel_rfl) (f := 18) (args := #[.pointer none]) (by kernel_rfl) (pack_Ints_Len_nil0.calls w92  r95 e96) ?_)
            rintro _ w102 ⟨rfl, hS103⟩
            have hS : Sat w102 (rf w0) [O55 b24 o46] := hS.ext hS103
            refine WR.runk [11, 12, 13] [14, 15, 16, 17, 18, 19, 20, 21, 22, 23, 24] [14, 86] (L' := [(14, .pointer none), (86, .bool (r95 == 0))]) (w' := w102) (by kernel_rfl) ?_
            refine WR.split 86 (b := (r95 == 0)) (by kernel_rfl) (fun hb104 => ?_) (fun hb104 => ?_)
            · replace H := ite_t H hb104
              refine WR.runk [14] [15, 16, 17, 18, 19, 20, 21, 22, 23, 24] [14, 86, 87] (L' := [(14, .pointer none), (86, .bool true), (87, .pointer none)]) (w' := w102) (by kernel_rfl) ?_
              obtain ⟨r105, e106, H⟩ := bind_ex H
              refine WR.st (St.call (by kernel_rfl) (f := 20) (args := #[.pointer none]) (by kernel_rfl) (pack_Ints_Width_nil0.calls w102  r105 e106) ?_)
              rintro _ w112 ⟨rfl, hS113⟩
              have hS : Sat w112 (rf w0) [O55 b24 o46] := hS.ext hS113
              refine WR.runk [16, 17, 18] [19, 20, 21, 22, 23, 24] [14, 91] (L' := [(14, .pointer none), (91, .bool (r105 == 0))]) (w' := w112) (by kernel_rfl) ?_
              refine WR.split 91 (b := (r105 == 0)) (by kernel_rfl) (fun hb114 => ?_) (fun hb114 => ?_)
              · replace H := ite_t H hb114
                refine WR.runk [19] [20, 21, 22, 23, 24] [91, 92] (L' := [(91, .bool true), (92, .pointer none)]) (w' := w112) (by kernel_rfl) ?_
                obtain ⟨r115, e116, H⟩ := bind_ex H
                refine WR.st (St.call (by kernel_rfl) (f := 14) (args := #[.pointer none]) (by kernel_rfl) (pack_Ints_Words_nil0.calls w112  r115 e116) ?_)
                rintro _ w122 ⟨A124, c125, rfl, hS123⟩
                have hS : Sat w122 (rf w0) [osl 22 (r0 (.int .u64)) 1 A124 c125 r115, O55 b24 o46] := hS.ext hS123
                refine WR.runk [21, 22, 23, 24] [] [6] (L' := [(6, .bool ((r115.length : Int) == 0))]) (w' := w122) (by kernel_rfl) ?_
                refine WR.nil ?_
                refine At.go ?_
                refine WC.ret (by kernel_rfl) ?_
                obtain rfl := Option.some.inj H
                have hS : Sat w122 (rf w0) [] := hS.sel [] (by kernel_rfl)
                exact At.body [.bool ((r115.length : Int) == 0)] (by kernel_rfl) ⟨_, rfl, rfl, hS⟩
              · replace H := ite_f H hb114
                refine WR.runk [19, 20, 21, 22, 23, 24] [] [6] (L' := [(6, .bool false)]) (w' := w112) (by kernel_rfl) ?_
                refine WR.nil ?_
                refine At.go ?_
                refine WC.ret (by kernel_rfl) ?_
                obtain rfl := Option.some.inj H
                have hS : Sat w112 (rf w0) [] := hS.sel [] (by kernel_rfl)
                exact At.body [.bool false] (by kernel_rfl) ⟨_, rfl, rfl, hS⟩
            · replace H := ite_f H hb104
              refine WR.runk [14, 15, 16, 17, 18, 19, 20, 21, 22, 23, 24] [] [6] (L' := [(6, .bool false)]) (w' := w102) (by kernel_rfl) ?_
              refine WR.nil ?_
              refine At.go ?_
              refine WC.ret (by kernel_rfl) ?_
              obtain rfl := Option.some.inj H
              have hS : Sat w102 (rf w0) [] := hS.sel [] (by kernel_rfl)
              exact At.body [.bool false] (by kernel_rfl) ⟨_, rfl, rfl, hS⟩
          · replace H := ite_f H hb94
            refine WR.runk [9, 10, 11, 12, 13, 14, 15, 16, 17, 18, 19, 20, 21, 22, 23, 24] [] [6] (L' := [(6, .bool false)]) (w' := w92) (by kernel_rfl) ?_
            refine WR.nil ?_
            refine At.go ?_
            refine WC.ret (by kernel_rfl) ?_
            obtain rfl := Option.some.inj H
            have hS : Sat w92 (rf w0) [] := hS.sel [] (by kernel_rfl)
            exact At.body [.bool false] (by kernel_rfl) ⟨_, rfl, rfl, hS⟩
        · replace H := ite_f H hb84
          refine WR.runk [4, 5, 6, 7, 8, 9, 10, 11, 12, 13, 14, 15, 16, 17, 18, 19, 20, 21, 22, 23, 24] [] [6] (L' := [(6, .bool false)]) (w' := w82) (by kernel_rfl) ?_
          refine WR.nil ?_
          refine At.go ?_
          refine WC.ret (by kernel_rfl) ?_
          obtain rfl := Option.some.inj H
          have hS : Sat w82 (rf w0) [] := hS.sel [] (by kernel_rfl)
          exact At.body [.bool false] (by kernel_rfl) ⟨_, rfl, rfl, hS⟩
end Go.Proofs.Ytamlfkfdpgchiaa
