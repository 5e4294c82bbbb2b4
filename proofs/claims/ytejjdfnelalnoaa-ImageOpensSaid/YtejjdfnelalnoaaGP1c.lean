/-
  Printed by gen.py (my own tool): for each Go function a plain Lean function and the proof that a call of it does what that function says.
-/
import Derived.Test.YtejjdfnelalnoaaGP1b
set_option linter.unusedVariables false
set_option linter.unusedSimpArgs false
set_option maxRecDepth 100000
namespace Go.Proofs.Ytejjdfnelalnoaa
open Go Go.Gol
/-! ### 11 colophon/colophonref06.Open -/
def colophonref06_Open.l1 (l0 : List Int) : Nat → (List (List Int)) → Int → Option (Sum ((List (List Int)) × Bool) (List (List Int)))
  | 0, _, _ => none
  | k + 1, x4_l1, x5_l1 => (if decide (x5_l1 < (l0.length : Int)) then ((sub? l0 x5_l1 (imin (wi (x5_l1 + 264)) (l0.length : Int))).bind fun y2 => ((colophonref05_Get.f y2).bind fun r7 => (if (r7.2.2 != 0) then some (.inl (([] : List (List Int)), false)) else (if (r7.1 != (wi (Int.tdiv x5_l1 264))) then some (.inl (([] : List (List Int)), false)) else ((app? 5864062014805 x4_l1 ([r7.2.1] : List (List Int))).bind fun y24 => colophonref06_Open.l1 l0 k y24 (wi (x5_l1 + 264))))))) else some (.inr x4_l1))
def colophonref06_Open.l3 (o34 : (List (List Int))) (v80 : Int) (v82 : Int) (v84 : Int) (v86 : Int) : Nat → Int → (List Int) → Option (Sum ((List (List Int)) × Bool) (Int × (List Int)))
  | 0, _, _ => none
  | k + 1, x10_l3, x14_l3 => (if decide ((x14_l3.length : Int) < wi ((wi v80) + (wi (256 * (wi ((wi v82) + (wi (256 * (wi ((wi v84) + (wi (256 * (wi v86))))))))))))) then (if decide (x10_l3 ≥ (o34.length : Int)) then some (.inl (([] : List (List Int)), false)) else ((at? o34 x10_l3).bind fun v90 => ((app? 140737488355328 x14_l3 v90).bind fun y96 => colophonref06_Open.l3 o34 v80 v82 v84 v86 k (wi (x10_l3 + 1)) y96))) else some (.inr (x10_l3, x14_l3)))
def colophonref06_Open.l2 (o34 : (List (List Int))) : Nat → (List (List Int)) → Int → Int → Option (Sum ((List (List Int)) × Bool) (List (List Int)))
  | 0, _, _, _ => none
  | k + 1, x9_l2, x10_l2, x11_l2 => ((at? o34 0).bind fun v62 => ((at? v62 4).bind fun v67 => (if decide (x11_l2 < wi v67) then ((sub? v62 (wi (6 + (wi (4 * x11_l2)))) (wi (10 + (wi (4 * x11_l2))))).bind fun y73 => ((at? y73 0).bind fun v80 => ((at? y73 1).bind fun v82 => ((at? y73 2).bind fun v84 => ((at? y73 3).bind fun v86 => ((colophonref06_Open.l3 o34 v80 v82 v84 v86 FU x10_l2 ([] : List Int)).bind fun o100 => (match o100 with | .inl o102 => some (.inl (o102.1, o102.2)) | .inr o106 => ((sub? o106.2 0 (wi ((wi v80) + (wi (256 * (wi ((wi v82) + (wi (256 * (wi ((wi v84) + (wi (256 * (wi v86)))))))))))))).bind fun y110 => ((app? 5864062014805 x9_l2 [y110]).bind fun y118 => colophonref06_Open.l2 o34 k y118 o106.1 (wi (x11_l2 + 1))))))))))) else some (.inr x9_l2))))
def colophonref06_Open.f (l0 : List Int) : Option ((List (List Int)) × Bool) := ((colophonref06_Open.l1 l0 FU ([] : List (List Int)) 0).bind fun o28 => (match o28 with | .inl o30 => some (o30.1, o30.2) | .inr o34 => (if ((o34.length : Int) == 0) then some (([] : List (List Int)), false) else ((at? o34 0).bind fun v39 => ((sub? v39 0 4).bind fun y44 => (if (!((bs y44).toList == (⟨#[99, 111, 108, 111]⟩ : ByteArray).toList)) then some (([] : List (List Int)), false) else ((at? v39 4).bind fun v53 => (if decide (v53 > 60) then some (([] : List (List Int)), false) else ((at? v39 5).bind fun v59 => (if decide (v59 > 0) then some (([] : List (List Int)), false) else ((colophonref06_Open.l2 o34 FU ([] : List (List Int)) 1 0).bind fun o127 => (match o127 with | .inl o129 => some (o129.1, o129.2) | .inr o133 => ((colophonref06_Build.f o133).bind fun r137 => (if (r137.2 != 0) then some (([] : List (List Int)), false) else (if (!((bs r137.1).toList == (bs l0).toList)) then some (([] : List (List Int)), false) else some (o133, true))))))))))))))))
def colophonref06_Open.post (w : World) (r : (List (List Int)) × Bool) (v : Value) (w' : World) : Prop := ∃ (A0' : Option Addr) (c0' : Nat), v = .tuple #[.slice A0' r.1.length c0', .bool r.2] ∧ Sat w' (rf w) [orw 22 (Esl 5 (.int .u8)) 1 A0' c0' r.1]
theorem colophonref06_Open.l1_ok {Q} (w0 : World) (A0 : Option Addr) (c0 : Nat) (l0 : List Int) (R0 : rdS (r0 (.int .u8)) 1 (hp w0) A0 c0 l0) (out : Sum ((List (List Int)) × Bool) (List (List Int))) (hn0 : ∀ (o0 : (List (List Int)) × Bool) (A2_q : Option Addr) (c2_q : Nat) (w : World), out = (.inl o0) → Sat w (rf w0) [orw 22 (Esl 5 (.int .u8)) 1 A2_q c2_q o0.1] → At Q .ret 154 [(2, .slice A2_q o0.1.length c2_q), (3, .bool o0.2)] w) (hn1 : ∀ (o1 : (List (List Int))) (A4_q : Option Addr) (c4_q : Nat) (w : World), out = (.inr o1) → Sat w (rf w0) [osl 22 (rd (hp w0) (.slice 5 (.int .u8))) 1 A4_q c4_q o1] → At Q (.exit 0) 154 [(0, .slice A0 l0.length c0), (4, .slice A4_q o1.length c4_q)] w) :
    ∀ (k : Nat) (x4_l1 : List (List Int)) (x5_l1 : Int) (A4_l1 : Option Addr) (c4_l1 : Nat) (w : World), Sat w (rf w0) [osl 22 (rd (hp w0) (.slice 5 (.int .u8))) 1 A4_l1 c4_l1 x4_l1] → colophonref06_Open.l1 l0 k x4_l1 x5_l1 = some out → WL Try.prog (cbody (cbody (cr (cl (cr (cr C11)))))) Q 154 [(0, .slice A0 l0.length c0), (4, .slice A4_l1 x4_l1.length c4_l1), (5, .int .i64 x5_l1)] w := by
  intro k
  induction k with
  | zero => intro x4_l1 x5_l1 A4_l1 c4_l1 w hS H; exact absurd (show none = some out from H) (by simp)
  | succ k ih =>
    intro x4_l1 x5_l1 A4_l1 c4_l1 w hS H
    unfold colophonref06_Open.l1 at H
    refine WL.round ?_
    refine WC.seq (by kernel_rfl) ?_
    refine WC.seq (by kernel_rfl) ?_
    refine WC.reg [0, 1, 2, 3] (by kernel_rfl) (by kernel_rfl) ?_
    refine WR.runk [0, 1, 2, 3] [] [0, 4, 5, 20] (L' := [(0, .slice A0 l0.length c0), (4, .slice A4_l1 x4_l1.length c4_l1), (5, .int .i64 x5_l1), (20, .bool (decide (x5_l1 < (l0.length : Int))))]) (w' := w) (by kernel_rfl) ?_
    refine WR.nil ?_
    refine At.go ?_
    refine WC.cond (by kernel_rfl) (decide (x5_l1 < (l0.length : Int))) (by kernel_rfl) (by kernel_rfl) (fun hb1 => ?_) (fun hb1 => ?_)
    · replace H := ite_t H hb1
      refine WC.skip (by kernel_rfl) ?_
      refine At.go ?_
      refine WC.seq (by kernel_rfl) ?_
      refine WC.block (by kernel_rfl) ?_
      refine WC.seq (by kernel_rfl) ?_
      refine WC.reg [0, 1, 2, 3, 4, 5, 6, 7, 8, 9, 10, 11, 12, 13, 14, 15] (by kernel_rfl) (by kernel_rfl) ?_
      refine WR.runk [0, 1, 2, 3, 4, 5, 6] [7, 8, 9, 10, 11, 12, 13, 14, 15] [0, 4, 5, 24, 25, 30] (L' := [(0, .slice A0 l0.length c0), (4, .slice A4_l1 x4_l1.length c4_l1), (5, .int .i64 x5_l1), (24, .slice A0 l0.length c0), (25, .int .i64 x5_l1), (30, .int .i64 (imin (wi (x5_l1 + 264)) (l0.length : Int)))]) (w' := w) (by kernel_rfl) ?_
      obtain ⟨y2, e3, H⟩ := bind_ex H
      refine WR.st (St.ofP (PSt.sub (A := A0) (c := c0) (.tmp 24) (some (.tmp 25)) (some (.tmp 30)) none (by kernel_rfl) (by kernel_rfl) E22 (by kernel_rfl) (rdS.up R0 hS.sub0).1 e3 (Exists.intro IntKind.i64 (by kernel_rfl)) (Exists.intro IntKind.i64 (by kernel_rfl)) trivial (fun A4 c5 T6 => ?_)))
      refine WR.runk [] [8, 9, 10, 11, 12, 13, 14, 15] [0, 4, 5, 31] (L' := [(0, .slice A0 l0.length c0), (4, .slice A4_l1 x4_l1.length c4_l1), (5, .int .i64 x5_l1), (31, .slice A4 y2.length c5)]) (w' := w) (by kernel_rfl) ?_
      obtain ⟨r7, e8, H⟩ := bind_ex H
      refine WR.st (St.call (by kernel_rfl) (f := 28) (args := #[.slice A4 y2.length c5]) (by kernel_rfl) (colophonref05_Get.calls w A4 c5 y2 (T6.rd _ _ (rdS.up R0 hS.sub0)) r7 e8) ?_)
      rintro _ w14 ⟨A16, c17, rfl, T18, hS15⟩
      have hS : Sat w14 (rf w0) [osl 22 (rd (hp w0) (.slice 5 (.int .u8))) 1 A4_l1 c4_l1 x4_l1] := hS.ext hS15
      refine WR.runk [9, 10, 11, 12, 13, 14, 15] [] [0, 4, 5, 6, 7, 8] (L' := [(0, .slice A0 l0.length c0), (4, .slice A4_l1 x4_l1.length c4_l1), (5, .int .i64 x5_l1), (6, .int .i64 r7.1), (7, .slice A16 r7.2.1.length c17), (8, .int .i64 r7.2.2)]) (w' := w14) (by kernel_rfl) ?_
      refine WR.nil ?_
      refine At.go ?_
      refine WC.seq (by kernel_rfl) ?_
      refine WC.seq (by kernel_rfl) ?_
      refine WC.reg [0, 1, 2, 3, 4, 5, 6, 7] (by kernel_rfl) (by kernel_rfl) ?_
      refine WR.runk [0, 1, 2] [3, 4, 5, 6, 7] [0, 4, 5, 6, 7, 38] (L' := [(0, .slice A0 l0.length c0), (4, .slice A4_l1 x4_l1.length c4_l1), (5, .int .i64 x5_l1), (6, .int .i64 r7.1), (7, .slice A16 r7.2.1.length c17), (38, .bool (r7.2.2 != 0))]) (w' := w14) (by kernel_rfl) ?_
      refine WR.split 38 (b := (r7.2.2 != 0)) (by kernel_rfl) (fun hb19 => ?_) (fun hb19 => ?_)
      · replace H := ite_t H hb19
        refine WR.runk [3, 4, 5, 6, 7] [] [0, 4, 5, 7, 39, 40, 41, 42, 43] (L' := [(0, .slice A0 l0.length c0), (4, .slice A4_l1 x4_l1.length c4_l1), (5, .int .i64 x5_l1), (7, .slice A16 r7.2.1.length c17), (39, undef), (40, undef), (41, undef), (42, undef), (43, .bool true)]) (w' := w14) (by kernel_rfl) ?_
        refine WR.nil ?_
        refine At.go ?_
        refine WC.condT (by kernel_rfl) (by kernel_rfl) (by kernel_rfl) ?_
        refine WC.seq (by kernel_rfl) ?_
        refine WC.reg [0, 1] (by kernel_rfl) (by kernel_rfl) ?_
        refine WR.runk [0, 1] [] [2, 3] (L' := [(2, .slice none 0 0), (3, .bool false)]) (w' := w14) (by kernel_rfl) ?_
        refine WR.nil ?_
        refine At.go ?_
        refine WC.ret (by kernel_rfl) ?_
        refine At.thenRet ?_
        refine At.blockRet ?_
        refine At.thenRet ?_
        refine At.thenRet ?_
        obtain rfl := Option.some.inj H
        have hS := hS.addNilR (α := (List Int)) 22 (Esl 5 (.int .u8)) 1
        have hS : Sat w14 (rf w0) [orw 22 (Esl 5 (.int .u8)) 1 none 0 ([] : List (List Int))] := hS.sel [0] (by kernel_rfl)
        refine At.weaken [2, 3] (L' := [(2, .slice none 0 0), (3, .bool false)]) (by kernel_rfl) ?_
        exact hn0 (([] : List (List Int)), false) none 0 _ rfl hS
      · replace H := ite_f H hb19
        refine WR.runk [3, 4, 5, 6, 7] [] [0, 4, 5, 7, 39, 40, 41, 42, 43] (L' := [(0, .slice A0 l0.length c0), (4, .slice A4_l1 x4_l1.length c4_l1), (5, .int .i64 x5_l1), (7, .slice A16 r7.2.1.length c17), (39, .int .i64 r7.1), (40, .int .i64 x5_l1), (41, .int .i64 (wi (Int.tdiv x5_l1 264))), (42, .bool (r7.1 != (wi (Int.tdiv x5_l1 264)))), (43, .bool (r7.1 != (wi (Int.tdiv x5_l1 264))))]) (w' := w14) (by kernel_rfl) ?_
        refine WR.nil ?_
        refine At.go ?_
        refine WC.cond (by kernel_rfl) (r7.1 != (wi (Int.tdiv x5_l1 264))) (by kernel_rfl) (by kernel_rfl) (fun hb20 => ?_) (fun hb20 => ?_)
        · replace H := ite_t H hb20
          refine WC.seq (by kernel_rfl) ?_
          refine WC.reg [0, 1] (by kernel_rfl) (by kernel_rfl) ?_
          refine WR.runk [0, 1] [] [2, 3] (L' := [(2, .slice none 0 0), (3, .bool false)]) (w' := w14) (by kernel_rfl) ?_
          refine WR.nil ?_
          refine At.go ?_
          refine WC.ret (by kernel_rfl) ?_
          refine At.thenRet ?_
          refine At.blockRet ?_
          refine At.thenRet ?_
          refine At.thenRet ?_
          obtain rfl := Option.some.inj H
          have hS := hS.addNilR (α := (List Int)) 22 (Esl 5 (.int .u8)) 1
          have hS : Sat w14 (rf w0) [orw 22 (Esl 5 (.int .u8)) 1 none 0 ([] : List (List Int))] := hS.sel [0] (by kernel_rfl)
          refine At.weaken [2, 3] (L' := [(2, .slice none 0 0), (3, .bool false)]) (by kernel_rfl) ?_
          exact hn0 (([] : List (List Int)), false) none 0 _ rfl hS
        · replace H := ite_f H hb20
          refine WC.skip (by kernel_rfl) ?_
          refine At.go ?_
          refine WC.reg [0, 1, 2, 3, 4] (by kernel_rfl) (by kernel_rfl) ?_
          refine WR.runk [0, 1] [2, 3, 4] [0, 4, 5, 39, 40, 41, 44, 45] (L' := [(0, .slice A0 l0.length c0), (4, .slice A4_l1 x4_l1.length c4_l1), (5, .int .i64 x5_l1), (39, .int .i64 r7.1), (40, .int .i64 x5_l1), (41, .int .i64 (wi (Int.tdiv x5_l1 264))), (44, .slice A4_l1 x4_l1.length c4_l1), (45, .slice A16 r7.2.1.length c17)]) (w' := w14) (by kernel_rfl) ?_
          refine WR.st (St.box hS (by kernel_rfl) (.cells #[.slice A16 r7.2.1.length c17] 22) (fun b21 => .slice (some ⟨b21, 0, none⟩) 1 1) (fun _ => by kernel_rfl) (fun b21 w22 hS => ?_))
          refine WR.runk [] [3, 4] [0, 4, 5, 39, 40, 41, 44, 46] (L' := [(0, .slice A0 l0.length c0), (4, .slice A4_l1 x4_l1.length c4_l1), (5, .int .i64 x5_l1), (39, .int .i64 r7.1), (40, .int .i64 x5_l1), (41, .int .i64 (wi (Int.tdiv x5_l1 264))), (44, .slice A4_l1 x4_l1.length c4_l1), (46, .slice (some ⟨b21, 0, none⟩) 1 1)]) (w' := w22) (by kernel_rfl) ?_
          have hS : Sat w22 (rf w0) [osl 22 (rd (hp w0) (.slice 5 (.int .u8))) 1 A4_l1 c4_l1 x4_l1, pts b21 (.cells #[.slice A16 r7.2.1.length c17] 22 (0, 0))] := hS.sel [1, 0] (by kernel_rfl)
          obtain ⟨y24, e23, H⟩ := bind_ex H
          refine WR.st (St.append' (.tmp 44) (.tmp 46) (by kernel_rfl) (by kernel_rfl) E29 (fun c x h => rd_one _ c x h) hS (by kernel_rfl) (by kernel_rfl) (Sat.ptsAt 1 (rd (hp w0) (.slice 5 (.int .u8))) 1 ([r7.2.1] : List (List Int)) hS rfl rfl (rdL.cons1 ⟨_, _, rfl, (rdS.r0up (K := hp w0) (T18.rd _ _ (T6.rd _ _ R0)))⟩ (rdL.nil _ _))) 5864062014805 (by kernel_rfl) (by kernel_rfl) e23 (fun A25 c26 w27 hS => ?_))
          refine WR.runk [4] [] [0, 4, 5, 39, 40, 41] (L' := [(0, .slice A0 l0.length c0), (4, .slice A25 y24.length c26), (5, .int .i64 x5_l1), (39, .int .i64 r7.1), (40, .int .i64 x5_l1), (41, .int .i64 (wi (Int.tdiv x5_l1 264)))]) (w' := w27) (by kernel_rfl) ?_
          refine WR.nil ?_
          refine At.blockNormal ?_
          refine At.go ?_
          refine WC.reg [0, 1, 2] (by kernel_rfl) (by kernel_rfl) ?_
          refine WR.runk [0, 1, 2] [] [0, 4, 5, 39, 40, 41] (L' := [(0, .slice A0 l0.length c0), (4, .slice A25 y24.length c26), (5, .int .i64 (wi (x5_l1 + 264))), (39, .int .i64 r7.1), (40, .int .i64 x5_l1), (41, .int .i64 (wi (Int.tdiv x5_l1 264)))]) (w' := w27) (by kernel_rfl) ?_
          refine WR.nil ?_
          have hS : Sat w27 (rf w0) [osl 22 (rd (hp w0) (.slice 5 (.int .u8))) 1 A25 c26 y24] := hS.sel [0] (by kernel_rfl)
          refine At.again ?_
          refine WL.weaken [0, 4, 5] (L' := [(0, .slice A0 l0.length c0), (4, .slice A25 y24.length c26), (5, .int .i64 (wi (x5_l1 + 264)))]) (by kernel_rfl) ?_
          exact ih y24 (wi (x5_l1 + 264)) A25 c26 _ hS H
    · replace H := ite_f H hb1
      refine WC.exit (by kernel_rfl) ?_
      refine At.thenExit ?_
      refine At.thenExit ?_
      obtain rfl := Option.some.inj H
      have hS : Sat w (rf w0) [osl 22 (rd (hp w0) (.slice 5 (.int .u8))) 1 A4_l1 c4_l1 x4_l1] := hS.sel [0] (by kernel_rfl)
      refine At.weaken [0, 4] (L' := [(0, .slice A0 l0.length c0), (4, .slice A4_l1 x4_l1.length c4_l1)]) (by kernel_rfl) ?_
      exact hn1 x4_l1 A4_l1 c4_l1 _ rfl hS
theorem colophonref06_Open.l3_ok {Q} (w0 : World) (A0 : Option Addr) (c0 : Nat) (l0 : List Int) (o34 : (List (List Int))) (A4_q35 : Option Addr) (c4_q35 : Nat) (A9_l2 : Option Addr) (c9_l2 : Nat) (x9_l2 : List (List Int)) (x11_l2 : Int) (v80 : Int) (v82 : Int) (v84 : Int) (v86 : Int) (out : Sum ((List (List Int)) × Bool) (Int × (List Int))) (hn0 : ∀ (o0 : (List (List Int)) × Bool) (A2_q : Option Addr) (c2_q : Nat) (w : World), out = (.inl o0) → Sat w (rf w0) [orw 22 (Esl 5 (.int .u8)) 1 A2_q c2_q o0.1] → At Q .ret 154 [(2, .slice A2_q o0.1.length c2_q), (3, .bool o0.2)] w) (hn1 : ∀ (o1 : Int × (List Int)) (A14_q : Option Addr) (c14_q : Nat) (w : World), out = (.inr o1) → Sat w (rf w0) [osl 22 (rd (hp w0) (.slice 5 (.int .u8))) 1 A4_q35 c4_q35 o34, orw 22 (Esl 5 (.int .u8)) 1 A9_l2 c9_l2 x9_l2, osl 5 (r0 (.int .u8)) 1 A14_q c14_q o1.2] → At Q (.exit 4) 154 [(0, .slice A0 l0.length c0), (4, .slice A4_q35 o34.length c4_q35), (9, .slice A9_l2 x9_l2.length c9_l2), (10, .int .i64 o1.1), (11, .int .i64 x11_l2), (13, .int .i64 (wi ((wi v80) + (wi (256 * (wi ((wi v82) + (wi (256 * (wi ((wi v84) + (wi (256 * (wi v86)))))))))))))), (14, .slice A14_q o1.2.length c14_q)] w) :
    ∀ (k : Nat) (x10_l3 : Int) (x14_l3 : List Int) (A14_l3 : Option Addr) (c14_l3 : Nat) (w : World), Sat w (rf w0) [osl 22 (rd (hp w0) (.slice 5 (.int .u8))) 1 A4_q35 c4_q35 o34, orw 22 (Esl 5 (.int .u8)) 1 A9_l2 c9_l2 x9_l2, osl 5 (r0 (.int .u8)) 1 A14_l3 c14_l3 x14_l3] → colophonref06_Open.l3 o34 v80 v82 v84 v86 k x10_l3 x14_l3 = some out → WL Try.prog (cbody (cbody (cl (cr (cr (cr (cbody (cl (cr (cbody (cbody (cr (cl (cr (cr (cr (cr (cr (cr C11))))))))))))))))))) Q 154 [(0, .slice A0 l0.length c0), (4, .slice A4_q35 o34.length c4_q35), (9, .slice A9_l2 x9_l2.length c9_l2), (10, .int .i64 x10_l3), (11, .int .i64 x11_l2), (13, .int .i64 (wi ((wi v80) + (wi (256 * (wi ((wi v82) + (wi (256 * (wi ((wi v84) + (wi (256 * (wi v86)))))))))))))), (14, .slice A14_l3 x14_l3.length c14_l3)] w := by
  intro k
  induction k with
  | zero => intro x10_l3 x14_l3 A14_l3 c14_l3 w hS H; exact absurd (show none = some out from H) (by simp)
  | succ k ih =>
    intro x10_l3 x14_l3 A14_l3 c14_l3 w hS H
    unfold colophonref06_Open.l3 at H
    refine WL.round ?_
    refine WC.seq (by kernel_rfl) ?_
    refine WC.seq (by kernel_rfl) ?_
    refine WC.reg [0, 1, 2, 3] (by kernel_rfl) (by kernel_rfl) ?_
    refine WR.runk [0, 1, 2, 3] [] [0, 4, 9, 10, 11, 13, 14, 120] (L' := [(0, .slice A0 l0.length c0), (4, .slice A4_q35 o34.length c4_q35), (9, .slice A9_l2 x9_l2.length c9_l2), (10, .int .i64 x10_l3), (11, .int .i64 x11_l2), (13, .int .i64 (wi ((wi v80) + (wi (256 * (wi ((wi v82) + (wi (256 * (wi ((wi v84) + (wi (256 * (wi v86)))))))))))))), (14, .slice A14_l3 x14_l3.length c14_l3), (120, .bool (decide ((x14_l3.length : Int) < wi ((wi v80) + (wi (256 * (wi ((wi v82) + (wi (256 * (wi ((wi v84) + (wi (256 * (wi v86)))))))))))))))]) (w' := w) (by kernel_rfl) ?_
    refine WR.nil ?_
    refine At.go ?_
    refine WC.cond (by kernel_rfl) (decide ((x14_l3.length : Int) < wi ((wi v80) + (wi (256 * (wi ((wi v82) + (wi (256 * (wi ((wi v84) + (wi (256 * (wi v86)))))))))))))) (by kernel_rfl) (by kernel_rfl) (fun hb88 => ?_) (fun hb88 => ?_)
    · replace H := ite_t H hb88
      refine WC.skip (by kernel_rfl) ?_
      refine At.go ?_
      refine WC.block (by kernel_rfl) ?_
      refine WC.seq (by kernel_rfl) ?_
      refine WC.seq (by kernel_rfl) ?_
      refine WC.reg [0, 1, 2, 3] (by kernel_rfl) (by kernel_rfl) ?_
      refine WR.runk [0, 1, 2, 3] [] [0, 4, 9, 10, 11, 13, 14, 124] (L' := [(0, .slice A0 l0.length c0), (4, .slice A4_q35 o34.length c4_q35), (9, .slice A9_l2 x9_l2.length c9_l2), (10, .int .i64 x10_l3), (11, .int .i64 x11_l2), (13, .int .i64 (wi ((wi v80) + (wi (256 * (wi ((wi v82) + (wi (256 * (wi ((wi v84) + (wi (256 * (wi v86)))))))))))))), (14, .slice A14_l3 x14_l3.length c14_l3), (124, .bool (decide (x10_l3 ≥ (o34.length : Int))))]) (w' := w) (by kernel_rfl) ?_
      refine WR.nil ?_
      refine At.go ?_
      refine WC.cond (by kernel_rfl) (decide (x10_l3 ≥ (o34.length : Int))) (by kernel_rfl) (by kernel_rfl) (fun hb89 => ?_) (fun hb89 => ?_)
      · replace H := ite_t H hb89
        refine WC.seq (by kernel_rfl) ?_
        refine WC.reg [0, 1] (by kernel_rfl) (by kernel_rfl) ?_
        refine WR.runk [0, 1] [] [2, 3] (L' := [(2, .slice none 0 0), (3, .bool false)]) (w' := w) (by kernel_rfl) ?_
        refine WR.nil ?_
        refine At.go ?_
        refine WC.ret (by kernel_rfl) ?_
        refine At.thenRet ?_
        refine At.blockRet ?_
        refine At.thenRet ?_
        obtain rfl := Option.some.inj H
        have hS := hS.addNilR (α := (List Int)) 22 (Esl 5 (.int .u8)) 1
        have hS : Sat w (rf w0) [orw 22 (Esl 5 (.int .u8)) 1 none 0 ([] : List (List Int))] := hS.sel [0] (by kernel_rfl)
        refine At.weaken [2, 3] (L' := [(2, .slice none 0 0), (3, .bool false)]) (by kernel_rfl) ?_
        exact hn0 (([] : List (List Int)), false) none 0 _ rfl hS
      · replace H := ite_f H hb89
        refine WC.skip (by kernel_rfl) ?_
        refine At.go ?_
        refine WC.seq (by kernel_rfl) ?_
        refine WC.reg [0, 1, 2, 3, 4, 5, 6] (by kernel_rfl) (by kernel_rfl) ?_
        refine WR.runk [0, 1, 2] [3, 4, 5, 6] [0, 4, 9, 10, 11, 13, 14, 125, 126, 127] (L' := [(0, .slice A0 l0.length c0), (4, .slice A4_q35 o34.length c4_q35), (9, .slice A9_l2 x9_l2.length c9_l2), (10, .int .i64 x10_l3), (11, .int .i64 x11_l2), (13, .int .i64 (wi ((wi v80) + (wi (256 * (wi ((wi v82) + (wi (256 * (wi ((wi v84) + (wi (256 * (wi v86)))))))))))))), (14, .slice A14_l3 x14_l3.length c14_l3), (125, .slice A14_l3 x14_l3.length c14_l3), (126, .slice A4_q35 o34.length c4_q35), (127, .int .i64 x10_l3)]) (w' := w) (by kernel_rfl) ?_
        obtain ⟨v90, e91, H⟩ := bind_ex H
        refine WR.st (St.ofP (PSt.idx (k := .i64) (.tmp 126) (.tmp 127) (by kernel_rfl) (by kernel_rfl) E29 (by kernel_rfl) (by kernel_rfl) (Sat.rdAt 0 hS rfl) e91 ?_))
        refine WR.runk [] [4, 5, 6] [0, 4, 9, 10, 11, 13, 14, 125, 128] (L' := [(0, .slice A0 l0.length c0), (4, .slice A4_q35 o34.length c4_q35), (9, .slice A9_l2 x9_l2.length c9_l2), (10, .int .i64 x10_l3), (11, .int .i64 x11_l2), (13, .int .i64 (wi ((wi v80) + (wi (256 * (wi ((wi v82) + (wi (256 * (wi ((wi v84) + (wi (256 * (wi v86)))))))))))))), (14, .slice A14_l3 x14_l3.length c14_l3), (125, .slice A14_l3 x14_l3.length c14_l3), (128, .pointer (some (adr A4_q35 x10_l3.toNat 1)))]) (w' := w) (by kernel_rfl) ?_
        refine WR.st (St.ofR (RSt.loadSlO (H := (hp w0)) (t := 22) (.tmp 128) (by kernel_rfl) (by kernel_rfl) (by kernel_rfl) (by kernel_rfl) (Sat.rdAt 0 hS rfl) e91 (fun A92 c93 R94 => ?_)))
        replace R94 : rdS (r0 (.int .u8)) 1 (hp w0) A92 c93 v90 := R94
        refine WR.runk [] [5, 6] [0, 4, 9, 10, 11, 13, 14, 125, 129] (L' := [(0, .slice A0 l0.length c0), (4, .slice A4_q35 o34.length c4_q35), (9, .slice A9_l2 x9_l2.length c9_l2), (10, .int .i64 x10_l3), (11, .int .i64 x11_l2), (13, .int .i64 (wi ((wi v80) + (wi (256 * (wi ((wi v82) + (wi (256 * (wi ((wi v84) + (wi (256 * (wi v86)))))))))))))), (14, .slice A14_l3 x14_l3.length c14_l3), (125, .slice A14_l3 x14_l3.length c14_l3), (129, .slice A92 v90.length c93)]) (w' := w) (by kernel_rfl) ?_
        have hS : Sat w (rf w0) [osl 5 (r0 (.int .u8)) 1 A14_l3 c14_l3 x14_l3, osl 22 (rd (hp w0) (.slice 5 (.int .u8))) 1 A4_q35 c4_q35 o34, orw 22 (Esl 5 (.int .u8)) 1 A9_l2 c9_l2 x9_l2] := hS.sel [2, 0, 1] (by kernel_rfl)
        obtain ⟨y96, e95, H⟩ := bind_ex H
        refine WR.st (St.append' (.tmp 125) (.tmp 129) (by kernel_rfl) (by kernel_rfl) E22 (r0_one _) hS (by kernel_rfl) (by kernel_rfl) (rdS.up R94 hS.sub0) 140737488355328 (by kernel_rfl) (by kernel_rfl) e95 (fun A97 c98 w99 hS => ?_))
        refine WR.runk [6] [] [0, 4, 9, 10, 11, 13, 14] (L' := [(0, .slice A0 l0.length c0), (4, .slice A4_q35 o34.length c4_q35), (9, .slice A9_l2 x9_l2.length c9_l2), (10, .int .i64 x10_l3), (11, .int .i64 x11_l2), (13, .int .i64 (wi ((wi v80) + (wi (256 * (wi ((wi v82) + (wi (256 * (wi ((wi v84) + (wi (256 * (wi v86)))))))))))))), (14, .slice A97 y96.length c98)]) (w' := w99) (by kernel_rfl) ?_
        refine WR.nil ?_
        refine At.go ?_
        refine WC.reg [0, 1, 2] (by kernel_rfl) (by kernel_rfl) ?_
        refine WR.runk [0, 1, 2] [] [0, 4, 9, 10, 11, 13, 14] (L' := [(0, .slice A0 l0.length c0), (4, .slice A4_q35 o34.length c4_q35), (9, .slice A9_l2 x9_l2.length c9_l2), (10, .int .i64 (wi (x10_l3 + 1))), (11, .int .i64 x11_l2), (13, .int .i64 (wi ((wi v80) + (wi (256 * (wi ((wi v82) + (wi (256 * (wi ((wi v84) + (wi (256 * (wi v86)))))))))))))), (14, .slice A97 y96.length c98)]) (w' := w99) (by kernel_rfl) ?_
        refine WR.nil ?_
        refine At.blockNormal ?_
        have hS : Sat w99 (rf w0) [osl 22 (rd (hp w0) (.slice 5 (.int .u8))) 1 A4_q35 c4_q35 o34, orw 22 (Esl 5 (.int .u8)) 1 A9_l2 c9_l2 x9_l2, osl 5 (r0 (.int .u8)) 1 A97 c98 y96] := hS.sel [1, 2, 0] (by kernel_rfl)
        refine At.again ?_
        refine WL.weaken [0, 4, 9, 10, 11, 13, 14] (L' := [(0, .slice A0 l0.length c0), (4, .slice A4_q35 o34.length c4_q35), (9, .slice A9_l2 x9_l2.length c9_l2), (10, .int .i64 (wi (x10_l3 + 1))), (11, .int .i64 x11_l2), (13, .int .i64 (wi ((wi v80) + (wi (256 * (wi ((wi v82) + (wi (256 * (wi ((wi v84) + (wi (256 * (wi v86)))))))))))))), (14, .slice A97 y96.length c98)]) (by kernel_rfl) ?_
        exact ih (wi (x10_l3 + 1)) y96 A97 c98 _ hS H
    · replace H := ite_f H hb88
      refine WC.exit (by kernel_rfl) ?_
      refine At.thenExit ?_
      refine At.thenExit ?_
      obtain rfl := Option.some.inj H
      have hS : Sat w (rf w0) [osl 22 (rd (hp w0) (.slice 5 (.int .u8))) 1 A4_q35 c4_q35 o34, orw 22 (Esl 5 (.int .u8)) 1 A9_l2 c9_l2 x9_l2, osl 5 (r0 (.int .u8)) 1 A14_l3 c14_l3 x14_l3] := hS.sel [0, 1, 2] (by kernel_rfl)
      refine At.weaken [0, 4, 9, 10, 11, 13, 14] (L' := [(0, .slice A0 l0.length c0), (4, .slice A4_q35 o34.length c4_q35), (9, .slice A9_l2 x9_l2.length c9_l2), (10, .int .i64 x10_l3), (11, .int .i64 x11_l2), (13, .int .i64 (wi ((wi v80) + (wi (256 * (wi ((wi v82) + (wi (256 * (wi ((wi v84) + (wi (256 * (wi v86)))))))))))))), (14, .slice A14_l3 x14_l3.length c14_l3)]) (by kernel_rfl) ?_
      exact hn1 (x10_l3, x14_l3) A14_l3 c14_l3 _ rfl hS
theorem colophonref06_Open.l2_ok {Q} (w0 : World) (A0 : Option Addr) (c0 : Nat) (l0 : List Int) (o34 : (List (List Int))) (A4_q35 : Option Addr) (c4_q35 : Nat) (out : Sum ((List (List Int)) × Bool) (List (List Int))) (hn0 : ∀ (o0 : (List (List Int)) × Bool) (A2_q : Option Addr) (c2_q : Nat) (w : World), out = (.inl o0) → Sat w (rf w0) [orw 22 (Esl 5 (.int .u8)) 1 A2_q c2_q o0.1] → At Q .ret 154 [(2, .slice A2_q o0.1.length c2_q), (3, .bool o0.2)] w) (hn1 : ∀ (o1 : (List (List Int))) (A9_q : Option Addr) (c9_q : Nat) (w : World), out = (.inr o1) → Sat w (rf w0) [orw 22 (Esl 5 (.int .u8)) 1 A9_q c9_q o1] → At Q (.exit 2) 154 [(0, .slice A0 l0.length c0), (9, .slice A9_q o1.length c9_q)] w) :
    ∀ (k : Nat) (x9_l2 : List (List Int)) (x10_l2 : Int) (x11_l2 : Int) (A9_l2 : Option Addr) (c9_l2 : Nat) (w : World), Sat w (rf w0) [osl 22 (rd (hp w0) (.slice 5 (.int .u8))) 1 A4_q35 c4_q35 o34, orw 22 (Esl 5 (.int .u8)) 1 A9_l2 c9_l2 x9_l2] → colophonref06_Open.l2 o34 k x9_l2 x10_l2 x11_l2 = some out → WL Try.prog (cbody (cbody (cr (cl (cr (cr (cr (cr (cr (cr C11)))))))))) Q 154 [(0, .slice A0 l0.length c0), (4, .slice A4_q35 o34.length c4_q35), (9, .slice A9_l2 x9_l2.length c9_l2), (10, .int .i64 x10_l2), (11, .int .i64 x11_l2)] w := by
  intro k
  induction k with
  | zero => intro x9_l2 x10_l2 x11_l2 A9_l2 c9_l2 w hS H; exact absurd (show none = some out from H) (by simp)
  | succ k ih =>
    intro x9_l2 x10_l2 x11_l2 A9_l2 c9_l2 w hS H
    unfold colophonref06_Open.l2 at H
    refine WL.round ?_
    refine WC.seq (by kernel_rfl) ?_
    refine WC.seq (by kernel_rfl) ?_
    refine WC.reg [0, 1, 2, 3, 4, 5, 6, 7] (by kernel_rfl) (by kernel_rfl) ?_
    refine WR.runk [0, 1] [2, 3, 4, 5, 6, 7] [0, 4, 9, 10, 11, 75, 76] (L' := [(0, .slice A0 l0.length c0), (4, .slice A4_q35 o34.length c4_q35), (9, .slice A9_l2 x9_l2.length c9_l2), (10, .int .i64 x10_l2), (11, .int .i64 x11_l2), (75, .int .i64 x11_l2), (76, .slice A4_q35 o34.length c4_q35)]) (w' := w) (by kernel_rfl) ?_
    obtain ⟨v62, e63, H⟩ := bind_ex H
    refine WR.st (St.ofP (PSt.idx (k := .i64) (.tmp 76) (.const (.int .i64 0)) (by kernel_rfl) (by kernel_rfl) E29 (by kernel_rfl) (by kernel_rfl) (Sat.rdAt 0 hS rfl) e63 ?_))
    refine WR.runk [] [3, 4, 5, 6, 7] [0, 4, 9, 10, 11, 75, 77] (L' := [(0, .slice A0 l0.length c0), (4, .slice A4_q35 o34.length c4_q35), (9, .slice A9_l2 x9_l2.length c9_l2), (10, .int .i64 x10_l2), (11, .int .i64 x11_l2), (75, .int .i64 x11_l2), (77, .pointer (some (adr A4_q35 (0 : Int).toNat 1)))]) (w' := w) (by kernel_rfl) ?_
    refine WR.st (St.ofR (RSt.loadSlO (H := (hp w0)) (t := 22) (.tmp 77) (by kernel_rfl) (by kernel_rfl) (by kernel_rfl) (by kernel_rfl) (Sat.rdAt 0 hS rfl) e63 (fun A64 c65 R66 => ?_)))
    replace R66 : rdS (r0 (.int .u8)) 1 (hp w0) A64 c65 v62 := R66
    refine WR.runk [] [4, 5, 6, 7] [0, 4, 9, 10, 11, 75, 78] (L' := [(0, .slice A0 l0.length c0), (4, .slice A4_q35 o34.length c4_q35), (9, .slice A9_l2 x9_l2.length c9_l2), (10, .int .i64 x10_l2), (11, .int .i64 x11_l2), (75, .int .i64 x11_l2), (78, .slice A64 v62.length c65)]) (w' := w) (by kernel_rfl) ?_
    obtain ⟨v67, e68, H⟩ := bind_ex H
    refine WR.st (St.ofP (PSt.idx (k := .i64) (.tmp 78) (.const (.int .i64 4)) (by kernel_rfl) (by kernel_rfl) E22 (by kernel_rfl) (by kernel_rfl) (rdS.up R66 hS.sub0) e68 ?_))
    refine WR.runk [] [5, 6, 7] [0, 4, 9, 10, 11, 75, 79] (L' := [(0, .slice A0 l0.length c0), (4, .slice A4_q35 o34.length c4_q35), (9, .slice A9_l2 x9_l2.length c9_l2), (10, .int .i64 x10_l2), (11, .int .i64 x11_l2), (75, .int .i64 x11_l2), (79, .pointer (some (adr A64 (4 : Int).toNat 1)))]) (w' := w) (by kernel_rfl) ?_
    refine WR.st (St.ofR (RSt.loadInt (t := 5) (.tmp 79) (by kernel_rfl) (by kernel_rfl) (by kernel_rfl) (by kernel_rfl) (rdS.up R66 hS.sub0) e68 ?_))
    refine WR.runk [6, 7] [] [0, 4, 9, 10, 11, 82] (L' := [(0, .slice A0 l0.length c0), (4, .slice A4_q35 o34.length c4_q35), (9, .slice A9_l2 x9_l2.length c9_l2), (10, .int .i64 x10_l2), (11, .int .i64 x11_l2), (82, .bool (decide (x11_l2 < wi v67)))]) (w' := w) (by kernel_rfl) ?_
    refine WR.nil ?_
    refine At.go ?_
    refine WC.cond (by kernel_rfl) (decide (x11_l2 < wi v67)) (by kernel_rfl) (by kernel_rfl) (fun hb69 => ?_) (fun hb69 => ?_)
    · replace H := ite_t H hb69
      refine WC.skip (by kernel_rfl) ?_
      refine At.go ?_
      refine WC.seq (by kernel_rfl) ?_
      refine WC.block (by kernel_rfl) ?_
      refine WC.seq (by kernel_rfl) ?_
      refine WC.reg [0, 1, 2, 3, 4, 5, 6, 7, 8, 9, 10] (by kernel_rfl) (by kernel_rfl) ?_
      refine WR.runk [0] [1, 2, 3, 4, 5, 6, 7, 8, 9, 10] [0, 4, 9, 10, 11, 85] (L' := [(0, .slice A0 l0.length c0), (4, .slice A4_q35 o34.length c4_q35), (9, .slice A9_l2 x9_l2.length c9_l2), (10, .int .i64 x10_l2), (11, .int .i64 x11_l2), (85, .slice A4_q35 o34.length c4_q35)]) (w' := w) (by kernel_rfl) ?_
      refine WR.st (St.ofP (PSt.idx (k := .i64) (.tmp 85) (.const (.int .i64 0)) (by kernel_rfl) (by kernel_rfl) E29 (by kernel_rfl) (by kernel_rfl) (Sat.rdAt 0 hS rfl) e63 ?_))
      refine WR.runk [] [2, 3, 4, 5, 6, 7, 8, 9, 10] [0, 4, 9, 10, 11, 86] (L' := [(0, .slice A0 l0.length c0), (4, .slice A4_q35 o34.length c4_q35), (9, .slice A9_l2 x9_l2.length c9_l2), (10, .int .i64 x10_l2), (11, .int .i64 x11_l2), (86, .pointer (some (adr A4_q35 (0 : Int).toNat 1)))]) (w' := w) (by kernel_rfl) ?_
      refine WR.st (St.ofR (RSt.loadSlO (H := (hp w0)) (t := 22) (.tmp 86) (by kernel_rfl) (by kernel_rfl) (by kernel_rfl) (by kernel_rfl) (Sat.rdAt 0 hS rfl) e63 (fun A70 c71 R72 => ?_)))
      replace R72 : rdS (r0 (.int .u8)) 1 (hp w0) A70 c71 v62 := R72
      refine WR.runk [3, 4, 5, 6, 7, 8] [9, 10] [0, 4, 9, 10, 11, 87, 90, 93] (L' := [(0, .slice A0 l0.length c0), (4, .slice A4_q35 o34.length c4_q35), (9, .slice A9_l2 x9_l2.length c9_l2), (10, .int .i64 x10_l2), (11, .int .i64 x11_l2), (87, .slice A70 v62.length c71), (90, .int .i64 (wi (6 + (wi (4 * x11_l2))))), (93, .int .i64 (wi (10 + (wi (4 * x11_l2)))))]) (w' := w) (by kernel_rfl) ?_
      obtain ⟨y73, e74, H⟩ := bind_ex H
      refine WR.st (St.ofP (PSt.sub (A := A70) (c := c71) (.tmp 87) (some (.tmp 90)) (some (.tmp 93)) none (by kernel_rfl) (by kernel_rfl) E22 (by kernel_rfl) (rdS.up R72 hS.sub0).1 e74 (Exists.intro IntKind.i64 (by kernel_rfl)) (Exists.intro IntKind.i64 (by kernel_rfl)) trivial (fun A75 c76 T77 => ?_)))
      refine WR.runk [10] [] [0, 4, 9, 10, 11, 12] (L' := [(0, .slice A0 l0.length c0), (4, .slice A4_q35 o34.length c4_q35), (9, .slice A9_l2 x9_l2.length c9_l2), (10, .int .i64 x10_l2), (11, .int .i64 x11_l2), (12, .slice A75 y73.length c76)]) (w' := w) (by kernel_rfl) ?_
      refine WR.nil ?_
      refine At.go ?_
      refine WC.seq (by kernel_rfl) ?_
      refine WC.drawn (by kernel_rfl) (by kernel_rfl) 23 (by kernel_rfl) (fun w78 hw79 => ?_)
      have hS := hS.heap hw79.1 hw79.2
      refine WD.weaken [0, 4, 9, 10, 11, 12] (L' := [(0, .slice A0 l0.length c0), (4, .slice A4_q35 o34.length c4_q35), (9, .slice A9_l2 x9_l2.length c9_l2), (10, .int .i64 x10_l2), (11, .int .i64 x11_l2), (12, .slice A75 y73.length c76)]) (by kernel_rfl) ?_
      refine WD.pure (i := 0) (v := .slice A75 y73.length c76) (by kernel_rfl) (by kernel_rfl) (fun _ => by kernel_rfl) ?_
      refine WD.weaken [0, 4, 9, 10, 11, 12, 95] (L' := [(0, .slice A0 l0.length c0), (4, .slice A4_q35 o34.length c4_q35), (9, .slice A9_l2 x9_l2.length c9_l2), (10, .int .i64 x10_l2), (11, .int .i64 x11_l2), (12, .slice A75 y73.length c76), (95, .slice A75 y73.length c76)]) (by kernel_rfl) ?_
      obtain ⟨v80, e81, H⟩ := bind_ex H
      refine WD.ofP (i := 1) (by kernel_rfl) (PSt.idx (k := .i64) (.tmp 95) (.const (.int .i64 0)) (by kernel_rfl) (by kernel_rfl) E22 (by kernel_rfl) (by kernel_rfl) (T77.rd _ _ (rdS.up R72 hS.sub0)) e81 ?_)
      refine WD.weaken [0, 4, 9, 10, 11, 12, 96] (L' := [(0, .slice A0 l0.length c0), (4, .slice A4_q35 o34.length c4_q35), (9, .slice A9_l2 x9_l2.length c9_l2), (10, .int .i64 x10_l2), (11, .int .i64 x11_l2), (12, .slice A75 y73.length c76), (96, .pointer (some (adr A75 (0 : Int).toNat 1)))]) (by kernel_rfl) ?_
      refine WD.ofR (i := 2) (by kernel_rfl) (RSt.loadInt (t := 5) (.tmp 96) (by kernel_rfl) (by kernel_rfl) (by kernel_rfl) (by kernel_rfl) (T77.rd _ _ (rdS.up R72 hS.sub0)) e81 ?_)
      refine WD.weaken [0, 4, 9, 10, 11, 12, 97] (L' := [(0, .slice A0 l0.length c0), (4, .slice A4_q35 o34.length c4_q35), (9, .slice A9_l2 x9_l2.length c9_l2), (10, .int .i64 x10_l2), (11, .int .i64 x11_l2), (12, .slice A75 y73.length c76), (97, .int .u8 v80)]) (by kernel_rfl) ?_
      refine WD.pure (i := 3) (v := .int .i64 (wi v80)) (by kernel_rfl) (by kernel_rfl) (fun _ => by kernel_rfl) ?_
      refine WD.weaken [0, 4, 9, 10, 11, 12, 98] (L' := [(0, .slice A0 l0.length c0), (4, .slice A4_q35 o34.length c4_q35), (9, .slice A9_l2 x9_l2.length c9_l2), (10, .int .i64 x10_l2), (11, .int .i64 x11_l2), (12, .slice A75 y73.length c76), (98, .int .i64 (wi v80))]) (by kernel_rfl) ?_
      refine WD.pure (i := 4) (v := .slice A75 y73.length c76) (by kernel_rfl) (by kernel_rfl) (fun _ => by kernel_rfl) ?_
      refine WD.weaken [0, 4, 9, 10, 11, 12, 98, 99] (L' := [(0, .slice A0 l0.length c0), (4, .slice A4_q35 o34.length c4_q35), (9, .slice A9_l2 x9_l2.length c9_l2), (10, .int .i64 x10_l2), (11, .int .i64 x11_l2), (12, .slice A75 y73.length c76), (98, .int .i64 (wi v80)), (99, .slice A75 y73.length c76)]) (by kernel_rfl) ?_
      obtain ⟨v82, e83, H⟩ := bind_ex H
      refine WD.ofP (i := 5) (by kernel_rfl) (PSt.idx (k := .i64) (.tmp 99) (.const (.int .i64 1)) (by kernel_rfl) (by kernel_rfl) E22 (by kernel_rfl) (by kernel_rfl) (T77.rd _ _ (rdS.up R72 hS.sub0)) e83 ?_)
      refine WD.weaken [0, 4, 9, 10, 11, 12, 98, 100] (L' := [(0, .slice A0 l0.length c0), (4, .slice A4_q35 o34.length c4_q35), (9, .slice A9_l2 x9_l2.length c9_l2), (10, .int .i64 x10_l2), (11, .int .i64 x11_l2), (12, .slice A75 y73.length c76), (98, .int .i64 (wi v80)), (100, .pointer (some (adr A75 (1 : Int).toNat 1)))]) (by kernel_rfl) ?_
      refine WD.ofR (i := 6) (by kernel_rfl) (RSt.loadInt (t := 5) (.tmp 100) (by kernel_rfl) (by kernel_rfl) (by kernel_rfl) (by kernel_rfl) (T77.rd _ _ (rdS.up R72 hS.sub0)) e83 ?_)
      refine WD.weaken [0, 4, 9, 10, 11, 12, 98, 101] (L' := [(0, .slice A0 l0.length c0), (4, .slice A4_q35 o34.length c4_q35), (9, .slice A9_l2 x9_l2.length c9_l2), (10, .int .i64 x10_l2), (11, .int .i64 x11_l2), (12, .slice A75 y73.length c76), (98, .int .i64 (wi v80)), (101, .int .u8 v82)]) (by kernel_rfl) ?_
      refine WD.pure (i := 7) (v := .int .i64 (wi v82)) (by kernel_rfl) (by kernel_rfl) (fun _ => by kernel_rfl) ?_
      refine WD.weaken [0, 4, 9, 10, 11, 12, 98, 102] (L' := [(0, .slice A0 l0.length c0), (4, .slice A4_q35 o34.length c4_q35), (9, .slice A9_l2 x9_l2.length c9_l2), (10, .int .i64 x10_l2), (11, .int .i64 x11_l2), (12, .slice A75 y73.length c76), (98, .int .i64 (wi v80)), (102, .int .i64 (wi v82))]) (by kernel_rfl) ?_
      refine WD.pure (i := 8) (v := .slice A75 y73.length c76) (by kernel_rfl) (by kernel_rfl) (fun _ => by kernel_rfl) ?_
      refine WD.weaken [0, 4, 9, 10, 11, 12, 98, 102, 103] (L' := [(0, .slice A0 l0.length c0), (4, .slice A4_q35 o34.length c4_q35), (9, .slice A9_l2 x9_l2.length c9_l2), (10, .int .i64 x10_l2), (11, .int .i64 x11_l2), (12, .slice A75 y73.length c76), (98, .int .i64 (wi v80)), (102, .int .i64 (wi v82)), (103, .slice A75 y73.length c76)]) (by kernel_rfl) ?_
      obtain ⟨v84, e85, H⟩ := bind_ex H
      refine WD.ofP (i := 9) (by kernel_rfl) (PSt.idx (k := .i64) (.tmp 103) (.const (.int .i64 2)) (by kernel_rfl) (by kernel_rfl) E22 (by kernel_rfl) (by kernel_rfl) (T77.rd _ _ (rdS.up R72 hS.sub0)) e85 ?_)
      refine WD.weaken [0, 4, 9, 10, 11, 12, 98, 102, 104] (L' := [(0, .slice A0 l0.length c0), (4, .slice A4_q35 o34.length c4_q35), (9, .slice A9_l2 x9_l2.length c9_l2), (10, .int .i64 x10_l2), (11, .int .i64 x11_l2), (12, .slice A75 y73.length c76), (98, .int .i64 (wi v80)), (102, .int .i64 (wi v82)), (104, .pointer (some (adr A75 (2 : Int).toNat 1)))]) (by kernel_rfl) ?_
      refine WD.ofR (i := 10) (by kernel_rfl) (RSt.loadInt (t := 5) (.tmp 104) (by kernel_rfl) (by kernel_rfl) (by kernel_rfl) (by kernel_rfl) (T77.rd _ _ (rdS.up R72 hS.sub0)) e85 ?_)
      refine WD.weaken [0, 4, 9, 10, 11, 12, 98, 102, 105] (L' := [(0, .slice A0 l0.length c0), (4, .slice A4_q35 o34.length c4_q35), (9, .slice A9_l2 x9_l2.length c9_l2), (10, .int .i64 x10_l2), (11, .int .i64 x11_l2), (12, .slice A75 y73.length c76), (98, .int .i64 (wi v80)), (102, .int .i64 (wi v82)), (105, .int .u8 v84)]) (by kernel_rfl) ?_
      refine WD.pure (i := 11) (v := .int .i64 (wi v84)) (by kernel_rfl) (by kernel_rfl) (fun _ => by kernel_rfl) ?_
      refine WD.weaken [0, 4, 9, 10, 11, 12, 98, 102, 106] (L' := [(0, .slice A0 l0.length c0), (4, .slice A4_q35 o34.length c4_q35), (9, .slice A9_l2 x9_l2.length c9_l2), (10, .int .i64 x10_l2), (11, .int .i64 x11_l2), (12, .slice A75 y73.length c76), (98, .int .i64 (wi v80)), (102, .int .i64 (wi v82)), (106, .int .i64 (wi v84))]) (by kernel_rfl) ?_
      refine WD.pure (i := 12) (v := .slice A75 y73.length c76) (by kernel_rfl) (by kernel_rfl) (fun _ => by kernel_rfl) ?_
      refine WD.weaken [0, 4, 9, 10, 11, 98, 102, 106, 107] (L' := [(0, .slice A0 l0.length c0), (4, .slice A4_q35 o34.length c4_q35), (9, .slice A9_l2 x9_l2.length c9_l2), (10, .int .i64 x10_l2), (11, .int .i64 x11_l2), (98, .int .i64 (wi v80)), (102, .int .i64 (wi v82)), (106, .int .i64 (wi v84)), (107, .slice A75 y73.length c76)]) (by kernel_rfl) ?_
      obtain ⟨v86, e87, H⟩ := bind_ex H
      refine WD.ofP (i := 13) (by kernel_rfl) (PSt.idx (k := .i64) (.tmp 107) (.const (.int .i64 3)) (by kernel_rfl) (by kernel_rfl) E22 (by kernel_rfl) (by kernel_rfl) (T77.rd _ _ (rdS.up R72 hS.sub0)) e87 ?_)
      refine WD.weaken [0, 4, 9, 10, 11, 98, 102, 106, 108] (L' := [(0, .slice A0 l0.length c0), (4, .slice A4_q35 o34.length c4_q35), (9, .slice A9_l2 x9_l2.length c9_l2), (10, .int .i64 x10_l2), (11, .int .i64 x11_l2), (98, .int .i64 (wi v80)), (102, .int .i64 (wi v82)), (106, .int .i64 (wi v84)), (108, .pointer (some (adr A75 (3 : Int).toNat 1)))]) (by kernel_rfl) ?_
      refine WD.ofR (i := 14) (by kernel_rfl) (RSt.loadInt (t := 5) (.tmp 108) (by kernel_rfl) (by kernel_rfl) (by kernel_rfl) (by kernel_rfl) (T77.rd _ _ (rdS.up R72 hS.sub0)) e87 ?_)
      refine WD.weaken [0, 4, 9, 10, 11, 98, 102, 106, 109] (L' := [(0, .slice A0 l0.length c0), (4, .slice A4_q35 o34.length c4_q35), (9, .slice A9_l2 x9_l2.length c9_l2), (10, .int .i64 x10_l2), (11, .int .i64 x11_l2), (98, .int .i64 (wi v80)), (102, .int .i64 (wi v82)), (106, .int .i64 (wi v84)), (109, .int .u8 v86)]) (by kernel_rfl) ?_
      refine WD.pure (i := 15) (v := .int .i64 (wi v86)) (by kernel_rfl) (by kernel_rfl) (fun _ => by kernel_rfl) ?_
      refine WD.weaken [0, 4, 9, 10, 11, 98, 102, 106, 110] (L' := [(0, .slice A0 l0.length c0), (4, .slice A4_q35 o34.length c4_q35), (9, .slice A9_l2 x9_l2.length c9_l2), (10, .int .i64 x10_l2), (11, .int .i64 x11_l2), (98, .int .i64 (wi v80)), (102, .int .i64 (wi v82)), (106, .int .i64 (wi v84)), (110, .int .i64 (wi v86))]) (by kernel_rfl) ?_
      refine WD.pure (i := 16) (v := .int .i64 (wi (256 * (wi v86)))) (by kernel_rfl) (by kernel_rfl) (fun _ => by kernel_rfl) ?_
      refine WD.weaken [0, 4, 9, 10, 11, 98, 102, 106, 111] (L' := [(0, .slice A0 l0.length c0), (4, .slice A4_q35 o34.length c4_q35), (9, .slice A9_l2 x9_l2.length c9_l2), (10, .int .i64 x10_l2), (11, .int .i64 x11_l2), (98, .int .i64 (wi v80)), (102, .int .i64 (wi v82)), (106, .int .i64 (wi v84)), (111, .int .i64 (wi (256 * (wi v86))))]) (by kernel_rfl) ?_
      refine WD.pure (i := 17) (v := .int .i64 (wi ((wi v84) + (wi (256 * (wi v86)))))) (by kernel_rfl) (by kernel_rfl) (fun _ => by kernel_rfl) ?_
      refine WD.weaken [0, 4, 9, 10, 11, 98, 102, 112] (L' := [(0, .slice A0 l0.length c0), (4, .slice A4_q35 o34.length c4_q35), (9, .slice A9_l2 x9_l2.length c9_l2), (10, .int .i64 x10_l2), (11, .int .i64 x11_l2), (98, .int .i64 (wi v80)), (102, .int .i64 (wi v82)), (112, .int .i64 (wi ((wi v84) + (wi (256 * (wi v86))))))]) (by kernel_rfl) ?_
      refine WD.pure (i := 18) (v := .int .i64 (wi (256 * (wi ((wi v84) + (wi (256 * (wi v86)))))))) (by kernel_rfl) (by kernel_rfl) (fun _ => by kernel_rfl) ?_
      refine WD.weaken [0, 4, 9, 10, 11, 98, 102, 113] (L' := [(0, .slice A0 l0.length c0), (4, .slice A4_q35 o34.length c4_q35), (9, .slice A9_l2 x9_l2.length c9_l2), (10, .int .i64 x10_l2), (11, .int .i64 x11_l2), (98, .int .i64 (wi v80)), (102, .int .i64 (wi v82)), (113, .int .i64 (wi (256 * (wi ((wi v84) + (wi (256 * (wi v86))))))))]) (by kernel_rfl) ?_
      refine WD.pure (i := 19) (v := .int .i64 (wi ((wi v82) + (wi (256 * (wi ((wi v84) + (wi (256 * (wi v86)))))))))) (by kernel_rfl) (by kernel_rfl) (fun _ => by kernel_rfl) ?_
      refine WD.weaken [0, 4, 9, 10, 11, 98, 114] (L' := [(0, .slice A0 l0.length c0), (4, .slice A4_q35 o34.length c4_q35), (9, .slice A9_l2 x9_l2.length c9_l2), (10, .int .i64 x10_l2), (11, .int .i64 x11_l2), (98, .int .i64 (wi v80)), (114, .int .i64 (wi ((wi v82) + (wi (256 * (wi ((wi v84) + (wi (256 * (wi v86))))))))))]) (by kernel_rfl) ?_
      refine WD.pure (i := 20) (v := .int .i64 (wi (256 * (wi ((wi v82) + (wi (256 * (wi ((wi v84) + (wi (256 * (wi v86)))))))))))) (by kernel_rfl) (by kernel_rfl) (fun _ => by kernel_rfl) ?_
      refine WD.weaken [0, 4, 9, 10, 11, 98, 115] (L' := [(0, .slice A0 l0.length c0), (4, .slice A4_q35 o34.length c4_q35), (9, .slice A9_l2 x9_l2.length c9_l2), (10, .int .i64 x10_l2), (11, .int .i64 x11_l2), (98, .int .i64 (wi v80)), (115, .int .i64 (wi (256 * (wi ((wi v82) + (wi (256 * (wi ((wi v84) + (wi (256 * (wi v86))))))))))))]) (by kernel_rfl) ?_
      refine WD.pure (i := 21) (v := .int .i64 (wi ((wi v80) + (wi (256 * (wi ((wi v82) + (wi (256 * (wi ((wi v84) + (wi (256 * (wi v86)))))))))))))) (by kernel_rfl) (by kernel_rfl) (fun _ => by kernel_rfl) ?_
      refine WD.weaken [0, 4, 9, 10, 11, 116] (L' := [(0, .slice A0 l0.length c0), (4, .slice A4_q35 o34.length c4_q35), (9, .slice A9_l2 x9_l2.length c9_l2), (10, .int .i64 x10_l2), (11, .int .i64 x11_l2), (116, .int .i64 (wi ((wi v80) + (wi (256 * (wi ((wi v82) + (wi (256 * (wi ((wi v84) + (wi (256 * (wi v86))))))))))))))]) (by kernel_rfl) ?_
      refine WD.pure (i := 22) (v := .int .i64 (wi ((wi v80) + (wi (256 * (wi ((wi v82) + (wi (256 * (wi ((wi v84) + (wi (256 * (wi v86)))))))))))))) (by kernel_rfl) (by kernel_rfl) (fun _ => by kernel_rfl) ?_
      refine WD.weaken [0, 4, 9, 10, 11, 13] (L' := [(0, .slice A0 l0.length c0), (4, .slice A4_q35 o34.length c4_q35), (9, .slice A9_l2 x9_l2.length c9_l2), (10, .int .i64 x10_l2), (11, .int .i64 x11_l2), (13, .int .i64 (wi ((wi v80) + (wi (256 * (wi ((wi v82) + (wi (256 * (wi ((wi v84) + (wi (256 * (wi v86))))))))))))))]) (by kernel_rfl) ?_
      refine WD.nil (by kernel_rfl) ?_
      refine At.go ?_
      refine WC.seq (by kernel_rfl) ?_
      refine WC.reg [0] (by kernel_rfl) (by kernel_rfl) ?_
      refine WR.runk [0] [] [0, 4, 9, 10, 11, 13, 14] (L' := [(0, .slice A0 l0.length c0), (4, .slice A4_q35 o34.length c4_q35), (9, .slice A9_l2 x9_l2.length c9_l2), (10, .int .i64 x10_l2), (11, .int .i64 x11_l2), (13, .int .i64 (wi ((wi v80) + (wi (256 * (wi ((wi v82) + (wi (256 * (wi ((wi v84) + (wi (256 * (wi v86)))))))))))))), (14, .slice none 0 0)]) (w' := w78) (by kernel_rfl) ?_
      refine WR.nil ?_
      refine At.go ?_
      refine WC.seq (by kernel_rfl) ?_
      refine WC.block (by kernel_rfl) ?_
      have hS := hS.addNil (α := Int) 5 (r0 (.int .u8)) 1
      have hS : Sat w78 (rf w0) [osl 22 (rd (hp w0) (.slice 5 (.int .u8))) 1 A4_q35 c4_q35 o34, orw 22 (Esl 5 (.int .u8)) 1 A9_l2 c9_l2 x9_l2, osl 5 (r0 (.int .u8)) 1 none 0 ([] : List Int)] := hS.sel [1, 2, 0] (by kernel_rfl)
      obtain ⟨o100, e101, H⟩ := bind_ex H
      refine WC.loop (by kernel_rfl) ?_
      refine WL.weaken [0, 4, 9, 10, 11, 13, 14] (L' := [(0, .slice A0 l0.length c0), (4, .slice A4_q35 o34.length c4_q35), (9, .slice A9_l2 x9_l2.length c9_l2), (10, .int .i64 x10_l2), (11, .int .i64 x11_l2), (13, .int .i64 (wi ((wi v80) + (wi (256 * (wi ((wi v82) + (wi (256 * (wi ((wi v84) + (wi (256 * (wi v86)))))))))))))), (14, .slice none 0 0)]) (by kernel_rfl) ?_
      refine colophonref06_Open.l3_ok w0 A0 c0 l0 o34 A4_q35 c4_q35 A9_l2 c9_l2 x9_l2 x11_l2 v80 v82 v84 v86 o100 (fun o102 A2_q103 c2_q103 w104 ho105 hS => ?_) (fun o106 A14_q107 c14_q107 w108 ho109 hS => ?_) FU x10_l2 ([] : List Int) none 0 _ hS e101
      · subst ho105
        dsimp only at H
        refine At.blockRet ?_
        refine At.thenRet ?_
        refine At.blockRet ?_
        refine At.thenRet ?_
        refine At.thenRet ?_
        obtain rfl := Option.some.inj H
        have hS : Sat w104 (rf w0) [orw 22 (Esl 5 (.int .u8)) 1 A2_q103 c2_q103 o102.1] := hS.sel [0] (by kernel_rfl)
        refine At.weaken [2, 3] (L' := [(2, .slice A2_q103 o102.1.length c2_q103), (3, .bool o102.2)]) (by kernel_rfl) ?_
        exact hn0 (o102.1, o102.2) A2_q103 c2_q103 _ rfl hS
      · subst ho109
        dsimp only at H
        refine At.hit ?_
        refine At.go ?_
        refine WC.reg [0, 1, 2, 3, 4, 5, 6] (by kernel_rfl) (by kernel_rfl) ?_
        refine WR.runk [0, 1, 2] [3, 4, 5, 6] [0, 4, 9, 10, 11, 133, 134, 135] (L' := [(0, .slice A0 l0.length c0), (4, .slice A4_q35 o34.length c4_q35), (9, .slice A9_l2 x9_l2.length c9_l2), (10, .int .i64 o106.1), (11, .int .i64 x11_l2), (133, .slice A9_l2 x9_l2.length c9_l2), (134, .slice A14_q107 o106.2.length c14_q107), (135, .int .i64 (wi ((wi v80) + (wi (256 * (wi ((wi v82) + (wi (256 * (wi ((wi v84) + (wi (256 * (wi v86))))))))))))))]) (w' := w108) (by kernel_rfl) ?_
        obtain ⟨y110, e111, H⟩ := bind_ex H
        refine WR.st (St.ofP (PSt.sub (A := A14_q107) (c := c14_q107) (.tmp 134) none (some (.tmp 135)) none (by kernel_rfl) (by kernel_rfl) E22 (by kernel_rfl) (Sat.rdAt 2 hS rfl).1 e111 rfl (Exists.intro IntKind.i64 (by kernel_rfl)) trivial (fun A112 c113 T114 => ?_)))
        refine WR.runk [] [4, 5, 6] [0, 4, 9, 10, 11, 133, 136] (L' := [(0, .slice A0 l0.length c0), (4, .slice A4_q35 o34.length c4_q35), (9, .slice A9_l2 x9_l2.length c9_l2), (10, .int .i64 o106.1), (11, .int .i64 x11_l2), (133, .slice A9_l2 x9_l2.length c9_l2), (136, .slice A112 y110.length c113)]) (w' := w108) (by kernel_rfl) ?_
        refine WR.st (St.box hS (by kernel_rfl) (.cells #[.slice A112 y110.length c113] 22) (fun b115 => .slice (some ⟨b115, 0, none⟩) 1 1) (fun _ => by kernel_rfl) (fun b115 w116 hS => ?_))
        refine WR.runk [] [5, 6] [0, 4, 9, 10, 11, 133, 137] (L' := [(0, .slice A0 l0.length c0), (4, .slice A4_q35 o34.length c4_q35), (9, .slice A9_l2 x9_l2.length c9_l2), (10, .int .i64 o106.1), (11, .int .i64 x11_l2), (133, .slice A9_l2 x9_l2.length c9_l2), (137, .slice (some ⟨b115, 0, none⟩) 1 1)]) (w' := w116) (by kernel_rfl) ?_
        have hS : Sat w116 (rf w0) [orw 22 (Esl 5 (.int .u8)) 1 A9_l2 c9_l2 x9_l2, pts b115 (.cells #[.slice A112 y110.length c113] 22 (0, 0)), osl 22 (rd (hp w0) (.slice 5 (.int .u8))) 1 A4_q35 c4_q35 o34, osl 5 (r0 (.int .u8)) 1 A14_q107 c14_q107 o106.2] := hS.sel [2, 0, 1, 3] (by kernel_rfl)
        have hS : Sat w116 (rf w0) [osl 5 (r0 (.int .u8)) 1 A14_q107 c14_q107 o106.2, orw 22 (Esl 5 (.int .u8)) 1 A9_l2 c9_l2 x9_l2, pts b115 (.cells #[.slice A112 y110.length c113] 22 (0, 0)), osl 22 (rd (hp w0) (.slice 5 (.int .u8))) 1 A4_q35 c4_q35 o34] := hS.sel [3, 0, 1, 2] (by kernel_rfl)
        have hS : Sat w116 (rf w0) [osl 5 (r0 (.int .u8)) 1 A112 c113 y110, orw 22 (Esl 5 (.int .u8)) 1 A9_l2 c9_l2 x9_l2, pts b115 (.cells #[.slice A112 y110.length c113] 22 (0, 0)), osl 22 (rd (hp w0) (.slice 5 (.int .u8))) 1 A4_q35 c4_q35 o34] := T114.sat _ _ _ _ _ hS
        have hS : Sat w116 (rf w0) [orw 22 (Esl 5 (.int .u8)) 1 A9_l2 c9_l2 x9_l2, osl 5 (r0 (.int .u8)) 1 A112 c113 y110, pts b115 (.cells #[.slice A112 y110.length c113] 22 (0, 0)), osl 22 (rd (hp w0) (.slice 5 (.int .u8))) 1 A4_q35 c4_q35 o34] := hS.sel [1, 0, 2, 3] (by kernel_rfl)
        obtain ⟨y118, e117, H⟩ := bind_ex H
        refine WR.st (St.appendOwn (.tmp 133) (.tmp 137) (by kernel_rfl) (by kernel_rfl) E29 (fun H h => Esl.mk H h) hS 0 rfl (by kernel_rfl) (by kernel_rfl) (by kernel_rfl) (by kernel_rfl) 5864062014805 (by kernel_rfl) (by kernel_rfl) e117 (fun A119 c120 w121 K122 hS hK123 hM124 => ?_))
        have R125 : rdS (rd K122 (.slice 5 (.int .u8))) 1 K122 A119 c120 y118 := orw.rdS (κ := (.slice 5 (.int .u8))) (Esl.rd (e := 5) (κ := (.int .u8))) hK123
        have R126 : rdS (r0 (.int .u8)) 1 K122 A112 c113 y110 := by obtain ⟨M, hM, hm⟩ := hM124; exact (osl.read hm).mono hM (fun _ _ h => h)
        refine WR.runk [6] [] [0, 4, 9, 10, 11] (L' := [(0, .slice A0 l0.length c0), (4, .slice A4_q35 o34.length c4_q35), (9, .slice A119 y118.length c120), (10, .int .i64 o106.1), (11, .int .i64 x11_l2)]) (w' := w121) (by kernel_rfl) ?_
        refine WR.nil ?_
        refine At.blockNormal ?_
        refine At.go ?_
        refine WC.reg [0, 1, 2] (by kernel_rfl) (by kernel_rfl) ?_
        refine WR.runk [0, 1, 2] [] [0, 4, 9, 10, 11] (L' := [(0, .slice A0 l0.length c0), (4, .slice A4_q35 o34.length c4_q35), (9, .slice A119 y118.length c120), (10, .int .i64 o106.1), (11, .int .i64 (wi (x11_l2 + 1)))]) (w' := w121) (by kernel_rfl) ?_
        refine WR.nil ?_
        have hS : Sat w121 (rf w0) [orw 22 (Esl 5 (.int .u8)) 1 A119 c120 y118, pts b115 (.cells #[.slice A112 y110.length c113] 22 (0, 0)), osl 22 (rd (hp w0) (.slice 5 (.int .u8))) 1 A4_q35 c4_q35 o34] := Sat.ungh hK123 hS
        have hS : Sat w121 (rf w0) [osl 22 (rd (hp w0) (.slice 5 (.int .u8))) 1 A4_q35 c4_q35 o34, orw 22 (Esl 5 (.int .u8)) 1 A119 c120 y118] := hS.sel [2, 0] (by kernel_rfl)
        refine At.again ?_
        refine WL.weaken [0, 4, 9, 10, 11] (L' := [(0, .slice A0 l0.length c0), (4, .slice A4_q35 o34.length c4_q35), (9, .slice A119 y118.length c120), (10, .int .i64 o106.1), (11, .int .i64 (wi (x11_l2 + 1)))]) (by kernel_rfl) ?_
        exact ih y118 o106.1 (wi (x11_l2 + 1)) A119 c120 _ hS H
    · replace H := ite_f H hb69
      refine WC.exit (by kernel_rfl) ?_
      refine At.thenExit ?_
      refine At.thenExit ?_
      obtain rfl := Option.some.inj H
      have hS : Sat w (rf w0) [orw 22 (Esl 5 (.int .u8)) 1 A9_l2 c9_l2 x9_l2] := hS.sel [1] (by kernel_rfl)
      refine At.weaken [0, 9] (L' := [(0, .slice A0 l0.length c0), (9, .slice A9_l2 x9_l2.length c9_l2)]) (by kernel_rfl) ?_
      exact hn1 x9_l2 A9_l2 c9_l2 _ rfl hS
theorem colophonref06_Open.calls (w0 : World) (A0 : Option Addr) (c0 : Nat) (l0 : List Int) (R0 : rdS (r0 (.int .u8)) 1 (hp w0) A0 c0 l0) (r : (List (List Int)) × Bool) (H : colophonref06_Open.f l0 = some r) :
    Calls Try.prog 11 #[.slice A0 l0.length c0] w0 (fun e w' => ∃ v, e = .returned v ∧ colophonref06_Open.post w0 r v w') := by
  have hS : Sat w0 (rf w0) [] := Sat.start w0
  unfold colophonref06_Open.f at H
  refine calls_of_WC (vs := [.slice A0 l0.length c0]) Try.func11 (c := C11) (n := 154) (by kernel_rfl) (by kernel_rfl) (by kernel_rfl) ?_
  refine WC.seq (by kernel_rfl) ?_
  refine WC.reg [0, 1] (by kernel_rfl) (by kernel_rfl) ?_
  refine WR.runk [0, 1] [] [0] (L' := [(0, .slice A0 l0.length c0)]) (w' := w0) (by kernel_rfl) ?_
  refine WR.nil ?_
  refine At.go ?_
  refine WC.seq (by kernel_rfl) ?_
  refine WC.reg [0] (by kernel_rfl) (by kernel_rfl) ?_
  refine WR.runk [0] [] [0, 4] (L' := [(0, .slice A0 l0.length c0), (4, .slice none 0 0)]) (w' := w0) (by kernel_rfl) ?_
  refine WR.nil ?_
  refine At.go ?_
  refine WC.seq (by kernel_rfl) ?_
  refine WC.seq (by kernel_rfl) ?_
  refine WC.reg [0] (by kernel_rfl) (by kernel_rfl) ?_
  refine WR.runk [0] [] [0, 4, 5] (L' := [(0, .slice A0 l0.length c0), (4, .slice none 0 0), (5, .int .i64 0)]) (w' := w0) (by kernel_rfl) ?_
  refine WR.nil ?_
  refine At.go ?_
  refine WC.block (by kernel_rfl) ?_
  have hS := hS.addNil (α := (List Int)) 22 (rd (hp w0) (.slice 5 (.int .u8))) 1
  have hS : Sat w0 (rf w0) [osl 22 (rd (hp w0) (.slice 5 (.int .u8))) 1 none 0 ([] : List (List Int))] := hS.sel [0] (by kernel_rfl)
  obtain ⟨o28, e29, H⟩ := bind_ex H
  refine WC.loop (by kernel_rfl) ?_
  refine WL.weaken [0, 4, 5] (L' := [(0, .slice A0 l0.length c0), (4, .slice none 0 0), (5, .int .i64 0)]) (by kernel_rfl) ?_
  refine colophonref06_Open.l1_ok w0 A0 c0 l0 R0 o28 (fun o30 A2_q31 c2_q31 w32 ho33 hS => ?_) (fun o34 A4_q35 c4_q35 w36 ho37 hS => ?_) FU ([] : List (List Int)) 0 none 0 _ hS e29
  · subst ho33
    dsimp only at H
    refine At.blockRet ?_
    refine At.thenRet ?_
    obtain rfl := Option.some.inj H
    have hS : Sat w32 (rf w0) [orw 22 (Esl 5 (.int .u8)) 1 A2_q31 c2_q31 o30.1] := hS.sel [0] (by kernel_rfl)
    exact At.body [.slice A2_q31 o30.1.length c2_q31, .bool o30.2] (by kernel_rfl) ⟨_, rfl, _, _, rfl, hS⟩
  · subst ho37
    dsimp only at H
    refine At.hit ?_
    refine At.go ?_
    refine WC.seq (by kernel_rfl) ?_
    refine WC.seq (by kernel_rfl) ?_
    refine WC.reg [0, 1, 2, 3, 4, 5, 6, 7, 8, 9, 10, 11, 12, 13, 14, 15, 16, 17, 18, 19, 20, 21, 22, 23, 24, 25, 26] (by kernel_rfl) (by kernel_rfl) ?_
    refine WR.runk [0, 1, 2, 3] [4, 5, 6, 7, 8, 9, 10, 11, 12, 13, 14, 15, 16, 17, 18, 19, 20, 21, 22, 23, 24, 25, 26] [0, 4, 51] (L' := [(0, .slice A0 l0.length c0), (4, .slice A4_q35 o34.length c4_q35), (51, .bool ((o34.length : Int) == 0))]) (w' := w36) (by kernel_rfl) ?_
    refine WR.split 51 (b := ((o34.length : Int) == 0)) (by kernel_rfl) (fun hb38 => ?_) (fun hb38 => ?_)
    · replace H := ite_t H hb38
      refine WR.runk [4, 5, 6, 7, 8, 9, 10, 11, 12, 13, 14, 15, 16, 17, 18, 19, 20, 21, 22, 23, 24, 25, 26] [] [0, 4, 74] (L' := [(0, .slice A0 l0.length c0), (4, .slice A4_q35 o34.length c4_q35), (74, .bool true)]) (w' := w36) (by kernel_rfl) ?_
      refine WR.nil ?_
      refine At.go ?_
      refine WC.condT (by kernel_rfl) (by kernel_rfl) (by kernel_rfl) ?_
      refine WC.seq (by kernel_rfl) ?_
      refine WC.reg [0, 1] (by kernel_rfl) (by kernel_rfl) ?_
      refine WR.runk [0, 1] [] [2, 3] (L' := [(2, .slice none 0 0), (3, .bool false)]) (w' := w36) (by kernel_rfl) ?_
      refine WR.nil ?_
      refine At.go ?_
      refine WC.ret (by kernel_rfl) ?_
      refine At.thenRet ?_
      obtain rfl := Option.some.inj H
      have hS := hS.addNilR (α := (List Int)) 22 (Esl 5 (.int .u8)) 1
      have hS : Sat w36 (rf w0) [orw 22 (Esl 5 (.int .u8)) 1 none 0 ([] : List (List Int))] := hS.sel [0] (by kernel_rfl)
      exact At.body [.slice none 0 0, .bool false] (by kernel_rfl) ⟨_, rfl, _, _, rfl, hS⟩
    · replace H := ite_f H hb38
      refine WR.runk [4] [5, 6, 7, 8, 9, 10, 11, 12, 13, 14, 15, 16, 17, 18, 19, 20, 21, 22, 23, 24, 25, 26] [0, 4, 51, 52] (L' := [(0, .slice A0 l0.length c0), (4, .slice A4_q35 o34.length c4_q35), (51, .bool false), (52, .slice A4_q35 o34.length c4_q35)]) (w' := w36) (by kernel_rfl) ?_
      obtain ⟨v39, e40, H⟩ := bind_ex H
      refine WR.st (St.ofP (PSt.idx (k := .i64) (.tmp 52) (.const (.int .i64 0)) (by kernel_rfl) (by kernel_rfl) E29 (by kernel_rfl) (by kernel_rfl) (Sat.rdAt 0 hS rfl) e40 ?_))
      refine WR.runk [] [6, 7, 8, 9, 10, 11, 12, 13, 14, 15, 16, 17, 18, 19, 20, 21, 22, 23, 24, 25, 26] [0, 4, 51, 53] (L' := [(0, .slice A0 l0.length c0), (4, .slice A4_q35 o34.length c4_q35), (51, .bool false), (53, .pointer (some (adr A4_q35 (0 : Int).toNat 1)))]) (w' := w36) (by kernel_rfl) ?_
      refine WR.st (St.ofR (RSt.loadSlO (H := (hp w0)) (t := 22) (.tmp 53) (by kernel_rfl) (by kernel_rfl) (by kernel_rfl) (by kernel_rfl) (Sat.rdAt 0 hS rfl) e40 (fun A41 c42 R43 => ?_)))
      replace R43 : rdS (r0 (.int .u8)) 1 (hp w0) A41 c42 v39 := R43
      refine WR.runk [] [7, 8, 9, 10, 11, 12, 13, 14, 15, 16, 17, 18, 19, 20, 21, 22, 23, 24, 25, 26] [0, 4, 51, 54] (L' := [(0, .slice A0 l0.length c0), (4, .slice A4_q35 o34.length c4_q35), (51, .bool false), (54, .slice A41 v39.length c42)]) (w' := w36) (by kernel_rfl) ?_
      obtain ⟨y44, e45, H⟩ := bind_ex H
      refine WR.st (St.ofP (PSt.sub (A := A41) (c := c42) (.tmp 54) none (some (.const (.int .i64 4))) none (by kernel_rfl) (by kernel_rfl) E22 (by kernel_rfl) (rdS.up R43 hS.sub0).1 e45 rfl (Exists.intro IntKind.i64 (by kernel_rfl)) trivial (fun A46 c47 T48 => ?_)))
      refine WR.runk [] [8, 9, 10, 11, 12, 13, 14, 15, 16, 17, 18, 19, 20, 21, 22, 23, 24, 25, 26] [0, 4, 51, 55] (L' := [(0, .slice A0 l0.length c0), (4, .slice A4_q35 o34.length c4_q35), (51, .bool false), (55, .slice A46 y44.length c47)]) (w' := w36) (by kernel_rfl) ?_
      refine WR.st (St.ofR (RSt.toStr (src := 22) (dst := 9) (e := 5) (.tmp 55) (by kernel_rfl) (by kernel_rfl) (by kernel_rfl) (by kernel_rfl) (by kernel_rfl) (by kernel_rfl) (T48.rd _ _ (rdS.up R43 hS.sub0)) ?_))
      refine WR.runk [9, 10, 11] [12, 13, 14, 15, 16, 17, 18, 19, 20, 21, 22, 23, 24, 25, 26] [0, 4, 59] (L' := [(0, .slice A0 l0.length c0), (4, .slice A4_q35 o34.length c4_q35), (59, .bool (!((bs y44).toList == (⟨#[99, 111, 108, 111]⟩ : ByteArray).toList)))]) (w' := w36) (by kernel_rfl) ?_
      refine WR.split 59 (b := (!((bs y44).toList == (⟨#[99, 111, 108, 111]⟩ : ByteArray).toList))) (by kernel_rfl) (fun hb49 => ?_) (fun hb49 => ?_)
      · replace H := ite_t H hb49
        refine WR.runk [12, 13, 14, 15, 16, 17, 18, 19, 20, 21, 22, 23, 24, 25, 26] [] [0, 4, 74] (L' := [(0, .slice A0 l0.length c0), (4, .slice A4_q35 o34.length c4_q35), (74, .bool true)]) (w' := w36) (by kernel_rfl) ?_
        refine WR.nil ?_
        refine At.go ?_
        refine WC.condT (by kernel_rfl) (by kernel_rfl) (by kernel_rfl) ?_
        refine WC.seq (by kernel_rfl) ?_
        refine WC.reg [0, 1] (by kernel_rfl) (by kernel_rfl) ?_
        refine WR.runk [0, 1] [] [2, 3] (L' := [(2, .slice none 0 0), (3, .bool false)]) (w' := w36) (by kernel_rfl) ?_
        refine WR.nil ?_
        refine At.go ?_
        refine WC.ret (by kernel_rfl) ?_
        refine At.thenRet ?_
        obtain rfl := Option.some.inj H
        have hS := hS.addNilR (α := (List Int)) 22 (Esl 5 (.int .u8)) 1
        have hS : Sat w36 (rf w0) [orw 22 (Esl 5 (.int .u8)) 1 none 0 ([] : List (List Int))] := hS.sel [0] (by kernel_rfl)
        exact At.body [.slice none 0 0, .bool false] (by kernel_rfl) ⟨_, rfl, _, _, rfl, hS⟩
      · replace H := ite_f H hb49
        refine WR.runk [12] [13, 14, 15, 16, 17, 18, 19, 20, 21, 22, 23, 24, 25, 26] [0, 4, 59, 60] (L' := [(0, .slice A0 l0.length c0), (4, .slice A4_q35 o34.length c4_q35), (59, .bool false), (60, .slice A4_q35 o34.length c4_q35)]) (w' := w36) (by kernel_rfl) ?_
        refine WR.st (St.ofP (PSt.idx (k := .i64) (.tmp 60) (.const (.int .i64 0)) (by kernel_rfl) (by kernel_rfl) E29 (by kernel_rfl) (by kernel_rfl) (Sat.rdAt 0 hS rfl) e40 ?_))
        refine WR.runk [] [14, 15, 16, 17, 18, 19, 20, 21, 22, 23, 24, 25, 26] [0, 4, 59, 61] (L' := [(0, .slice A0 l0.length c0), (4, .slice A4_q35 o34.length c4_q35), (59, .bool false), (61, .pointer (some (adr A4_q35 (0 : Int).toNat 1)))]) (w' := w36) (by kernel_rfl) ?_
        refine WR.st (St.ofR (RSt.loadSlO (H := (hp w0)) (t := 22) (.tmp 61) (by kernel_rfl) (by kernel_rfl) (by kernel_rfl) (by kernel_rfl) (Sat.rdAt 0 hS rfl) e40 (fun A50 c51 R52 => ?_)))
        replace R52 : rdS (r0 (.int .u8)) 1 (hp w0) A50 c51 v39 := R52
        refine WR.runk [] [15, 16, 17, 18, 19, 20, 21, 22, 23, 24, 25, 26] [0, 4, 59, 62] (L' := [(0, .slice A0 l0.length c0), (4, .slice A4_q35 o34.length c4_q35), (59, .bool false), (62, .slice A50 v39.length c51)]) (w' := w36) (by kernel_rfl) ?_
        obtain ⟨v53, e54, H⟩ := bind_ex H
        refine WR.st (St.ofP (PSt.idx (k := .i64) (.tmp 62) (.const (.int .i64 4)) (by kernel_rfl) (by kernel_rfl) E22 (by kernel_rfl) (by kernel_rfl) (rdS.up R52 hS.sub0) e54 ?_))
        refine WR.runk [] [16, 17, 18, 19, 20, 21, 22, 23, 24, 25, 26] [0, 4, 59, 63] (L' := [(0, .slice A0 l0.length c0), (4, .slice A4_q35 o34.length c4_q35), (59, .bool false), (63, .pointer (some (adr A50 (4 : Int).toNat 1)))]) (w' := w36) (by kernel_rfl) ?_
        refine WR.st (St.ofR (RSt.loadInt (t := 5) (.tmp 63) (by kernel_rfl) (by kernel_rfl) (by kernel_rfl) (by kernel_rfl) (rdS.up R52 hS.sub0) e54 ?_))
        refine WR.runk [17, 18, 19] [20, 21, 22, 23, 24, 25, 26] [0, 4, 67] (L' := [(0, .slice A0 l0.length c0), (4, .slice A4_q35 o34.length c4_q35), (67, .bool (decide (v53 > 60)))]) (w' := w36) (by kernel_rfl) ?_
        refine WR.split 67 (b := decide (v53 > 60)) (by kernel_rfl) (fun hb55 => ?_) (fun hb55 => ?_)
        · replace H := ite_t H hb55
          refine WR.runk [20, 21, 22, 23, 24, 25, 26] [] [0, 4, 74] (L' := [(0, .slice A0 l0.length c0), (4, .slice A4_q35 o34.length c4_q35), (74, .bool true)]) (w' := w36) (by kernel_rfl) ?_
          refine WR.nil ?_
          refine At.go ?_
          refine WC.condT (by kernel_rfl) (by kernel_rfl) (by kernel_rfl) ?_
          refine WC.seq (by kernel_rfl) ?_
          refine WC.reg [0, 1] (by kernel_rfl) (by kernel_rfl) ?_
          refine WR.runk [0, 1] [] [2, 3] (L' := [(2, .slice none 0 0), (3, .bool false)]) (w' := w36) (by kernel_rfl) ?_
          refine WR.nil ?_
          refine At.go ?_
          refine WC.ret (by kernel_rfl) ?_
          refine At.thenRet ?_
          obtain rfl := Option.some.inj H
          have hS := hS.addNilR (α := (List Int)) 22 (Esl 5 (.int .u8)) 1
          have hS : Sat w36 (rf w0) [orw 22 (Esl 5 (.int .u8)) 1 none 0 ([] : List (List Int))] := hS.sel [0] (by kernel_rfl)
          exact At.body [.slice none 0 0, .bool false] (by kernel_rfl) ⟨_, rfl, _, _, rfl, hS⟩
        · replace H := ite_f H hb55
          refine WR.runk [20] [21, 22, 23, 24, 25, 26] [0, 4, 67, 68] (L' := [(0, .slice A0 l0.length c0), (4, .slice A4_q35 o34.length c4_q35), (67, .bool false), (68, .slice A4_q35 o34.length c4_q35)]) (w' := w36) (by kernel_rfl) ?_
          refine WR.st (St.ofP (PSt.idx (k := .i64) (.tmp 68) (.const (.int .i64 0)) (by kernel_rfl) (by kernel_rfl) E29 (by kernel_rfl) (by kernel_rfl) (Sat.rdAt 0 hS rfl) e40 ?_))
          refine WR.runk [] [22, 23, 24, 25, 26] [0, 4, 67, 69] (L' := [(0, .slice A0 l0.length c0), (4, .slice A4_q35 o34.length c4_q35), (67, .bool false), (69, .pointer (some (adr A4_q35 (0 : Int).toNat 1)))]) (w' := w36) (by kernel_rfl) ?_
          refine WR.st (St.ofR (RSt.loadSlO (H := (hp w0)) (t := 22) (.tmp 69) (by kernel_rfl) (by kernel_rfl) (by kernel_rfl) (by kernel_rfl) (Sat.rdAt 0 hS rfl) e40 (fun A56 c57 R58 => ?_)))
          replace R58 : rdS (r0 (.int .u8)) 1 (hp w0) A56 c57 v39 := R58
          refine WR.runk [] [23, 24, 25, 26] [0, 4, 67, 70] (L' := [(0, .slice A0 l0.length c0), (4, .slice A4_q35 o34.length c4_q35), (67, .bool false), (70, .slice A56 v39.length c57)]) (w' := w36) (by kernel_rfl) ?_
          obtain ⟨v59, e60, H⟩ := bind_ex H
          refine WR.st (St.ofP (PSt.idx (k := .i64) (.tmp 70) (.const (.int .i64 5)) (by kernel_rfl) (by kernel_rfl) E22 (by kernel_rfl) (by kernel_rfl) (rdS.up R58 hS.sub0) e60 ?_))
          refine WR.runk [] [24, 25, 26] [0, 4, 67, 71] (L' := [(0, .slice A0 l0.length c0), (4, .slice A4_q35 o34.length c4_q35), (67, .bool false), (71, .pointer (some (adr A56 (5 : Int).toNat 1)))]) (w' := w36) (by kernel_rfl) ?_
          refine WR.st (St.ofR (RSt.loadInt (t := 5) (.tmp 71) (by kernel_rfl) (by kernel_rfl) (by kernel_rfl) (by kernel_rfl) (rdS.up R58 hS.sub0) e60 ?_))
          refine WR.runk [25, 26] [] [0, 4, 74] (L' := [(0, .slice A0 l0.length c0), (4, .slice A4_q35 o34.length c4_q35), (74, .bool (decide (v59 > 0)))]) (w' := w36) (by kernel_rfl) ?_
          refine WR.nil ?_
          refine At.go ?_
          refine WC.cond (by kernel_rfl) (decide (v59 > 0)) (by kernel_rfl) (by kernel_rfl) (fun hb61 => ?_) (fun hb61 => ?_)
          · replace H := ite_t H hb61
            refine WC.seq (by kernel_rfl) ?_
            refine WC.reg [0, 1] (by kernel_rfl) (by kernel_rfl) ?_
            refine WR.runk [0, 1] [] [2, 3] (L' := [(2, .slice none 0 0), (3, .bool false)]) (w' := w36) (by kernel_rfl) ?_
            refine WR.nil ?_
            refine At.go ?_
            refine WC.ret (by kernel_rfl) ?_
            refine At.thenRet ?_
            obtain rfl := Option.some.inj H
            have hS := hS.addNilR (α := (List Int)) 22 (Esl 5 (.int .u8)) 1
            have hS : Sat w36 (rf w0) [orw 22 (Esl 5 (.int .u8)) 1 none 0 ([] : List (List Int))] := hS.sel [0] (by kernel_rfl)
            exact At.body [.slice none 0 0, .bool false] (by kernel_rfl) ⟨_, rfl, _, _, rfl, hS⟩
          · replace H := ite_f H hb61
            refine WC.skip (by kernel_rfl) ?_
            refine At.go ?_
            refine WC.seq (by kernel_rfl) ?_
            refine WC.reg [0] (by kernel_rfl) (by kernel_rfl) ?_
            refine WR.runk [0] [] [0, 4, 9] (L' := [(0, .slice A0 l0.length c0), (4, .slice A4_q35 o34.length c4_q35), (9, .slice none 0 0)]) (w' := w36) (by kernel_rfl) ?_
            refine WR.nil ?_
            refine At.go ?_
            refine WC.seq (by kernel_rfl) ?_
            refine WC.reg [0] (by kernel_rfl) (by kernel_rfl) ?_
            refine WR.runk [0] [] [0, 4, 9, 10] (L' := [(0, .slice A0 l0.length c0), (4, .slice A4_q35 o34.length c4_q35), (9, .slice none 0 0), (10, .int .i64 1)]) (w' := w36) (by kernel_rfl) ?_
            refine WR.nil ?_
            refine At.go ?_
            refine WC.seq (by kernel_rfl) ?_
            refine WC.seq (by kernel_rfl) ?_
            refine WC.reg [0] (by kernel_rfl) (by kernel_rfl) ?_
            refine WR.runk [0] [] [0, 4, 9, 10, 11] (L' := [(0, .slice A0 l0.length c0), (4, .slice A4_q35 o34.length c4_q35), (9, .slice none 0 0), (10, .int .i64 1), (11, .int .i64 0)]) (w' := w36) (by kernel_rfl) ?_
            refine WR.nil ?_
            refine At.go ?_
            refine WC.block (by kernel_rfl) ?_
            have hS := hS.addNilR (α := (List Int)) 22 (Esl 5 (.int .u8)) 1
            have hS : Sat w36 (rf w0) [osl 22 (rd (hp w0) (.slice 5 (.int .u8))) 1 A4_q35 c4_q35 o34, orw 22 (Esl 5 (.int .u8)) 1 none 0 ([] : List (List Int))] := hS.sel [1, 0] (by kernel_rfl)
            obtain ⟨o127, e128, H⟩ := bind_ex H
            refine WC.loop (by kernel_rfl) ?_
            refine WL.weaken [0, 4, 9, 10, 11] (L' := [(0, .slice A0 l0.length c0), (4, .slice A4_q35 o34.length c4_q35), (9, .slice none 0 0), (10, .int .i64 1), (11, .int .i64 0)]) (by kernel_rfl) ?_
            refine colophonref06_Open.l2_ok w0 A0 c0 l0 o34 A4_q35 c4_q35 o127 (fun o129 A2_q130 c2_q130 w131 ho132 hS => ?_) (fun o133 A9_q134 c9_q134 w135 ho136 hS => ?_) FU ([] : List (List Int)) 1 0 none 0 _ hS e128
            · subst ho132
              dsimp only at H
              refine At.blockRet ?_
              refine At.thenRet ?_
              obtain rfl := Option.some.inj H
              have hS : Sat w131 (rf w0) [orw 22 (Esl 5 (.int .u8)) 1 A2_q130 c2_q130 o129.1] := hS.sel [0] (by kernel_rfl)
              exact At.body [.slice A2_q130 o129.1.length c2_q130, .bool o129.2] (by kernel_rfl) ⟨_, rfl, _, _, rfl, hS⟩
            · subst ho136
              dsimp only at H
              refine At.hit ?_
              refine At.go ?_
              refine WC.seq (by kernel_rfl) ?_
              refine WC.reg [0, 1, 2, 3, 4, 5, 6] (by kernel_rfl) (by kernel_rfl) ?_
              refine WR.runk [0] [1, 2, 3, 4, 5, 6] [0, 9, 140] (L' := [(0, .slice A0 l0.length c0), (9, .slice A9_q134 o133.length c9_q134), (140, .slice A9_q134 o133.length c9_q134)]) (w' := w135) (by kernel_rfl) ?_
              obtain ⟨r137, e138, H⟩ := bind_ex H
              refine WR.st (St.call (by kernel_rfl) (f := 20) (args := #[.slice A9_q134 o133.length c9_q134]) (by kernel_rfl) (colophonref06_Build.calls w135 A9_q134 c9_q134 o133 (Sat.rdAnyS 0 hS rfl (fun _ h => orw.rdS (κ := (.slice 5 (.int .u8))) (Esl.rd (e := 5) (κ := (.int .u8))) h)) r137 e138) ?_)
              rintro _ w144 ⟨A146, c147, rfl, hS145⟩
              have hS : Sat w144 (rf w0) [osl 5 (r0 (.int .u8)) 1 A146 c147 r137.1, orw 22 (Esl 5 (.int .u8)) 1 A9_q134 c9_q134 o133] := hS.ext hS145
              refine WR.runk [2, 3, 4, 5, 6] [] [0, 9, 15, 16] (L' := [(0, .slice A0 l0.length c0), (9, .slice A9_q134 o133.length c9_q134), (15, .slice A146 r137.1.length c147), (16, .int .i64 r137.2)]) (w' := w144) (by kernel_rfl) ?_
              refine WR.nil ?_
              refine At.go ?_
              refine WC.seq (by kernel_rfl) ?_
              refine WC.seq (by kernel_rfl) ?_
              refine WC.reg [0, 1, 2, 3, 4, 5, 6, 7, 8] (by kernel_rfl) (by kernel_rfl) ?_
              refine WR.runk [0, 1, 2] [3, 4, 5, 6, 7, 8] [0, 9, 15, 146] (L' := [(0, .slice A0 l0.length c0), (9, .slice A9_q134 o133.length c9_q134), (15, .slice A146 r137.1.length c147), (146, .bool (r137.2 != 0))]) (w' := w144) (by kernel_rfl) ?_
              refine WR.split 146 (b := (r137.2 != 0)) (by kernel_rfl) (fun hb148 => ?_) (fun hb148 => ?_)
              · replace H := ite_t H hb148
                refine WR.runk [3, 4, 5, 6, 7, 8] [] [9, 152] (L' := [(9, .slice A9_q134 o133.length c9_q134), (152, .bool true)]) (w' := w144) (by kernel_rfl) ?_
                refine WR.nil ?_
                refine At.go ?_
                refine WC.condT (by kernel_rfl) (by kernel_rfl) (by kernel_rfl) ?_
                refine WC.seq (by kernel_rfl) ?_
                refine WC.reg [0, 1] (by kernel_rfl) (by kernel_rfl) ?_
                refine WR.runk [0, 1] [] [2, 3] (L' := [(2, .slice none 0 0), (3, .bool false)]) (w' := w144) (by kernel_rfl) ?_
                refine WR.nil ?_
                refine At.go ?_
                refine WC.ret (by kernel_rfl) ?_
                refine At.thenRet ?_
                obtain rfl := Option.some.inj H
                have hS := hS.addNilR (α := (List Int)) 22 (Esl 5 (.int .u8)) 1
                have hS : Sat w144 (rf w0) [orw 22 (Esl 5 (.int .u8)) 1 none 0 ([] : List (List Int))] := hS.sel [0] (by kernel_rfl)
                exact At.body [.slice none 0 0, .bool false] (by kernel_rfl) ⟨_, rfl, _, _, rfl, hS⟩
              · replace H := ite_f H hb148
                refine WR.runk [3] [4, 5, 6, 7, 8] [0, 9, 146, 147] (L' := [(0, .slice A0 l0.length c0), (9, .slice A9_q134 o133.length c9_q134), (146, .bool false), (147, .slice A146 r137.1.length c147)]) (w' := w144) (by kernel_rfl) ?_
                refine WR.st (St.ofR (RSt.toStr (src := 22) (dst := 9) (e := 5) (.tmp 147) (by kernel_rfl) (by kernel_rfl) (by kernel_rfl) (by kernel_rfl) (by kernel_rfl) (by kernel_rfl) (Sat.rdAt 0 hS rfl) ?_))
                refine WR.runk [5] [6, 7, 8] [9, 146, 148, 149] (L' := [(9, .slice A9_q134 o133.length c9_q134), (146, .bool false), (148, .string (bs r137.1)), (149, .slice A0 l0.length c0)]) (w' := w144) (by kernel_rfl) ?_
                refine WR.st (St.ofR (RSt.toStr (src := 22) (dst := 9) (e := 5) (.tmp 149) (by kernel_rfl) (by kernel_rfl) (by kernel_rfl) (by kernel_rfl) (by kernel_rfl) (by kernel_rfl) (rdS.up R0 hS.sub0) ?_))
                refine WR.runk [7, 8] [] [9, 152] (L' := [(9, .slice A9_q134 o133.length c9_q134), (152, .bool (!((bs r137.1).toList == (bs l0).toList)))]) (w' := w144) (by kernel_rfl) ?_
                refine WR.nil ?_
                refine At.go ?_
                refine WC.cond (by kernel_rfl) (!((bs r137.1).toList == (bs l0).toList)) (by kernel_rfl) (by kernel_rfl) (fun hb149 => ?_) (fun hb149 => ?_)
                · replace H := ite_t H hb149
                  refine WC.seq (by kernel_rfl) ?_
                  refine WC.reg [0, 1] (by kernel_rfl) (by kernel_rfl) ?_
                  refine WR.runk [0, 1] [] [2, 3] (L' := [(2, .slice none 0 0), (3, .bool false)]) (w' := w144) (by kernel_rfl) ?_
                  refine WR.nil ?_
                  refine At.go ?_
                  refine WC.ret (by kernel_rfl) ?_
                  refine At.thenRet ?_
                  obtain rfl := Option.some.inj H
                  have hS := hS.addNilR (α := (List Int)) 22 (Esl 5 (.int .u8)) 1
                  have hS : Sat w144 (rf w0) [orw 22 (Esl 5 (.int .u8)) 1 none 0 ([] : List (List Int))] := hS.sel [0] (by kernel_rfl)
                  exact At.body [.slice none 0 0, .bool false] (by kernel_rfl) ⟨_, rfl, _, _, rfl, hS⟩
                · replace H := ite_f H hb149
                  refine WC.skip (by kernel_rfl) ?_
                  refine At.go ?_
                  refine WC.seq (by kernel_rfl) ?_
                  refine WC.reg [0, 1, 2] (by kernel_rfl) (by kernel_rfl) ?_
                  refine WR.runk [0, 1, 2] [] [2, 3] (L' := [(2, .slice A9_q134 o133.length c9_q134), (3, .bool true)]) (w' := w144) (by kernel_rfl) ?_
                  refine WR.nil ?_
                  refine At.go ?_
                  refine WC.ret (by kernel_rfl) ?_
                  obtain rfl := Option.some.inj H
                  have hS : Sat w144 (rf w0) [orw 22 (Esl 5 (.int .u8)) 1 A9_q134 c9_q134 o133] := hS.sel [1] (by kernel_rfl)
                  exact At.body [.slice A9_q134 o133.length c9_q134, .bool true] (by kernel_rfl) ⟨_, rfl, _, _, rfl, hS⟩
/-! ### 13 colophon/colophonlaw06.read -/
def colophonlaw06_read.l1 (p0 : Option ((List (List Int)) × (List Int) × (List Int))) (r1 : Int) : Nat → (List (List Int)) → Int → Option (List (List Int))
  | 0, _, _ => none
  | k + 1, x3_l1, x7_l1 => (if decide (x7_l1 < r1) then ((image_Image_Section.f p0 x7_l1).bind fun r11 => ((app? 5864062014805 x3_l1 [r11]).bind fun y25 => colophonlaw06_read.l1 p0 r1 k y25 (wi (x7_l1 + 1)))) else some x3_l1)
def colophonlaw06_read.f (p0 : Option ((List (List Int)) × (List Int) × (List Int))) : Option (List (List Int)) := ((image_Image_Sections.f p0).bind fun r1 => ((colophonlaw06_read.l1 p0 r1 FU ([] : List (List Int)) 0).bind fun o34 => some o34))
def colophonlaw06_read.post (w : World) (r : (List (List Int))) (v : Value) (w' : World) : Prop := ∃ (A0' : Option Addr) (c0' : Nat), v = (.slice A0' r.length c0' : Value) ∧ Sat w' (rf w) [orw 22 (Esl 5 (.int .u8)) 1 A0' c0' r]
theorem colophonlaw06_read.l1_ok {Q} (w0 : World) (v0 : Value) (p0 : Option ((List (List Int)) × (List Int) × (List Int))) (r1 : Int) (R0 : rd (hp w0) (.ptr 52 (.pair (.slice 22 (.slice 5 (.int .u8))) (.pair (.slice 3 (.int .i64)) (.slice 3 (.int .i64))))) [v0] p0) (out : (List (List Int))) (hn0 : ∀ (A3_q : Option Addr) (c3_q : Nat) (w : World), Sat w (rf w0) [orw 22 (Esl 5 (.int .u8)) 1 A3_q c3_q out] → At Q (.exit 0) 18 [(3, .slice A3_q out.length c3_q)] w) :
    ∀ (k : Nat) (x3_l1 : List (List Int)) (x7_l1 : Int) (A3_l1 : Option Addr) (c3_l1 : Nat) (w : World), Sat w (rf w0) [orw 22 (Esl 5 (.int .u8)) 1 A3_l1 c3_l1 x3_l1] → colophonlaw06_read.l1 p0 r1 k x3_l1 x7_l1 = some out → WL Try.prog (cbody (cbody (cr (cl (cr (cr C13)))))) Q 18 [(0, v0), (3, .slice A3_l1 x3_l1.length c3_l1), (6, .int .i64 r1), (7, .int .i64 x7_l1)] w := by
  intro k
  induction k with
  | zero => intro x3_l1 x7_l1 A3_l1 c3_l1 w hS H; exact absurd (show none = some out from H) (by simp)
  | succ k ih =>
    intro x3_l1 x7_l1 A3_l1 c3_l1 w hS H
    unfold colophonlaw06_read.l1 at H
    refine WL.round ?_
    refine WC.seq (by kernel_rfl) ?_
    refine WC.reg [0] (by kernel_rfl) (by kernel_rfl) ?_
    refine WR.runk [0] [] [0, 3, 6, 7, 8] (L' := [(0, v0), (3, .slice A3_l1 x3_l1.length c3_l1), (6, .int .i64 r1), (7, .int .i64 x7_l1), (8, .bool (decide (x7_l1 < r1)))]) (w' := w) (by kernel_rfl) ?_
    refine WR.nil ?_
    refine At.go ?_
    refine WC.seq (by kernel_rfl) ?_
    refine WC.cond (by kernel_rfl) (decide (x7_l1 < r1)) (by kernel_rfl) (by kernel_rfl) (fun hb10 => ?_) (fun hb10 => ?_)
    · replace H := ite_t H hb10
      refine WC.skip (by kernel_rfl) ?_
      refine At.go ?_
      refine WC.seq (by kernel_rfl) ?_
      refine WC.block (by kernel_rfl) ?_
      refine WC.seq (by kernel_rfl) ?_
      refine WC.reg [0, 1] (by kernel_rfl) (by kernel_rfl) ?_
      refine WR.runk [0, 1] [] [0, 3, 4, 6, 7] (L' := [(0, v0), (3, .slice A3_l1 x3_l1.length c3_l1), (4, .int .i64 x7_l1), (6, .int .i64 r1), (7, .int .i64 x7_l1)]) (w' := w) (by kernel_rfl) ?_
      refine WR.nil ?_
      refine At.go ?_
      refine WC.reg [0, 1, 2, 3, 4, 5, 6] (by kernel_rfl) (by kernel_rfl) ?_
      refine WR.runk [0, 1, 2] [3, 4, 5, 6] [0, 3, 6, 7, 10, 11, 12] (L' := [(0, v0), (3, .slice A3_l1 x3_l1.length c3_l1), (6, .int .i64 r1), (7, .int .i64 x7_l1), (10, .slice A3_l1 x3_l1.length c3_l1), (11, v0), (12, .int .i64 x7_l1)]) (w' := w) (by kernel_rfl) ?_
      obtain ⟨r11, e12, H⟩ := bind_ex H
      refine WR.st (St.call (by kernel_rfl) (f := 22) (args := #[v0, .int .i64 x7_l1]) (by kernel_rfl) (image_Image_Section.calls w (v0) p0 (rd.mono hS.sub0 _ _ _ R0) x7_l1 r11 e12) ?_)
      rintro _ w18 ⟨A20, c21, rfl, hS19⟩
      have hS : Sat w18 (rf w0) [osl 5 (r0 (.int .u8)) 1 A20 c21 r11, orw 22 (Esl 5 (.int .u8)) 1 A3_l1 c3_l1 x3_l1] := hS.ext hS19
      refine WR.runk [] [4, 5, 6] [0, 3, 6, 7, 10, 13] (L' := [(0, v0), (3, .slice A3_l1 x3_l1.length c3_l1), (6, .int .i64 r1), (7, .int .i64 x7_l1), (10, .slice A3_l1 x3_l1.length c3_l1), (13, .slice A20 r11.length c21)]) (w' := w18) (by kernel_rfl) ?_
      refine WR.st (St.box hS (by kernel_rfl) (.cells #[.slice A20 r11.length c21] 22) (fun b22 => .slice (some ⟨b22, 0, none⟩) 1 1) (fun _ => by kernel_rfl) (fun b22 w23 hS => ?_))
      refine WR.runk [] [5, 6] [0, 3, 6, 7, 10, 14] (L' := [(0, v0), (3, .slice A3_l1 x3_l1.length c3_l1), (6, .int .i64 r1), (7, .int .i64 x7_l1), (10, .slice A3_l1 x3_l1.length c3_l1), (14, .slice (some ⟨b22, 0, none⟩) 1 1)]) (w' := w23) (by kernel_rfl) ?_
      have hS : Sat w23 (rf w0) [orw 22 (Esl 5 (.int .u8)) 1 A3_l1 c3_l1 x3_l1, pts b22 (.cells #[.slice A20 r11.length c21] 22 (0, 0)), osl 5 (r0 (.int .u8)) 1 A20 c21 r11] := hS.sel [2, 0, 1] (by kernel_rfl)
      have hS : Sat w23 (rf w0) [osl 5 (r0 (.int .u8)) 1 A20 c21 r11, orw 22 (Esl 5 (.int .u8)) 1 A3_l1 c3_l1 x3_l1, pts b22 (.cells #[.slice A20 r11.length c21] 22 (0, 0))] := hS.sel [2, 0, 1] (by kernel_rfl)
      have hS : Sat w23 (rf w0) [orw 22 (Esl 5 (.int .u8)) 1 A3_l1 c3_l1 x3_l1, osl 5 (r0 (.int .u8)) 1 A20 c21 r11, pts b22 (.cells #[.slice A20 r11.length c21] 22 (0, 0))] := hS.sel [1, 0, 2] (by kernel_rfl)
      obtain ⟨y25, e24, H⟩ := bind_ex H
      refine WR.st (St.appendOwn (.tmp 10) (.tmp 14) (by kernel_rfl) (by kernel_rfl) E29 (fun H h => Esl.mk H h) hS 0 rfl (by kernel_rfl) (by kernel_rfl) (by kernel_rfl) (by kernel_rfl) 5864062014805 (by kernel_rfl) (by kernel_rfl) e24 (fun A26 c27 w28 K29 hS hK30 hM31 => ?_))
      have R32 : rdS (rd K29 (.slice 5 (.int .u8))) 1 K29 A26 c27 y25 := orw.rdS (κ := (.slice 5 (.int .u8))) (Esl.rd (e := 5) (κ := (.int .u8))) hK30
      have R33 : rdS (r0 (.int .u8)) 1 K29 A20 c21 r11 := by obtain ⟨M, hM, hm⟩ := hM31; exact (osl.read hm).mono hM (fun _ _ h => h)
      refine WR.runk [6] [] [0, 3, 6, 7] (L' := [(0, v0), (3, .slice A26 y25.length c27), (6, .int .i64 r1), (7, .int .i64 x7_l1)]) (w' := w28) (by kernel_rfl) ?_
      refine WR.nil ?_
      refine At.blockNormal ?_
      refine At.go ?_
      refine WC.reg [0, 1] (by kernel_rfl) (by kernel_rfl) ?_
      refine WR.runk [0, 1] [] [0, 3, 6, 7] (L' := [(0, v0), (3, .slice A26 y25.length c27), (6, .int .i64 r1), (7, .int .i64 (wi (x7_l1 + 1)))]) (w' := w28) (by kernel_rfl) ?_
      refine WR.nil ?_
      have hS : Sat w28 (rf w0) [orw 22 (Esl 5 (.int .u8)) 1 A26 c27 y25, pts b22 (.cells #[.slice A20 r11.length c21] 22 (0, 0))] := Sat.ungh hK30 hS
      have hS : Sat w28 (rf w0) [orw 22 (Esl 5 (.int .u8)) 1 A26 c27 y25] := hS.sel [0] (by kernel_rfl)
      refine At.again ?_
      refine WL.weaken [0, 3, 6, 7] (L' := [(0, v0), (3, .slice A26 y25.length c27), (6, .int .i64 r1), (7, .int .i64 (wi (x7_l1 + 1)))]) (by kernel_rfl) ?_
      exact ih y25 (wi (x7_l1 + 1)) A26 c27 _ hS H
    · replace H := ite_f H hb10
      refine WC.exit (by kernel_rfl) ?_
      refine At.thenExit ?_
      refine At.thenExit ?_
      obtain rfl := Option.some.inj H
      have hS : Sat w (rf w0) [orw 22 (Esl 5 (.int .u8)) 1 A3_l1 c3_l1 x3_l1] := hS.sel [0] (by kernel_rfl)
      refine At.weaken [3] (L' := [(3, .slice A3_l1 x3_l1.length c3_l1)]) (by kernel_rfl) ?_
      exact hn0 A3_l1 c3_l1 _ hS
theorem colophonlaw06_read.calls (w0 : World) (v0 : Value) (p0 : Option ((List (List Int)) × (List Int) × (List Int))) (R0 : rd (hp w0) (.ptr 52 (.pair (.slice 22 (.slice 5 (.int .u8))) (.pair (.slice 3 (.int .i64)) (.slice 3 (.int .i64))))) [v0] p0) (r : (List (List Int))) (H : colophonlaw06_read.f p0 = some r) :
    Calls Try.prog 13 #[v0] w0 (fun e w' => ∃ v, e = .returned v ∧ colophonlaw06_read.post w0 r v w') := by
  have hS : Sat w0 (rf w0) [] := Sat.start w0
  unfold colophonlaw06_read.f at H
  refine calls_of_WC (vs := [v0]) Try.func13 (c := C13) (n := 18) (by kernel_rfl) (by kernel_rfl) (by kernel_rfl) ?_
  refine WC.seq (by kernel_rfl) ?_
  refine WC.reg [0] (by kernel_rfl) (by kernel_rfl) ?_
  refine WR.runk [0] [] [0] (L' := [(0, v0)]) (w' := w0) (by kernel_rfl) ?_
  refine WR.nil ?_
  refine At.go ?_
  refine WC.seq (by kernel_rfl) ?_
  refine WC.reg [0] (by kernel_rfl) (by kernel_rfl) ?_
  refine WR.runk [0] [] [0, 3] (L' := [(0, v0), (3, .slice none 0 0)]) (w' := w0) (by kernel_rfl) ?_
  refine WR.nil ?_
  refine At.go ?_
  refine WC.seq (by kernel_rfl) ?_
  refine WC.seq (by kernel_rfl) ?_
  refine WC.reg [0, 1, 2] (by kernel_rfl) (by kernel_rfl) ?_
  refine WR.runk [0] [1, 2] [0, 3, 5] (L' := [(0, v0), (3, .slice none 0 0), (5, v0)]) (w' := w0) (by kernel_rfl) ?_
  obtain ⟨r1, e2, H⟩ := bind_ex H
  refine WR.st (St.call (by kernel_rfl) (f := 16) (args := #[v0]) (by kernel_rfl) (image_Image_Sections.calls w0 (v0) p0 (rd.mono hS.sub0 _ _ _ R0) r1 e2) ?_)
  rintro _ w8 ⟨rfl, hS9⟩
  have hS : Sat w8 (rf w0) [] := hS.ext hS9
  refine WR.runk [2] [] [0, 3, 6, 7] (L' := [(0, v0), (3, .slice none 0 0), (6, .int .i64 r1), (7, .int .i64 0)]) (w' := w8) (by kernel_rfl) ?_
  refine WR.nil ?_
  refine At.go ?_
  refine WC.block (by kernel_rfl) ?_
  have hS := hS.addNilR (α := (List Int)) 22 (Esl 5 (.int .u8)) 1
  have hS : Sat w8 (rf w0) [orw 22 (Esl 5 (.int .u8)) 1 none 0 ([] : List (List Int))] := hS.sel [0] (by kernel_rfl)
  obtain ⟨o34, e35, H⟩ := bind_ex H
  refine WC.loop (by kernel_rfl) ?_
  refine WL.weaken [0, 3, 6, 7] (L' := [(0, v0), (3, .slice none 0 0), (6, .int .i64 r1), (7, .int .i64 0)]) (by kernel_rfl) ?_
  refine colophonlaw06_read.l1_ok w0 v0 p0 r1 R0 o34 (fun A3_q36 c3_q36 w37 hS => ?_) FU ([] : List (List Int)) 0 none 0 _ hS e35
  refine At.hit ?_
  refine At.go ?_
  refine WC.seq (by kernel_rfl) ?_
  refine WC.reg [0, 1] (by kernel_rfl) (by kernel_rfl) ?_
  refine WR.runk [0, 1] [] [2] (L' := [(2, .slice A3_q36 o34.length c3_q36)]) (w' := w37) (by kernel_rfl) ?_
  refine WR.nil ?_
  refine At.go ?_
  refine WC.ret (by kernel_rfl) ?_
  obtain rfl := Option.some.inj H
  have hS : Sat w37 (rf w0) [orw 22 (Esl 5 (.int .u8)) 1 A3_q36 c3_q36 o34] := hS.sel [0] (by kernel_rfl)
  exact At.body [.slice A3_q36 o34.length c3_q36] (by kernel_rfl) ⟨_, rfl, _, _, rfl, hS⟩
/-! ### 12 colophon/colophonref06.Same -/
def colophonref06_Same.l1 (l0 : List (List Int)) (l1 : List (List Int)) : Nat → Int → Option (Sum Bool Unit)
  | 0, _ => none
  | k + 1, x13_l1 => (if decide (x13_l1 < (l0.length : Int)) then ((at? l0 x13_l1).bind fun v5 => ((at? l1 x13_l1).bind fun v10 => (if (!((bs v5).toList == (bs v10).toList)) then some (.inl false) else colophonref06_Same.l1 l0 l1 k (wi (x13_l1 + 1))))) else some (.inr ()))
def colophonref06_Same.f (l0 : List (List Int)) (l1 : List (List Int)) : Option Bool := (if ((l0.length : Int) != (l1.length : Int)) then some false else ((colophonref06_Same.l1 l0 l1 FU 0).bind fun o16 => (match o16 with | .inl o18 => some o18 | .inr o22 => some true)))
def colophonref06_Same.post (w : World) (r : Bool) (v : Value) (w' : World) : Prop := v = (.bool r : Value) ∧ Sat w' (rf w) []
theorem colophonref06_Same.l1_ok {Q} (w0 : World) (A0 : Option Addr) (c0 : Nat) (l0 : List (List Int)) (A1 : Option Addr) (c1 : Nat) (l1 : List (List Int)) (R0 : rdS (rd (hp w0) (.slice 5 (.int .u8))) 1 (hp w0) A0 c0 l0) (R1 : rdS (rd (hp w0) (.slice 5 (.int .u8))) 1 (hp w0) A1 c1 l1) (out : Sum Bool Unit) (hn0 : ∀ (o0 : Bool) (w : World), out = (.inl o0) → Sat w (rf w0) [] → At Q .ret 28 [(4, .bool o0)] w) (hn1 : ∀ (o1 : Unit) (w : World), out = (.inr o1) → Sat w (rf w0) [] → At Q (.exit 0) 28 [] w) :
    ∀ (k : Nat) (x13_l1 : Int) (w : World), Sat w (rf w0) [] → colophonref06_Same.l1 l0 l1 k x13_l1 = some out → WL Try.prog (cbody (cbody (cr (cl (cr (cr C12)))))) Q 28 [(0, .slice A0 l0.length c0), (1, .slice A1 l1.length c1), (12, .int .i64 (l0.length : Int)), (13, .int .i64 x13_l1)] w := by
  intro k
  induction k with
  | zero => intro x13_l1 w hS H; exact absurd (show none = some out from H) (by simp)
  | succ k ih =>
    intro x13_l1 w hS H
    unfold colophonref06_Same.l1 at H
    refine WL.round ?_
    refine WC.seq (by kernel_rfl) ?_
    refine WC.reg [0] (by kernel_rfl) (by kernel_rfl) ?_
    refine WR.runk [0] [] [0, 1, 12, 13, 14] (L' := [(0, .slice A0 l0.length c0), (1, .slice A1 l1.length c1), (12, .int .i64 (l0.length : Int)), (13, .int .i64 x13_l1), (14, .bool (decide (x13_l1 < (l0.length : Int))))]) (w' := w) (by kernel_rfl) ?_
    refine WR.nil ?_
    refine At.go ?_
    refine WC.seq (by kernel_rfl) ?_
    refine WC.cond (by kernel_rfl) (decide (x13_l1 < (l0.length : Int))) (by kernel_rfl) (by kernel_rfl) (fun hb2 => ?_) (fun hb2 => ?_)
    · replace H := ite_t H hb2
      refine WC.skip (by kernel_rfl) ?_
      refine At.go ?_
      refine WC.seq (by kernel_rfl) ?_
      refine WC.block (by kernel_rfl) ?_
      refine WC.seq (by kernel_rfl) ?_
      refine WC.reg [0, 1] (by kernel_rfl) (by kernel_rfl) ?_
      refine WR.runk [0, 1] [] [0, 1, 5, 12, 13] (L' := [(0, .slice A0 l0.length c0), (1, .slice A1 l1.length c1), (5, .int .i64 x13_l1), (12, .int .i64 (l0.length : Int)), (13, .int .i64 x13_l1)]) (w' := w) (by kernel_rfl) ?_
      refine WR.nil ?_
      refine At.go ?_
      refine WC.seq (by kernel_rfl) ?_
      refine WC.drawn (by kernel_rfl) (by kernel_rfl) 11 (by kernel_rfl) (fun w3 hw4 => ?_)
      have hS := hS.heap hw4.1 hw4.2
      refine WD.weaken [0, 1, 5, 12, 13] (L' := [(0, .slice A0 l0.length c0), (1, .slice A1 l1.length c1), (5, .int .i64 x13_l1), (12, .int .i64 (l0.length : Int)), (13, .int .i64 x13_l1)]) (by kernel_rfl) ?_
      refine WD.pure (i := 0) (v := .slice A0 l0.length c0) (by kernel_rfl) (by kernel_rfl) (fun _ => by kernel_rfl) ?_
      refine WD.weaken [0, 1, 5, 12, 13, 16] (L' := [(0, .slice A0 l0.length c0), (1, .slice A1 l1.length c1), (5, .int .i64 x13_l1), (12, .int .i64 (l0.length : Int)), (13, .int .i64 x13_l1), (16, .slice A0 l0.length c0)]) (by kernel_rfl) ?_
      refine WD.pure (i := 1) (v := .int .i64 x13_l1) (by kernel_rfl) (by kernel_rfl) (fun _ => by kernel_rfl) ?_
      refine WD.weaken [0, 1, 5, 12, 13, 16, 17] (L' := [(0, .slice A0 l0.length c0), (1, .slice A1 l1.length c1), (5, .int .i64 x13_l1), (12, .int .i64 (l0.length : Int)), (13, .int .i64 x13_l1), (16, .slice A0 l0.length c0), (17, .int .i64 x13_l1)]) (by kernel_rfl) ?_
      obtain ⟨v5, e6, H⟩ := bind_ex H
      refine WD.ofP (i := 2) (by kernel_rfl) (PSt.idx (k := .i64) (.tmp 16) (.tmp 17) (by kernel_rfl) (by kernel_rfl) E29 (by kernel_rfl) (by kernel_rfl) (rdS.up R0 hS.sub0) e6 ?_)
      refine WD.weaken [0, 1, 5, 12, 13, 18] (L' := [(0, .slice A0 l0.length c0), (1, .slice A1 l1.length c1), (5, .int .i64 x13_l1), (12, .int .i64 (l0.length : Int)), (13, .int .i64 x13_l1), (18, .pointer (some (adr A0 x13_l1.toNat 1)))]) (by kernel_rfl) ?_
      refine WD.ofR (i := 3) (by kernel_rfl) (RSt.loadSl (t := 22) (.tmp 18) (by kernel_rfl) (by kernel_rfl) (by kernel_rfl) (by kernel_rfl) R0 e6 hS.sub0 (fun A7 c8 R9 => ?_))
      replace R9 : rdS (r0 (.int .u8)) 1 (hp w0) A7 c8 v5 := R9
      refine WD.weaken [0, 1, 5, 12, 13, 19] (L' := [(0, .slice A0 l0.length c0), (1, .slice A1 l1.length c1), (5, .int .i64 x13_l1), (12, .int .i64 (l0.length : Int)), (13, .int .i64 x13_l1), (19, .slice A7 v5.length c8)]) (by kernel_rfl) ?_
      refine WD.ofR (i := 4) (by kernel_rfl) (RSt.toStr (src := 22) (dst := 9) (e := 5) (.tmp 19) (by kernel_rfl) (by kernel_rfl) (by kernel_rfl) (by kernel_rfl) (by kernel_rfl) (by kernel_rfl) (rdS.up R9 hS.sub0) ?_)
      refine WD.weaken [0, 1, 5, 12, 13, 20] (L' := [(0, .slice A0 l0.length c0), (1, .slice A1 l1.length c1), (5, .int .i64 x13_l1), (12, .int .i64 (l0.length : Int)), (13, .int .i64 x13_l1), (20, .string (bs v5))]) (by kernel_rfl) ?_
      refine WD.pure (i := 5) (v := .slice A1 l1.length c1) (by kernel_rfl) (by kernel_rfl) (fun _ => by kernel_rfl) ?_
      refine WD.weaken [0, 1, 5, 12, 13, 20, 21] (L' := [(0, .slice A0 l0.length c0), (1, .slice A1 l1.length c1), (5, .int .i64 x13_l1), (12, .int .i64 (l0.length : Int)), (13, .int .i64 x13_l1), (20, .string (bs v5)), (21, .slice A1 l1.length c1)]) (by kernel_rfl) ?_
      refine WD.pure (i := 6) (v := .int .i64 x13_l1) (by kernel_rfl) (by kernel_rfl) (fun _ => by kernel_rfl) ?_
      refine WD.weaken [0, 1, 12, 13, 20, 21, 22] (L' := [(0, .slice A0 l0.length c0), (1, .slice A1 l1.length c1), (12, .int .i64 (l0.length : Int)), (13, .int .i64 x13_l1), (20, .string (bs v5)), (21, .slice A1 l1.length c1), (22, .int .i64 x13_l1)]) (by kernel_rfl) ?_
      obtain ⟨v10, e11, H⟩ := bind_ex H
      refine WD.ofP (i := 7) (by kernel_rfl) (PSt.idx (k := .i64) (.tmp 21) (.tmp 22) (by kernel_rfl) (by kernel_rfl) E29 (by kernel_rfl) (by kernel_rfl) (rdS.up R1 hS.sub0) e11 ?_)
      refine WD.weaken [0, 1, 12, 13, 20, 23] (L' := [(0, .slice A0 l0.length c0), (1, .slice A1 l1.length c1), (12, .int .i64 (l0.length : Int)), (13, .int .i64 x13_l1), (20, .string (bs v5)), (23, .pointer (some (adr A1 x13_l1.toNat 1)))]) (by kernel_rfl) ?_
      refine WD.ofR (i := 8) (by kernel_rfl) (RSt.loadSl (t := 22) (.tmp 23) (by kernel_rfl) (by kernel_rfl) (by kernel_rfl) (by kernel_rfl) R1 e11 hS.sub0 (fun A12 c13 R14 => ?_))
      replace R14 : rdS (r0 (.int .u8)) 1 (hp w0) A12 c13 v10 := R14
      refine WD.weaken [0, 1, 12, 13, 20, 24] (L' := [(0, .slice A0 l0.length c0), (1, .slice A1 l1.length c1), (12, .int .i64 (l0.length : Int)), (13, .int .i64 x13_l1), (20, .string (bs v5)), (24, .slice A12 v10.length c13)]) (by kernel_rfl) ?_
      refine WD.ofR (i := 9) (by kernel_rfl) (RSt.toStr (src := 22) (dst := 9) (e := 5) (.tmp 24) (by kernel_rfl) (by kernel_rfl) (by kernel_rfl) (by kernel_rfl) (by kernel_rfl) (by kernel_rfl) (rdS.up R14 hS.sub0) ?_)
      refine WD.weaken [0, 1, 12, 13, 20, 25] (L' := [(0, .slice A0 l0.length c0), (1, .slice A1 l1.length c1), (12, .int .i64 (l0.length : Int)), (13, .int .i64 x13_l1), (20, .string (bs v5)), (25, .string (bs v10))]) (by kernel_rfl) ?_
      refine WD.pure (i := 10) (v := .bool (!((bs v5).toList == (bs v10).toList))) (by kernel_rfl) (by kernel_rfl) (fun _ => by kernel_rfl) ?_
      refine WD.weaken [0, 1, 12, 13, 26] (L' := [(0, .slice A0 l0.length c0), (1, .slice A1 l1.length c1), (12, .int .i64 (l0.length : Int)), (13, .int .i64 x13_l1), (26, .bool (!((bs v5).toList == (bs v10).toList)))]) (by kernel_rfl) ?_
      refine WD.nil (by kernel_rfl) ?_
      refine At.go ?_
      refine WC.cond (by kernel_rfl) (!((bs v5).toList == (bs v10).toList)) (by kernel_rfl) (by kernel_rfl) (fun hb15 => ?_) (fun hb15 => ?_)
      · replace H := ite_t H hb15
        refine WC.seq (by kernel_rfl) ?_
        refine WC.reg [0] (by kernel_rfl) (by kernel_rfl) ?_
        refine WR.runk [0] [] [4] (L' := [(4, .bool false)]) (w' := w3) (by kernel_rfl) ?_
        refine WR.nil ?_
        refine At.go ?_
        refine WC.ret (by kernel_rfl) ?_
        refine At.blockRet ?_
        refine At.thenRet ?_
        refine At.thenRet ?_
        obtain rfl := Option.some.inj H
        have hS : Sat w3 (rf w0) [] := hS.sel [] (by kernel_rfl)
        refine At.weaken [4] (L' := [(4, .bool false)]) (by kernel_rfl) ?_
        exact hn0 false _ rfl hS
      · replace H := ite_f H hb15
        refine WC.skip (by kernel_rfl) ?_
        refine At.blockNormal ?_
        refine At.go ?_
        refine WC.reg [0, 1] (by kernel_rfl) (by kernel_rfl) ?_
        refine WR.runk [0, 1] [] [0, 1, 12, 13] (L' := [(0, .slice A0 l0.length c0), (1, .slice A1 l1.length c1), (12, .int .i64 (l0.length : Int)), (13, .int .i64 (wi (x13_l1 + 1)))]) (w' := w3) (by kernel_rfl) ?_
        refine WR.nil ?_
        have hS : Sat w3 (rf w0) [] := hS.sel [] (by kernel_rfl)
        refine At.again ?_
        refine WL.weaken [0, 1, 12, 13] (L' := [(0, .slice A0 l0.length c0), (1, .slice A1 l1.length c1), (12, .int .i64 (l0.length : Int)), (13, .int .i64 (wi (x13_l1 + 1)))]) (by kernel_rfl) ?_
        exact ih (wi (x13_l1 + 1)) _ hS H
    · replace H := ite_f H hb2
      refine WC.exit (by kernel_rfl) ?_
      refine At.thenExit ?_
      refine At.thenExit ?_
      obtain rfl := Option.some.inj H
      have hS : Sat w (rf w0) [] := hS.sel [] (by kernel_rfl)
      refine At.weaken [] (L' := []) (by kernel_rfl) ?_
      exact hn1 () _ rfl hS
theorem colophonref06_Same.calls (w0 : World) (A0 : Option Addr) (c0 : Nat) (l0 : List (List Int)) (R0 : rdS (rd (hp w0) (.slice 5 (.int .u8))) 1 (hp w0) A0 c0 l0) (A1 : Option Addr) (c1 : Nat) (l1 : List (List Int)) (R1 : rdS (rd (hp w0) (.slice 5 (.int .u8))) 1 (hp w0) A1 c1 l1) (r : Bool) (H : colophonref06_Same.f l0 l1 = some r) :
    Calls Try.prog 12 #[.slice A0 l0.length c0, .slice A1 l1.length c1] w0 (fun e w' => ∃ v, e = .returned v ∧ colophonref06_Same.post w0 r v w') := by
  have hS : Sat w0 (rf w0) [] := Sat.start w0
  unfold colophonref06_Same.f at H
  refine calls_of_WC (vs := [.slice A0 l0.length c0, .slice A1 l1.length c1]) Try.func12 (c := C12) (n := 28) (by kernel_rfl) (by kernel_rfl) (by kernel_rfl) ?_
  refine WC.seq (by kernel_rfl) ?_
  refine WC.reg [0] (by kernel_rfl) (by kernel_rfl) ?_
  refine WR.runk [0] [] [0, 1] (L' := [(0, .slice A0 l0.length c0), (1, .slice A1 l1.length c1)]) (w' := w0) (by kernel_rfl) ?_
  refine WR.nil ?_
  refine At.go ?_
  refine WC.seq (by kernel_rfl) ?_
  refine WC.seq (by kernel_rfl) ?_
  refine WC.reg [0, 1, 2, 3, 4] (by kernel_rfl) (by kernel_rfl) ?_
  refine WR.runk [0, 1, 2, 3, 4] [] [0, 1, 10] (L' := [(0, .slice A0 l0.length c0), (1, .slice A1 l1.length c1), (10, .bool ((l0.length : Int) != (l1.length : Int)))]) (w' := w0) (by kernel_rfl) ?_
  refine WR.nil ?_
  refine At.go ?_
  refine WC.cond (by kernel_rfl) ((l0.length : Int) != (l1.length : Int)) (by kernel_rfl) (by kernel_rfl) (fun hb1 => ?_) (fun hb1 => ?_)
  · replace H := ite_t H hb1
    refine WC.seq (by kernel_rfl) ?_
    refine WC.reg [0] (by kernel_rfl) (by kernel_rfl) ?_
    refine WR.runk [0] [] [4] (L' := [(4, .bool false)]) (w' := w0) (by kernel_rfl) ?_
    refine WR.nil ?_
    refine At.go ?_
    refine WC.ret (by kernel_rfl) ?_
    refine At.thenRet ?_
    obtain rfl := Option.some.inj H
    have hS : Sat w0 (rf w0) [] := hS.sel [] (by kernel_rfl)
    exact At.body [.bool false] (by kernel_rfl) ⟨_, rfl, rfl, hS⟩
  · replace H := ite_f H hb1
    refine WC.skip (by kernel_rfl) ?_
    refine At.go ?_
    refine WC.seq (by kernel_rfl) ?_
    refine WC.seq (by kernel_rfl) ?_
    refine WC.reg [0, 1, 2] (by kernel_rfl) (by kernel_rfl) ?_
    refine WR.runk [0, 1, 2] [] [0, 1, 12, 13] (L' := [(0, .slice A0 l0.length c0), (1, .slice A1 l1.length c1), (12, .int .i64 (l0.length : Int)), (13, .int .i64 0)]) (w' := w0) (by kernel_rfl) ?_
    refine WR.nil ?_
    refine At.go ?_
    refine WC.block (by kernel_rfl) ?_
    have hS : Sat w0 (rf w0) [] := hS.sel [] (by kernel_rfl)
    obtain ⟨o16, e17, H⟩ := bind_ex H
    refine WC.loop (by kernel_rfl) ?_
    refine WL.weaken [0, 1, 12, 13] (L' := [(0, .slice A0 l0.length c0), (1, .slice A1 l1.length c1), (12, .int .i64 (l0.length : Int)), (13, .int .i64 0)]) (by kernel_rfl) ?_
    refine colophonref06_Same.l1_ok w0 A0 c0 l0 A1 c1 l1 R0 R1 o16 (fun o18 w20 ho21 hS => ?_) (fun o22 w24 ho25 hS => ?_) FU 0 _ hS e17
    · subst ho21
      dsimp only at H
      refine At.blockRet ?_
      refine At.thenRet ?_
      obtain rfl := Option.some.inj H
      have hS : Sat w20 (rf w0) [] := hS.sel [] (by kernel_rfl)
      exact At.body [.bool o18] (by kernel_rfl) ⟨_, rfl, rfl, hS⟩
    · subst ho25
      dsimp only at H
      refine At.hit ?_
      refine At.go ?_
      refine WC.seq (by kernel_rfl) ?_
      refine WC.reg [0] (by kernel_rfl) (by kernel_rfl) ?_
      refine WR.runk [0] [] [4] (L' := [(4, .bool true)]) (w' := w24) (by kernel_rfl) ?_
      refine WR.nil ?_
      refine At.go ?_
      refine WC.ret (by kernel_rfl) ?_
      obtain rfl := Option.some.inj H
      have hS : Sat w24 (rf w0) [] := hS.sel [] (by kernel_rfl)
      exact At.body [.bool true] (by kernel_rfl) ⟨_, rfl, rfl, hS⟩
/-! ### 14 colophon/colophonref06.Size -/
def colophonref06_Size.l1 (l0 : List (List Int)) : Nat → Int → Int → Option (Sum Int Int)
  | 0, _, _ => none
  | k + 1, x3_l1, x8_l1 => (if decide (x8_l1 < (l0.length : Int)) then ((at? l0 x8_l1).bind fun v2 => (if decide (x3_l1 > 2000000) then some (.inl 2000001) else (if decide ((v2.length : Int) > 2000000) then some (.inl 2000001) else colophonref06_Size.l1 l0 k (wi (x3_l1 + (wi ((v2.length : Int) + 1)))) (wi (x8_l1 + 1))))) else some (.inr x3_l1))
def colophonref06_Size.f (l0 : List (List Int)) : Option Int := ((colophonref06_Size.l1 l0 FU 0 0).bind fun o9 => (match o9 with | .inl o11 => some o11 | .inr o15 => some o15))
def colophonref06_Size.post (w : World) (r : Int) (v : Value) (w' : World) : Prop := v = (.int .i64 r : Value) ∧ Sat w' (rf w) []
theorem colophonref06_Size.l1_ok {Q} (w0 : World) (A0 : Option Addr) (c0 : Nat) (l0 : List (List Int)) (R0 : rdS (rd (hp w0) (.slice 5 (.int .u8))) 1 (hp w0) A0 c0 l0) (out : Sum Int Int) (hn0 : ∀ (o0 : Int) (w : World), out = (.inl o0) → Sat w (rf w0) [] → At Q .ret 26 [(2, .int .i64 o0)] w) (hn1 : ∀ (o1 : Int) (w : World), out = (.inr o1) → Sat w (rf w0) [] → At Q (.exit 0) 26 [(3, .int .i64 o1)] w) :
    ∀ (k : Nat) (x3_l1 : Int) (x8_l1 : Int) (w : World), Sat w (rf w0) [] → colophonref06_Size.l1 l0 k x3_l1 x8_l1 = some out → WL Try.prog (cbody (cbody (cr (cl (cr (cr C14)))))) Q 26 [(3, .int .i64 x3_l1), (6, .slice A0 l0.length c0), (7, .int .i64 (l0.length : Int)), (8, .int .i64 x8_l1)] w := by
  intro k
  induction k with
  | zero => intro x3_l1 x8_l1 w hS H; exact absurd (show none = some out from H) (by simp)
  | succ k ih =>
    intro x3_l1 x8_l1 w hS H
    unfold colophonref06_Size.l1 at H
    refine WL.round ?_
    refine WC.seq (by kernel_rfl) ?_
    refine WC.reg [0] (by kernel_rfl) (by kernel_rfl) ?_
    refine WR.runk [0] [] [3, 6, 7, 8, 9] (L' := [(3, .int .i64 x3_l1), (6, .slice A0 l0.length c0), (7, .int .i64 (l0.length : Int)), (8, .int .i64 x8_l1), (9, .bool (decide (x8_l1 < (l0.length : Int))))]) (w' := w) (by kernel_rfl) ?_
    refine WR.nil ?_
    refine At.go ?_
    refine WC.seq (by kernel_rfl) ?_
    refine WC.cond (by kernel_rfl) (decide (x8_l1 < (l0.length : Int))) (by kernel_rfl) (by kernel_rfl) (fun hb1 => ?_) (fun hb1 => ?_)
    · replace H := ite_t H hb1
      refine WC.skip (by kernel_rfl) ?_
      refine At.go ?_
      refine WC.seq (by kernel_rfl) ?_
      refine WC.block (by kernel_rfl) ?_
      refine WC.seq (by kernel_rfl) ?_
      refine WC.reg [0, 1, 2] (by kernel_rfl) (by kernel_rfl) ?_
      refine WR.runk [] [0, 1, 2] [3, 6, 7, 8] (L' := [(3, .int .i64 x3_l1), (6, .slice A0 l0.length c0), (7, .int .i64 (l0.length : Int)), (8, .int .i64 x8_l1)]) (w' := w) (by kernel_rfl) ?_
      obtain ⟨v2, e3, H⟩ := bind_ex H
      refine WR.st (St.ofP (PSt.idx (k := .i64) (.tmp 6) (.tmp 8) (by kernel_rfl) (by kernel_rfl) E29 (by kernel_rfl) (by kernel_rfl) (rdS.up R0 hS.sub0) e3 ?_))
      refine WR.runk [] [1, 2] [3, 6, 7, 8, 10] (L' := [(3, .int .i64 x3_l1), (6, .slice A0 l0.length c0), (7, .int .i64 (l0.length : Int)), (8, .int .i64 x8_l1), (10, .pointer (some (adr A0 x8_l1.toNat 1)))]) (w' := w) (by kernel_rfl) ?_
      refine WR.st (St.ofR (RSt.loadSl (t := 22) (.tmp 10) (by kernel_rfl) (by kernel_rfl) (by kernel_rfl) (by kernel_rfl) R0 e3 hS.sub0 (fun A4 c5 R6 => ?_)))
      replace R6 : rdS (r0 (.int .u8)) 1 (hp w0) A4 c5 v2 := R6
      refine WR.runk [2] [] [3, 5, 6, 7, 8] (L' := [(3, .int .i64 x3_l1), (5, .slice A4 v2.length c5), (6, .slice A0 l0.length c0), (7, .int .i64 (l0.length : Int)), (8, .int .i64 x8_l1)]) (w' := w) (by kernel_rfl) ?_
      refine WR.nil ?_
      refine At.go ?_
      refine WC.seq (by kernel_rfl) ?_
      refine WC.seq (by kernel_rfl) ?_
      refine WC.reg [0, 1, 2, 3, 4, 5, 6] (by kernel_rfl) (by kernel_rfl) ?_
      refine WR.runk [0, 1, 2] [3, 4, 5, 6] [3, 5, 6, 7, 8, 14] (L' := [(3, .int .i64 x3_l1), (5, .slice A4 v2.length c5), (6, .slice A0 l0.length c0), (7, .int .i64 (l0.length : Int)), (8, .int .i64 x8_l1), (14, .bool (decide (x3_l1 > 2000000)))]) (w' := w) (by kernel_rfl) ?_
      refine WR.split 14 (b := decide (x3_l1 > 2000000)) (by kernel_rfl) (fun hb7 => ?_) (fun hb7 => ?_)
      · replace H := ite_t H hb7
        refine WR.runk [3, 4, 5, 6] [] [3, 5, 6, 7, 8, 15, 16, 17, 18] (L' := [(3, .int .i64 x3_l1), (5, .slice A4 v2.length c5), (6, .slice A0 l0.length c0), (7, .int .i64 (l0.length : Int)), (8, .int .i64 x8_l1), (15, undef), (16, undef), (17, undef), (18, .bool true)]) (w' := w) (by kernel_rfl) ?_
        refine WR.nil ?_
        refine At.go ?_
        refine WC.condT (by kernel_rfl) (by kernel_rfl) (by kernel_rfl) ?_
        refine WC.seq (by kernel_rfl) ?_
        refine WC.reg [0] (by kernel_rfl) (by kernel_rfl) ?_
        refine WR.runk [0] [] [2] (L' := [(2, .int .i64 2000001)]) (w' := w) (by kernel_rfl) ?_
        refine WR.nil ?_
        refine At.go ?_
        refine WC.ret (by kernel_rfl) ?_
        refine At.thenRet ?_
        refine At.blockRet ?_
        refine At.thenRet ?_
        refine At.thenRet ?_
        obtain rfl := Option.some.inj H
        have hS : Sat w (rf w0) [] := hS.sel [] (by kernel_rfl)
        refine At.weaken [2] (L' := [(2, .int .i64 2000001)]) (by kernel_rfl) ?_
        exact hn0 2000001 _ rfl hS
      · replace H := ite_f H hb7
        refine WR.runk [3, 4, 5, 6] [] [3, 5, 6, 7, 8, 15, 16, 17, 18] (L' := [(3, .int .i64 x3_l1), (5, .slice A4 v2.length c5), (6, .slice A0 l0.length c0), (7, .int .i64 (l0.length : Int)), (8, .int .i64 x8_l1), (15, .slice A4 v2.length c5), (16, .int .i64 (v2.length : Int)), (17, .bool (decide ((v2.length : Int) > 2000000))), (18, .bool (decide ((v2.length : Int) > 2000000)))]) (w' := w) (by kernel_rfl) ?_
        refine WR.nil ?_
        refine At.go ?_
        refine WC.cond (by kernel_rfl) (decide ((v2.length : Int) > 2000000)) (by kernel_rfl) (by kernel_rfl) (fun hb8 => ?_) (fun hb8 => ?_)
        · replace H := ite_t H hb8
          refine WC.seq (by kernel_rfl) ?_
          refine WC.reg [0] (by kernel_rfl) (by kernel_rfl) ?_
          refine WR.runk [0] [] [2] (L' := [(2, .int .i64 2000001)]) (w' := w) (by kernel_rfl) ?_
          refine WR.nil ?_
          refine At.go ?_
          refine WC.ret (by kernel_rfl) ?_
          refine At.thenRet ?_
          refine At.blockRet ?_
          refine At.thenRet ?_
          refine At.thenRet ?_
          obtain rfl := Option.some.inj H
          have hS : Sat w (rf w0) [] := hS.sel [] (by kernel_rfl)
          refine At.weaken [2] (L' := [(2, .int .i64 2000001)]) (by kernel_rfl) ?_
          exact hn0 2000001 _ rfl hS
        · replace H := ite_f H hb8
          refine WC.skip (by kernel_rfl) ?_
          refine At.go ?_
          refine WC.reg [0, 1, 2, 3, 4, 5] (by kernel_rfl) (by kernel_rfl) ?_
          refine WR.runk [0, 1, 2, 3, 4, 5] [] [3, 6, 7, 8, 15, 16] (L' := [(3, .int .i64 (wi (x3_l1 + (wi ((v2.length : Int) + 1))))), (6, .slice A0 l0.length c0), (7, .int .i64 (l0.length : Int)), (8, .int .i64 x8_l1), (15, .slice A4 v2.length c5), (16, .int .i64 (v2.length : Int))]) (w' := w) (by kernel_rfl) ?_
          refine WR.nil ?_
          refine At.blockNormal ?_
          refine At.go ?_
          refine WC.reg [0, 1] (by kernel_rfl) (by kernel_rfl) ?_
          refine WR.runk [0, 1] [] [3, 6, 7, 8, 15, 16] (L' := [(3, .int .i64 (wi (x3_l1 + (wi ((v2.length : Int) + 1))))), (6, .slice A0 l0.length c0), (7, .int .i64 (l0.length : Int)), (8, .int .i64 (wi (x8_l1 + 1))), (15, .slice A4 v2.length c5), (16, .int .i64 (v2.length : Int))]) (w' := w) (by kernel_rfl) ?_
          refine WR.nil ?_
          have hS : Sat w (rf w0) [] := hS.sel [] (by kernel_rfl)
          refine At.again ?_
          refine WL.weaken [3, 6, 7, 8] (L' := [(3, .int .i64 (wi (x3_l1 + (wi ((v2.length : Int) + 1))))), (6, .slice A0 l0.length c0), (7, .int .i64 (l0.length : Int)), (8, .int .i64 (wi (x8_l1 + 1)))]) (by kernel_rfl) ?_
          exact ih (wi (x3_l1 + (wi ((v2.length : Int) + 1)))) (wi (x8_l1 + 1)) _ hS H
    · replace H := ite_f H hb1
      refine WC.exit (by kernel_rfl) ?_
      refine At.thenExit ?_
      refine At.thenExit ?_
      obtain rfl := Option.some.inj H
      have hS : Sat w (rf w0) [] := hS.sel [] (by kernel_rfl)
      refine At.weaken [3] (L' := [(3, .int .i64 x3_l1)]) (by kernel_rfl) ?_
      exact hn1 x3_l1 _ rfl hS
theorem colophonref06_Size.calls (w0 : World) (A0 : Option Addr) (c0 : Nat) (l0 : List (List Int)) (R0 : rdS (rd (hp w0) (.slice 5 (.int .u8))) 1 (hp w0) A0 c0 l0) (r : Int) (H : colophonref06_Size.f l0 = some r) :
    Calls Try.prog 14 #[.slice A0 l0.length c0] w0 (fun e w' => ∃ v, e = .returned v ∧ colophonref06_Size.post w0 r v w') := by
  have hS : Sat w0 (rf w0) [] := Sat.start w0
  unfold colophonref06_Size.f at H
  refine calls_of_WC (vs := [.slice A0 l0.length c0]) Try.func14 (c := C14) (n := 26) (by kernel_rfl) (by kernel_rfl) (by kernel_rfl) ?_
  refine WC.seq (by kernel_rfl) ?_
  refine WC.reg [0] (by kernel_rfl) (by kernel_rfl) ?_
  refine WR.runk [0] [] [0] (L' := [(0, .slice A0 l0.length c0)]) (w' := w0) (by kernel_rfl) ?_
  refine WR.nil ?_
  refine At.go ?_
  refine WC.seq (by kernel_rfl) ?_
  refine WC.reg [0] (by kernel_rfl) (by kernel_rfl) ?_
  refine WR.runk [0] [] [0, 3] (L' := [(0, .slice A0 l0.length c0), (3, .int .i64 0)]) (w' := w0) (by kernel_rfl) ?_
  refine WR.nil ?_
  refine At.go ?_
  refine WC.seq (by kernel_rfl) ?_
  refine WC.seq (by kernel_rfl) ?_
  refine WC.reg [0, 1, 2] (by kernel_rfl) (by kernel_rfl) ?_
  refine WR.runk [0, 1, 2] [] [3, 6, 7, 8] (L' := [(3, .int .i64 0), (6, .slice A0 l0.length c0), (7, .int .i64 (l0.length : Int)), (8, .int .i64 0)]) (w' := w0) (by kernel_rfl) ?_
  refine WR.nil ?_
  refine At.go ?_
  refine WC.block (by kernel_rfl) ?_
  have hS : Sat w0 (rf w0) [] := hS.sel [] (by kernel_rfl)
  obtain ⟨o9, e10, H⟩ := bind_ex H
  refine WC.loop (by kernel_rfl) ?_
  refine WL.weaken [3, 6, 7, 8] (L' := [(3, .int .i64 0), (6, .slice A0 l0.length c0), (7, .int .i64 (l0.length : Int)), (8, .int .i64 0)]) (by kernel_rfl) ?_
  refine colophonref06_Size.l1_ok w0 A0 c0 l0 R0 o9 (fun o11 w13 ho14 hS => ?_) (fun o15 w17 ho18 hS => ?_) FU 0 0 _ hS e10
  · subst ho14
    dsimp only at H
    refine At.blockRet ?_
    refine At.thenRet ?_
    obtain rfl := Option.some.inj H
    have hS : Sat w13 (rf w0) [] := hS.sel [] (by kernel_rfl)
    exact At.body [.int .i64 o11] (by kernel_rfl) ⟨_, rfl, rfl, hS⟩
  · subst ho18
    dsimp only at H
    refine At.hit ?_
    refine At.go ?_
    refine WC.seq (by kernel_rfl) ?_
    refine WC.reg [0, 1] (by kernel_rfl) (by kernel_rfl) ?_
    refine WR.runk [0, 1] [] [2] (L' := [(2, .int .i64 o15)]) (w' := w17) (by kernel_rfl) ?_
    refine WR.nil ?_
    refine At.go ?_
    refine WC.ret (by kernel_rfl) ?_
    obtain rfl := Option.some.inj H
    have hS : Sat w17 (rf w0) [] := hS.sel [] (by kernel_rfl)
    exact At.body [.int .i64 o15] (by kernel_rfl) ⟨_, rfl, rfl, hS⟩
/-! ### 21 (*colophon/image.Image).Page -/
def image_Image_Page.f (p0 : Option ((List (List Int)) × (List Int) × (List Int))) (a1 : Int) : Option ((List Int) × Int) := (match p0 with | none => some (([] : List Int), 1) | some y3 => (if decide (a1 < 0) then some (([] : List Int), 222) else (if decide (a1 ≥ (y3.1.length : Int)) then some (([] : List Int), 222) else ((at? y3.1 a1).bind fun v20 => ((slices_Clone.f v20).bind fun r25 => some (r25, 0))))))
def image_Image_Page.post (w : World) (r : (List Int) × Int) (v : Value) (w' : World) : Prop := ∃ (A0' : Option Addr) (c0' : Nat), v = .tuple #[.slice A0' r.1.length c0', .int .i64 r.2] ∧ Sat w' (rf w) [osl 5 (r0 (.int .u8)) 1 A0' c0' r.1]
theorem image_Image_Page.calls (w0 : World) (v0 : Value) (p0 : Option ((List (List Int)) × (List Int) × (List Int))) (R0 : rd (hp w0) (.ptr 52 (.pair (.slice 22 (.slice 5 (.int .u8))) (.pair (.slice 3 (.int .i64)) (.slice 3 (.int .i64))))) [v0] p0) (a1 : Int) (r : (List Int) × Int) (H : image_Image_Page.f p0 a1 = some r) :
    Calls Try.prog 21 #[v0, .int .i64 a1] w0 (fun e w' => ∃ v, e = .returned v ∧ image_Image_Page.post w0 r v w') := by
  have hS : Sat w0 (rf w0) [] := Sat.start w0
  unfold image_Image_Page.f at H
  refine calls_of_WC (vs := [v0, .int .i64 a1]) Try.func21 (c := C21) (n := 29) (by kernel_rfl) (by kernel_rfl) (by kernel_rfl) ?_
  refine WC.seq (by kernel_rfl) ?_
  refine WC.reg [0, 1] (by kernel_rfl) (by kernel_rfl) ?_
  refine WR.runk [0, 1] [] [0, 1] (L' := [(0, v0), (1, .int .i64 a1)]) (w' := w0) (by kernel_rfl) ?_
  refine WR.nil ?_
  refine At.go ?_
  refine WC.seq (by kernel_rfl) ?_
  refine WC.block (by kernel_rfl) ?_
  refine WC.seq (by kernel_rfl) ?_
  refine WC.reg [0, 1, 2] (by kernel_rfl) (by kernel_rfl) ?_
  refine WR.runk [0] [1, 2] [0, 1, 7] (L' := [(0, v0), (1, .int .i64 a1), (7, v0)]) (w' := w0) (by kernel_rfl) ?_
  rcases opt_cases p0 with hr1 | ⟨y3, hr1⟩
  · rw [hr1] at H
    dsimp only at H
    have hx2 := rd_ptr_none R0 hr1
    try subst hx2
    refine WR.runk [1, 2] [] [0, 1, 6] (L' := [(0, .pointer none), (1, .int .i64 a1), (6, .bool true)]) (w' := w0) (by kernel_rfl) ?_
    refine WR.nil ?_
    refine At.go ?_
    refine WC.condT (by kernel_rfl) (by kernel_rfl) (by kernel_rfl) ?_
    refine WC.seq (by kernel_rfl) ?_
    refine WC.reg [0, 1] (by kernel_rfl) (by kernel_rfl) ?_
    refine WR.runk [0, 1] [] [4, 5] (L' := [(4, .slice none 0 0), (5, .int .i64 1)]) (w' := w0) (by kernel_rfl) ?_
    refine WR.nil ?_
    refine At.go ?_
    refine WC.ret (by kernel_rfl) ?_
    refine At.blockRet ?_
    refine At.thenRet ?_
    obtain rfl := Option.some.inj H
    have hS := hS.addNil (α := Int) 5 (r0 (.int .u8)) 1
    have hS : Sat w0 (rf w0) [osl 5 (r0 (.int .u8)) 1 none 0 ([] : List Int)] := hS.sel [0] (by kernel_rfl)
    exact At.body [.slice none 0 0, .int .i64 1] (by kernel_rfl) ⟨_, rfl, _, _, rfl, hS⟩
  · rw [hr1] at H
    dsimp only at H
    obtain ⟨b4, fr5, A9, c10, A12, c13, A15, c16, hv6, hb7, R11, R14, R17⟩ := P52.open R0 hr1
    have R8 := R0
    rw [hv6, hr1] at R8
    try subst hv6
    replace R11 : rdS (rd (hp w0) (.slice 5 (.int .u8))) 1 (hp w0) A9 c10 y3.1 := R11
    replace R14 : rdS (r0 (.int .i64)) 1 (hp w0) A12 c13 y3.2.1 := R14
    replace R17 : rdS (r0 (.int .i64)) 1 (hp w0) A15 c16 y3.2.2 := R17
    refine WR.runk [1, 2] [] [0, 1, 6] (L' := [(0, .pointer (some ⟨b4, 0, none⟩)), (1, .int .i64 a1), (6, .bool false)]) (w' := w0) (by kernel_rfl) ?_
    refine WR.nil ?_
    refine At.go ?_
    refine WC.condF (by kernel_rfl) (by kernel_rfl) (by kernel_rfl) ?_
    refine WC.seq (by kernel_rfl) ?_
    refine WC.reg [0, 1, 2, 3, 4, 5, 6, 7, 8, 9, 10, 11] (by kernel_rfl) (by kernel_rfl) ?_
    refine WR.runk [0, 1, 2] [3, 4, 5, 6, 7, 8, 9, 10, 11] [0, 1, 12] (L' := [(0, .pointer (some ⟨b4, 0, none⟩)), (1, .int .i64 a1), (12, .bool (decide (a1 < 0)))]) (w' := w0) (by kernel_rfl) ?_
    refine WR.split 12 (b := decide (a1 < 0)) (by kernel_rfl) (fun hb18 => ?_) (fun hb18 => ?_)
    · replace H := ite_t H hb18
      refine WR.runk [3, 4, 5, 6, 7, 8, 9, 10, 11] [] [0, 1, 9] (L' := [(0, .pointer (some ⟨b4, 0, none⟩)), (1, .int .i64 a1), (9, .bool true)]) (w' := w0) (by kernel_rfl) ?_
      refine WR.nil ?_
      refine At.go ?_
      refine WC.condT (by kernel_rfl) (by kernel_rfl) (by kernel_rfl) ?_
      refine WC.seq (by kernel_rfl) ?_
      refine WC.reg [0, 1] (by kernel_rfl) (by kernel_rfl) ?_
      refine WR.runk [0, 1] [] [4, 5] (L' := [(4, .slice none 0 0), (5, .int .i64 222)]) (w' := w0) (by kernel_rfl) ?_
      refine WR.nil ?_
      refine At.go ?_
      refine WC.ret (by kernel_rfl) ?_
      refine At.blockRet ?_
      refine At.thenRet ?_
      obtain rfl := Option.some.inj H
      have hS := hS.addNil (α := Int) 5 (r0 (.int .u8)) 1
      have hS : Sat w0 (rf w0) [osl 5 (r0 (.int .u8)) 1 none 0 ([] : List Int)] := hS.sel [0] (by kernel_rfl)
      exact At.body [.slice none 0 0, .int .i64 222] (by kernel_rfl) ⟨_, rfl, _, _, rfl, hS⟩
    · replace H := ite_f H hb18
      refine WR.runk [3, 4, 5, 6] [7, 8, 9, 10, 11] [0, 1, 12, 13, 16] (L' := [(0, .pointer (some ⟨b4, 0, none⟩)), (1, .int .i64 a1), (12, .bool false), (13, .int .i64 a1), (16, .pointer (some ⟨b4, 0, none⟩))]) (w' := w0) (by kernel_rfl) ?_
      refine WR.st (St.ofR (RSt.loadRo (t := 29) (k := 0) (v := .slice A9 y3.1.length c10) (.tmp 16) (by kernel_rfl) (by kernel_rfl) (by kernel_rfl) hS.sub0 hb7 (by kernel_rfl) rfl ?_))
      refine WR.runk [8, 9, 10, 11] [] [0, 1, 9] (L' := [(0, .pointer (some ⟨b4, 0, none⟩)), (1, .int .i64 a1), (9, .bool (decide (a1 ≥ (y3.1.length : Int))))]) (w' := w0) (by kernel_rfl) ?_
      refine WR.nil ?_
      refine At.go ?_
      refine WC.cond (by kernel_rfl) (decide (a1 ≥ (y3.1.length : Int))) (by kernel_rfl) (by kernel_rfl) (fun hb19 => ?_) (fun hb19 => ?_)
      · replace H := ite_t H hb19
        refine WC.seq (by kernel_rfl) ?_
        refine WC.reg [0, 1] (by kernel_rfl) (by kernel_rfl) ?_
        refine WR.runk [0, 1] [] [4, 5] (L' := [(4, .slice none 0 0), (5, .int .i64 222)]) (w' := w0) (by kernel_rfl) ?_
        refine WR.nil ?_
        refine At.go ?_
        refine WC.ret (by kernel_rfl) ?_
        refine At.blockRet ?_
        refine At.thenRet ?_
        obtain rfl := Option.some.inj H
        have hS := hS.addNil (α := Int) 5 (r0 (.int .u8)) 1
        have hS : Sat w0 (rf w0) [osl 5 (r0 (.int .u8)) 1 none 0 ([] : List Int)] := hS.sel [0] (by kernel_rfl)
        exact At.body [.slice none 0 0, .int .i64 222] (by kernel_rfl) ⟨_, rfl, _, _, rfl, hS⟩
      · replace H := ite_f H hb19
        refine WC.skip (by kernel_rfl) ?_
        refine At.blockNormal ?_
        refine At.go ?_
        refine WC.seq (by kernel_rfl) ?_
        refine WC.reg [0, 1, 2, 3, 4, 5, 6, 7, 8, 9] (by kernel_rfl) (by kernel_rfl) ?_
        refine WR.runk [0, 1, 2] [3, 4, 5, 6, 7, 8, 9] [1, 23] (L' := [(1, .int .i64 a1), (23, .pointer (some ⟨b4, 0, none⟩))]) (w' := w0) (by kernel_rfl) ?_
        refine WR.st (St.ofR (RSt.loadRo (t := 29) (k := 0) (v := .slice A9 y3.1.length c10) (.tmp 23) (by kernel_rfl) (by kernel_rfl) (by kernel_rfl) hS.sub0 hb7 (by kernel_rfl) rfl ?_))
        refine WR.runk [4] [5, 6, 7, 8, 9] [24, 25] (L' := [(24, .slice A9 y3.1.length c10), (25, .int .i64 a1)]) (w' := w0) (by kernel_rfl) ?_
        obtain ⟨v20, e21, H⟩ := bind_ex H
        refine WR.st (St.ofP (PSt.idx (k := .i64) (.tmp 24) (.tmp 25) (by kernel_rfl) (by kernel_rfl) E29 (by kernel_rfl) (by kernel_rfl) (rdS.up R11 hS.sub0) e21 ?_))
        refine WR.runk [] [6, 7, 8, 9] [26] (L' := [(26, .pointer (some (adr A9 a1.toNat 1)))]) (w' := w0) (by kernel_rfl) ?_
        refine WR.st (St.ofR (RSt.loadSl (t := 22) (.tmp 26) (by kernel_rfl) (by kernel_rfl) (by kernel_rfl) (by kernel_rfl) R11 e21 hS.sub0 (fun A22 c23 R24 => ?_)))
        replace R24 : rdS (r0 (.int .u8)) 1 (hp w0) A22 c23 v20 := R24
        refine WR.runk [] [7, 8, 9] [27] (L' := [(27, .slice A22 v20.length c23)]) (w' := w0) (by kernel_rfl) ?_
        obtain ⟨r25, e26, H⟩ := bind_ex H
        refine WR.st (St.call (by kernel_rfl) (f := 34) (args := #[.slice A22 v20.length c23]) (by kernel_rfl) (slices_Clone.calls w0 A22 c23 v20 (rdS.up R24 hS.sub0) r25 e26) ?_)
        rintro _ w32 ⟨A34, c35, rfl, hS33⟩
        have hS : Sat w32 (rf w0) [osl 5 (r0 (.int .u8)) 1 A34 c35 r25] := hS.ext hS33
        refine WR.runk [8, 9] [] [4, 5] (L' := [(4, .slice A34 r25.length c35), (5, .int .i64 0)]) (w' := w32) (by kernel_rfl) ?_
        refine WR.nil ?_
        refine At.go ?_
        refine WC.ret (by kernel_rfl) ?_
        obtain rfl := Option.some.inj H
        have hS : Sat w32 (rf w0) [osl 5 (r0 (.int .u8)) 1 A34 c35 r25] := hS.sel [0] (by kernel_rfl)
        exact At.body [.slice A34 r25.length c35, .int .i64 0] (by kernel_rfl) ⟨_, rfl, _, _, rfl, hS⟩
end Go.Proofs.Ytejjdfnelalnoaa
