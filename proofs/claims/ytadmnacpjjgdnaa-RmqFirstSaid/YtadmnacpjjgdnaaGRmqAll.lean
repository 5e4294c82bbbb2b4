/-
  Printed by gen.py (my own tool): for each Go function a plain Lean function and the proof that a call of it does what that function says.
-/
import Derived.Test.YtadmnacpjjgdnaaGP1
set_option linter.unusedVariables false
set_option linter.unusedSimpArgs false
set_option maxRecDepth 100000
namespace Go.Proofs.Ytadmnacpjjgdnaa
open Go Go.Gol
/-! ### 4 colophon/colophonlaw14.RmqAll -/
def colophonlaw14_RmqAll.l2 (l0 : List Int) (x20_l1 : Int) : Nat → (List Int) → Int → Option (List Int)
  | 0, _, _ => none
  | k + 1, x5_l2, x7_l2 => (if decide (x7_l2 < (l0.length : Int)) then (if decide (x7_l2 < 30) then ((at? l0 x7_l2).bind fun v14 => ((app? 17592186044416 x5_l2 ([wi ((wi v14) * (wi (1 + (Int.tmod x20_l1 2))))] : List Int)).bind fun y19 => colophonlaw14_RmqAll.l2 l0 x20_l1 k y19 (wi (x7_l2 + 1)))) else some x5_l2) else some x5_l2)
def colophonlaw14_RmqAll.l1 (l0 : List Int) (a1 : Int) : Nat → (List Int) → Int → Option (List Int)
  | 0, _, _ => none
  | k + 1, x5_l1, x20_l1 => (if decide (x20_l1 < wi (1 + (wi (Int.tmod (IntKind.wrap .u64 a1) 20)))) then ((colophonlaw14_RmqAll.l2 l0 x20_l1 FU x5_l1 0).bind fun o23 => colophonlaw14_RmqAll.l1 l0 a1 k o23 (wi (x20_l1 + 1))) else some x5_l1)
def colophonlaw14_RmqAll.l4 (o28 : (List Int)) (y43 : (List Int) × (List (List Int))) (x10_l3 : Int) : Nat → Int → Int → Option (Sum Bool Unit)
  | 0, _, _ => none
  | k + 1, x11_l4, x12_l4 => (if decide (x12_l4 ≤ (o28.length : Int)) then ((rmq_Table_Least.f (some y43) x10_l3 x12_l4).bind fun r51 => (if (r51 != x11_l4) then some (.inl false) else (if decide (x12_l4 < (o28.length : Int)) then (if decide (x11_l4 < 0) then colophonlaw14_RmqAll.l4 o28 y43 x10_l3 k x12_l4 (wi (x12_l4 + 1)) else ((at? o28 x12_l4).bind fun v65 => ((at? o28 x11_l4).bind fun v67 => (if decide (v65 < v67) then colophonlaw14_RmqAll.l4 o28 y43 x10_l3 k x12_l4 (wi (x12_l4 + 1)) else colophonlaw14_RmqAll.l4 o28 y43 x10_l3 k x11_l4 (wi (x12_l4 + 1)))))) else colophonlaw14_RmqAll.l4 o28 y43 x10_l3 k x11_l4 (wi (x12_l4 + 1))))) else some (.inr ()))
def colophonlaw14_RmqAll.l3 (o28 : (List Int)) (y43 : (List Int) × (List (List Int))) : Nat → Int → Option (Sum Bool Unit)
  | 0, _ => none
  | k + 1, x10_l3 => (if decide (x10_l3 < (o28.length : Int)) then (if decide (x10_l3 < 300) then ((colophonlaw14_RmqAll.l4 o28 y43 x10_l3 FU (-1) x10_l3).bind fun o70 => (match o70 with | .inl o72 => some (.inl o72) | .inr o76 => colophonlaw14_RmqAll.l3 o28 y43 k (wi (x10_l3 + (wi (1 + (wi (Int.tdiv (o28.length : Int) 40)))))))) else some (.inr ())) else some (.inr ()))
def colophonlaw14_RmqAll.f (l0 : List Int) (a1 : Int) : Option Bool := (colophonlaw14_first.f.bind fun r1 => (if (!r1) then some false else ((colophonlaw14_RmqAll.l1 l0 a1 FU ([] : List Int) 0).bind fun o28 => ((rmq_New.f o28).bind fun r33 => (r33.1.bind fun y43 => ((colophonlaw14_RmqAll.l3 o28 y43 FU 0).bind fun o80 => (match o80 with | .inl o82 => some o82 | .inr o86 => some true)))))))
def colophonlaw14_RmqAll.post (w : World) (r : Bool) (v : Value) (w' : World) : Prop := v = (.bool r : Value) ∧ Sat w' (rf w) []
theorem colophonlaw14_RmqAll.l2_ok {Q} (w0 : World) (A0 : Option Addr) (c0 : Nat) (l0 : List Int) (a1 : Int) (x20_l1 : Int) (R0 : rdS (r0 (.int .i8)) 1 (hp w0) A0 c0 l0) (out : (List Int)) (hn0 : ∀ (A5_q : Option Addr) (c5_q : Nat) (w : World), Sat w (rf w0) [osl 3 (r0 (.int .i64)) 1 A5_q c5_q out] → At Q (.exit 2) 98 [(0, .slice A0 l0.length c0), (5, .slice A5_q out.length c5_q), (19, .int .i64 (wi (1 + (wi (Int.tmod (IntKind.wrap .u64 a1) 20))))), (20, .int .i64 x20_l1)] w) :
    ∀ (k : Nat) (x5_l2 : List Int) (x7_l2 : Int) (A5_l2 : Option Addr) (c5_l2 : Nat) (w : World), Sat w (rf w0) [osl 3 (r0 (.int .i64)) 1 A5_l2 c5_l2 x5_l2] → colophonlaw14_RmqAll.l2 l0 x20_l1 k x5_l2 x7_l2 = some out → WL Try.prog (cbody (cbody (cr (cr (cbody (cl (cr (cr (cbody (cbody (cr (cl (cr (cr (cr C4))))))))))))))) Q 98 [(0, .slice A0 l0.length c0), (5, .slice A5_l2 x5_l2.length c5_l2), (6, .int .i64 x20_l1), (7, .int .i64 x7_l2), (19, .int .i64 (wi (1 + (wi (Int.tmod (IntKind.wrap .u64 a1) 20))))), (20, .int .i64 x20_l1)] w := by
  intro k
  induction k with
  | zero => intro x5_l2 x7_l2 A5_l2 c5_l2 w hS H; exact absurd (show none = some out from H) (by simp)
  | succ k ih =>
    intro x5_l2 x7_l2 A5_l2 c5_l2 w hS H
    unfold colophonlaw14_RmqAll.l2 at H
    refine WL.round ?_
    refine WC.seq (by kernel_rfl) ?_
    refine WC.seq (by kernel_rfl) ?_
    refine WC.reg [0, 1, 2, 3, 4, 5, 6, 7] (by kernel_rfl) (by kernel_rfl) ?_
    refine WR.runk [0, 1, 2, 3, 4] [5, 6, 7] [0, 5, 6, 7, 19, 20, 27] (L' := [(0, .slice A0 l0.length c0), (5, .slice A5_l2 x5_l2.length c5_l2), (6, .int .i64 x20_l1), (7, .int .i64 x7_l2), (19, .int .i64 (wi (1 + (wi (Int.tmod (IntKind.wrap .u64 a1) 20))))), (20, .int .i64 x20_l1), (27, .bool (decide (x7_l2 < (l0.length : Int))))]) (w' := w) (by kernel_rfl) ?_
    refine WR.split 27 (b := decide (x7_l2 < (l0.length : Int))) (by kernel_rfl) (fun hb12 => ?_) (fun hb12 => ?_)
    · replace H := ite_t H hb12
      refine WR.runk [5, 6, 7] [] [0, 5, 6, 7, 19, 20, 28, 29, 30] (L' := [(0, .slice A0 l0.length c0), (5, .slice A5_l2 x5_l2.length c5_l2), (6, .int .i64 x20_l1), (7, .int .i64 x7_l2), (19, .int .i64 (wi (1 + (wi (Int.tmod (IntKind.wrap .u64 a1) 20))))), (20, .int .i64 x20_l1), (28, .int .i64 x7_l2), (29, .bool (decide (x7_l2 < 30))), (30, .bool (decide (x7_l2 < 30)))]) (w' := w) (by kernel_rfl) ?_
      refine WR.nil ?_
      refine At.go ?_
      refine WC.cond (by kernel_rfl) (decide (x7_l2 < 30)) (by kernel_rfl) (by kernel_rfl) (fun hb13 => ?_) (fun hb13 => ?_)
      · replace H := ite_t H hb13
        refine WC.skip (by kernel_rfl) ?_
        refine At.go ?_
        refine WC.seq (by kernel_rfl) ?_
        refine WC.block (by kernel_rfl) ?_
        refine WC.reg [0, 1, 2, 3, 4, 5, 6, 7, 8, 9, 10, 11, 12] (by kernel_rfl) (by kernel_rfl) ?_
        refine WR.runk [0, 1, 2] [3, 4, 5, 6, 7, 8, 9, 10, 11, 12] [0, 5, 6, 7, 19, 20, 28, 33, 34, 35] (L' := [(0, .slice A0 l0.length c0), (5, .slice A5_l2 x5_l2.length c5_l2), (6, .int .i64 x20_l1), (7, .int .i64 x7_l2), (19, .int .i64 (wi (1 + (wi (Int.tmod (IntKind.wrap .u64 a1) 20))))), (20, .int .i64 x20_l1), (28, .int .i64 x7_l2), (33, .slice A5_l2 x5_l2.length c5_l2), (34, .slice A0 l0.length c0), (35, .int .i64 x7_l2)]) (w' := w) (by kernel_rfl) ?_
        obtain ⟨v14, e15, H⟩ := bind_ex H
        refine WR.st (St.ofP (PSt.idx (k := .i64) (.tmp 34) (.tmp 35) (by kernel_rfl) (by kernel_rfl) E32 (by kernel_rfl) (by kernel_rfl) (rdS.up R0 hS.sub0) e15 ?_))
        refine WR.runk [] [4, 5, 6, 7, 8, 9, 10, 11, 12] [0, 5, 6, 7, 19, 20, 28, 33, 36] (L' := [(0, .slice A0 l0.length c0), (5, .slice A5_l2 x5_l2.length c5_l2), (6, .int .i64 x20_l1), (7, .int .i64 x7_l2), (19, .int .i64 (wi (1 + (wi (Int.tmod (IntKind.wrap .u64 a1) 20))))), (20, .int .i64 x20_l1), (28, .int .i64 x7_l2), (33, .slice A5_l2 x5_l2.length c5_l2), (36, .pointer (some (adr A0 x7_l2.toNat 1)))]) (w' := w) (by kernel_rfl) ?_
        refine WR.st (St.ofR (RSt.loadInt (t := 34) (.tmp 36) (by kernel_rfl) (by kernel_rfl) (by kernel_rfl) (by kernel_rfl) (rdS.up R0 hS.sub0) e15 ?_))
        refine WR.runk [5, 6, 7, 8, 9] [10, 11, 12] [0, 5, 6, 7, 19, 20, 28, 33, 42] (L' := [(0, .slice A0 l0.length c0), (5, .slice A5_l2 x5_l2.length c5_l2), (6, .int .i64 x20_l1), (7, .int .i64 x7_l2), (19, .int .i64 (wi (1 + (wi (Int.tmod (IntKind.wrap .u64 a1) 20))))), (20, .int .i64 x20_l1), (28, .int .i64 x7_l2), (33, .slice A5_l2 x5_l2.length c5_l2), (42, .int .i64 (wi ((wi v14) * (wi (1 + (Int.tmod x20_l1 2))))))]) (w' := w) (by kernel_rfl) ?_
        refine WR.st (St.box hS (by kernel_rfl) (.cells #[.int .i64 (wi ((wi v14) * (wi (1 + (Int.tmod x20_l1 2)))))] 3) (fun b16 => .slice (some ⟨b16, 0, none⟩) 1 1) (fun _ => by kernel_rfl) (fun b16 w17 hS => ?_))
        refine WR.runk [] [11, 12] [0, 5, 6, 7, 19, 20, 28, 33, 43] (L' := [(0, .slice A0 l0.length c0), (5, .slice A5_l2 x5_l2.length c5_l2), (6, .int .i64 x20_l1), (7, .int .i64 x7_l2), (19, .int .i64 (wi (1 + (wi (Int.tmod (IntKind.wrap .u64 a1) 20))))), (20, .int .i64 x20_l1), (28, .int .i64 x7_l2), (33, .slice A5_l2 x5_l2.length c5_l2), (43, .slice (some ⟨b16, 0, none⟩) 1 1)]) (w' := w17) (by kernel_rfl) ?_
        have hS : Sat w17 (rf w0) [osl 3 (r0 (.int .i64)) 1 A5_l2 c5_l2 x5_l2, pts b16 (.cells #[.int .i64 (wi ((wi v14) * (wi (1 + (Int.tmod x20_l1 2)))))] 3 (0, 0))] := hS.sel [1, 0] (by kernel_rfl)
        obtain ⟨y19, e18, H⟩ := bind_ex H
        refine WR.st (St.append' (.tmp 33) (.tmp 43) (by kernel_rfl) (by kernel_rfl) E22 (r0_one _) hS (by kernel_rfl) (by kernel_rfl) (Sat.ptsAt 1 (r0 (.int .i64)) 1 ([wi ((wi v14) * (wi (1 + (Int.tmod x20_l1 2))))] : List Int) hS rfl rfl (rdL.cons1 rfl (rdL.nil _ _))) 17592186044416 (by kernel_rfl) (by kernel_rfl) e18 (fun A20 c21 w22 hS => ?_))
        refine WR.runk [12] [] [0, 5, 6, 7, 19, 20, 28] (L' := [(0, .slice A0 l0.length c0), (5, .slice A20 y19.length c21), (6, .int .i64 x20_l1), (7, .int .i64 x7_l2), (19, .int .i64 (wi (1 + (wi (Int.tmod (IntKind.wrap .u64 a1) 20))))), (20, .int .i64 x20_l1), (28, .int .i64 x7_l2)]) (w' := w22) (by kernel_rfl) ?_
        refine WR.nil ?_
        refine At.blockNormal ?_
        refine At.go ?_
        refine WC.reg [0, 1, 2] (by kernel_rfl) (by kernel_rfl) ?_
        refine WR.runk [0, 1, 2] [] [0, 5, 6, 7, 19, 20, 28] (L' := [(0, .slice A0 l0.length c0), (5, .slice A20 y19.length c21), (6, .int .i64 x20_l1), (7, .int .i64 (wi (x7_l2 + 1))), (19, .int .i64 (wi (1 + (wi (Int.tmod (IntKind.wrap .u64 a1) 20))))), (20, .int .i64 x20_l1), (28, .int .i64 x7_l2)]) (w' := w22) (by kernel_rfl) ?_
        refine WR.nil ?_
        have hS : Sat w22 (rf w0) [osl 3 (r0 (.int .i64)) 1 A20 c21 y19] := hS.sel [0] (by kernel_rfl)
        refine At.again ?_
        refine WL.weaken [0, 5, 6, 7, 19, 20] (L' := [(0, .slice A0 l0.length c0), (5, .slice A20 y19.length c21), (6, .int .i64 x20_l1), (7, .int .i64 (wi (x7_l2 + 1))), (19, .int .i64 (wi (1 + (wi (Int.tmod (IntKind.wrap .u64 a1) 20))))), (20, .int .i64 x20_l1)]) (by kernel_rfl) ?_
        exact ih y19 (wi (x7_l2 + 1)) A20 c21 _ hS H
      · replace H := ite_f H hb13
        refine WC.exit (by kernel_rfl) ?_
        refine At.thenExit ?_
        refine At.thenExit ?_
        obtain rfl := Option.some.inj H
        have hS : Sat w (rf w0) [osl 3 (r0 (.int .i64)) 1 A5_l2 c5_l2 x5_l2] := hS.sel [0] (by kernel_rfl)
        refine At.weaken [0, 5, 19, 20] (L' := [(0, .slice A0 l0.length c0), (5, .slice A5_l2 x5_l2.length c5_l2), (19, .int .i64 (wi (1 + (wi (Int.tmod (IntKind.wrap .u64 a1) 20))))), (20, .int .i64 x20_l1)]) (by kernel_rfl) ?_
        exact hn0 A5_l2 c5_l2 _ hS
    · replace H := ite_f H hb12
      refine WR.runk [5, 6, 7] [] [0, 5, 6, 7, 19, 20, 28, 29, 30] (L' := [(0, .slice A0 l0.length c0), (5, .slice A5_l2 x5_l2.length c5_l2), (6, .int .i64 x20_l1), (7, .int .i64 x7_l2), (19, .int .i64 (wi (1 + (wi (Int.tmod (IntKind.wrap .u64 a1) 20))))), (20, .int .i64 x20_l1), (28, undef), (29, undef), (30, .bool false)]) (w' := w) (by kernel_rfl) ?_
      refine WR.nil ?_
      refine At.go ?_
      refine WC.condF (by kernel_rfl) (by kernel_rfl) (by kernel_rfl) ?_
      refine WC.exit (by kernel_rfl) ?_
      refine At.thenExit ?_
      refine At.thenExit ?_
      obtain rfl := Option.some.inj H
      have hS : Sat w (rf w0) [osl 3 (r0 (.int .i64)) 1 A5_l2 c5_l2 x5_l2] := hS.sel [0] (by kernel_rfl)
      refine At.weaken [0, 5, 19, 20] (L' := [(0, .slice A0 l0.length c0), (5, .slice A5_l2 x5_l2.length c5_l2), (19, .int .i64 (wi (1 + (wi (Int.tmod (IntKind.wrap .u64 a1) 20))))), (20, .int .i64 x20_l1)]) (by kernel_rfl) ?_
      exact hn0 A5_l2 c5_l2 _ hS
theorem colophonlaw14_RmqAll.l1_ok {Q} (w0 : World) (A0 : Option Addr) (c0 : Nat) (l0 : List Int) (a1 : Int) (R0 : rdS (r0 (.int .i8)) 1 (hp w0) A0 c0 l0) (out : (List Int)) (hn0 : ∀ (A5_q : Option Addr) (c5_q : Nat) (w : World), Sat w (rf w0) [osl 3 (r0 (.int .i64)) 1 A5_q c5_q out] → At Q (.exit 0) 98 [(5, .slice A5_q out.length c5_q)] w) :
    ∀ (k : Nat) (x5_l1 : List Int) (x20_l1 : Int) (A5_l1 : Option Addr) (c5_l1 : Nat) (w : World), Sat w (rf w0) [osl 3 (r0 (.int .i64)) 1 A5_l1 c5_l1 x5_l1] → colophonlaw14_RmqAll.l1 l0 a1 k x5_l1 x20_l1 = some out → WL Try.prog (cbody (cbody (cr (cl (cr (cr (cr C4))))))) Q 98 [(0, .slice A0 l0.length c0), (5, .slice A5_l1 x5_l1.length c5_l1), (19, .int .i64 (wi (1 + (wi (Int.tmod (IntKind.wrap .u64 a1) 20))))), (20, .int .i64 x20_l1)] w := by
  intro k
  induction k with
  | zero => intro x5_l1 x20_l1 A5_l1 c5_l1 w hS H; exact absurd (show none = some out from H) (by simp)
  | succ k ih =>
    intro x5_l1 x20_l1 A5_l1 c5_l1 w hS H
    unfold colophonlaw14_RmqAll.l1 at H
    refine WL.round ?_
    refine WC.seq (by kernel_rfl) ?_
    refine WC.reg [0] (by kernel_rfl) (by kernel_rfl) ?_
    refine WR.runk [0] [] [0, 5, 19, 20, 21] (L' := [(0, .slice A0 l0.length c0), (5, .slice A5_l1 x5_l1.length c5_l1), (19, .int .i64 (wi (1 + (wi (Int.tmod (IntKind.wrap .u64 a1) 20))))), (20, .int .i64 x20_l1), (21, .bool (decide (x20_l1 < wi (1 + (wi (Int.tmod (IntKind.wrap .u64 a1) 20))))))]) (w' := w) (by kernel_rfl) ?_
    refine WR.nil ?_
    refine At.go ?_
    refine WC.seq (by kernel_rfl) ?_
    refine WC.cond (by kernel_rfl) (decide (x20_l1 < wi (1 + (wi (Int.tmod (IntKind.wrap .u64 a1) 20))))) (by kernel_rfl) (by kernel_rfl) (fun hb11 => ?_) (fun hb11 => ?_)
    · replace H := ite_t H hb11
      refine WC.skip (by kernel_rfl) ?_
      refine At.go ?_
      refine WC.seq (by kernel_rfl) ?_
      refine WC.block (by kernel_rfl) ?_
      refine WC.seq (by kernel_rfl) ?_
      refine WC.reg [0, 1] (by kernel_rfl) (by kernel_rfl) ?_
      refine WR.runk [0, 1] [] [0, 5, 6, 19, 20] (L' := [(0, .slice A0 l0.length c0), (5, .slice A5_l1 x5_l1.length c5_l1), (6, .int .i64 x20_l1), (19, .int .i64 (wi (1 + (wi (Int.tmod (IntKind.wrap .u64 a1) 20))))), (20, .int .i64 x20_l1)]) (w' := w) (by kernel_rfl) ?_
      refine WR.nil ?_
      refine At.go ?_
      refine WC.seq (by kernel_rfl) ?_
      refine WC.reg [0] (by kernel_rfl) (by kernel_rfl) ?_
      refine WR.runk [0] [] [0, 5, 6, 7, 19, 20] (L' := [(0, .slice A0 l0.length c0), (5, .slice A5_l1 x5_l1.length c5_l1), (6, .int .i64 x20_l1), (7, .int .i64 0), (19, .int .i64 (wi (1 + (wi (Int.tmod (IntKind.wrap .u64 a1) 20))))), (20, .int .i64 x20_l1)]) (w' := w) (by kernel_rfl) ?_
      refine WR.nil ?_
      refine At.go ?_
      refine WC.block (by kernel_rfl) ?_
      have hS : Sat w (rf w0) [osl 3 (r0 (.int .i64)) 1 A5_l1 c5_l1 x5_l1] := hS.sel [0] (by kernel_rfl)
      obtain ⟨o23, e24, H⟩ := bind_ex H
      refine WC.loop (by kernel_rfl) ?_
      refine WL.weaken [0, 5, 6, 7, 19, 20] (L' := [(0, .slice A0 l0.length c0), (5, .slice A5_l1 x5_l1.length c5_l1), (6, .int .i64 x20_l1), (7, .int .i64 0), (19, .int .i64 (wi (1 + (wi (Int.tmod (IntKind.wrap .u64 a1) 20))))), (20, .int .i64 x20_l1)]) (by kernel_rfl) ?_
      refine colophonlaw14_RmqAll.l2_ok w0 A0 c0 l0 a1 x20_l1 R0 o23 (fun A5_q25 c5_q25 w26 hS => ?_) FU x5_l1 0 A5_l1 c5_l1 _ hS e24
      refine At.hit ?_
      refine At.blockNormal ?_
      refine At.go ?_
      refine WC.reg [0, 1] (by kernel_rfl) (by kernel_rfl) ?_
      refine WR.runk [0, 1] [] [0, 5, 19, 20] (L' := [(0, .slice A0 l0.length c0), (5, .slice A5_q25 o23.length c5_q25), (19, .int .i64 (wi (1 + (wi (Int.tmod (IntKind.wrap .u64 a1) 20))))), (20, .int .i64 (wi (x20_l1 + 1)))]) (w' := w26) (by kernel_rfl) ?_
      refine WR.nil ?_
      have hS : Sat w26 (rf w0) [osl 3 (r0 (.int .i64)) 1 A5_q25 c5_q25 o23] := hS.sel [0] (by kernel_rfl)
      refine At.again ?_
      refine WL.weaken [0, 5, 19, 20] (L' := [(0, .slice A0 l0.length c0), (5, .slice A5_q25 o23.length c5_q25), (19, .int .i64 (wi (1 + (wi (Int.tmod (IntKind.wrap .u64 a1) 20))))), (20, .int .i64 (wi (x20_l1 + 1)))]) (by kernel_rfl) ?_
      exact ih o23 (wi (x20_l1 + 1)) A5_q25 c5_q25 _ hS H
    · replace H := ite_f H hb11
      refine WC.exit (by kernel_rfl) ?_
      refine At.thenExit ?_
      refine At.thenExit ?_
      obtain rfl := Option.some.inj H
      have hS : Sat w (rf w0) [osl 3 (r0 (.int .i64)) 1 A5_l1 c5_l1 x5_l1] := hS.sel [0] (by kernel_rfl)
      refine At.weaken [5] (L' := [(5, .slice A5_l1 x5_l1.length c5_l1)]) (by kernel_rfl) ?_
      exact hn0 A5_l1 c5_l1 _ hS
theorem colophonlaw14_RmqAll.l4_ok {Q} (w0 : World) (o28 : (List Int)) (A5_q30 : Option Addr) (c5_q30 : Nat) (y43 : (List Int) × (List (List Int))) (b46 : Nat) (x10_l3 : Int) (out : Sum Bool Unit) (hn0 : ∀ (o0 : Bool) (w : World), out = (.inl o0) → Sat w (rf w0) [O43 b46 y43] → At Q .ret 98 [(4, .bool o0)] w) (hn1 : ∀ (o1 : Unit) (w : World), out = (.inr o1) → Sat w (rf w0) [osl 3 (r0 (.int .i64)) 1 A5_q30 c5_q30 o28, O43 b46 y43] → At Q (.exit 6) 98 [(5, .slice A5_q30 o28.length c5_q30), (8, .pointer (some ⟨b46, 0, none⟩)), (10, .int .i64 x10_l3), (56, .int .i64 x10_l3)] w) :
    ∀ (k : Nat) (x11_l4 : Int) (x12_l4 : Int) (w : World), Sat w (rf w0) [osl 3 (r0 (.int .i64)) 1 A5_q30 c5_q30 o28, O43 b46 y43] → colophonlaw14_RmqAll.l4 o28 y43 x10_l3 k x11_l4 x12_l4 = some out → WL Try.prog (cbody (cbody (cr (cr (cbody (cl (cr (cbody (cbody (cr (cl (cr (cr (cr (cr (cr C4)))))))))))))))) Q 98 [(5, .slice A5_q30 o28.length c5_q30), (8, .pointer (some ⟨b46, 0, none⟩)), (10, .int .i64 x10_l3), (11, .int .i64 x11_l4), (12, .int .i64 x12_l4), (56, .int .i64 x10_l3)] w := by
  intro k
  induction k with
  | zero => intro x11_l4 x12_l4 w hS H; exact absurd (show none = some out from H) (by simp)
  | succ k ih =>
    intro x11_l4 x12_l4 w hS H
    unfold colophonlaw14_RmqAll.l4 at H
    refine WL.round ?_
    refine WC.seq (by kernel_rfl) ?_
    refine WC.seq (by kernel_rfl) ?_
    refine WC.reg [0, 1, 2, 3] (by kernel_rfl) (by kernel_rfl) ?_
    refine WR.runk [0, 1, 2, 3] [] [5, 8, 10, 11, 12, 56, 69] (L' := [(5, .slice A5_q30 o28.length c5_q30), (8, .pointer (some ⟨b46, 0, none⟩)), (10, .int .i64 x10_l3), (11, .int .i64 x11_l4), (12, .int .i64 x12_l4), (56, .int .i64 x10_l3), (69, .bool (decide (x12_l4 ≤ (o28.length : Int))))]) (w' := w) (by kernel_rfl) ?_
    refine WR.nil ?_
    refine At.go ?_
    refine WC.cond (by kernel_rfl) (decide (x12_l4 ≤ (o28.length : Int))) (by kernel_rfl) (by kernel_rfl) (fun hb50 => ?_) (fun hb50 => ?_)
    · replace H := ite_t H hb50
      refine WC.skip (by kernel_rfl) ?_
      refine At.go ?_
      refine WC.seq (by kernel_rfl) ?_
      refine WC.block (by kernel_rfl) ?_
      refine WC.seq (by kernel_rfl) ?_
      refine WC.seq (by kernel_rfl) ?_
      refine WC.reg [0, 1, 2, 3, 4, 5] (by kernel_rfl) (by kernel_rfl) ?_
      refine WR.runk [0, 1, 2] [3, 4, 5] [5, 8, 10, 11, 12, 56, 72, 73, 74] (L' := [(5, .slice A5_q30 o28.length c5_q30), (8, .pointer (some ⟨b46, 0, none⟩)), (10, .int .i64 x10_l3), (11, .int .i64 x11_l4), (12, .int .i64 x12_l4), (56, .int .i64 x10_l3), (72, .pointer (some ⟨b46, 0, none⟩)), (73, .int .i64 x10_l3), (74, .int .i64 x12_l4)]) (w' := w) (by kernel_rfl) ?_
      obtain ⟨r51, e52, H⟩ := bind_ex H
      refine WR.st (St.call (by kernel_rfl) (f := 10) (args := #[.pointer (some ⟨b46, 0, none⟩), .int .i64 x10_l3, .int .i64 x12_l4]) (by kernel_rfl) (rmq_Table_Least.calls w (.pointer (some ⟨b46, 0, none⟩)) (some y43) (Sat.rdAny 1 hS rfl (fun _ h => O43.rd _ _ _ h)) x10_l3 x12_l4 r51 e52) ?_)
      rintro _ w58 ⟨rfl, hS59⟩
      have hS : Sat w58 (rf w0) [osl 3 (r0 (.int .i64)) 1 A5_q30 c5_q30 o28, O43 b46 y43] := hS.ext hS59
      refine WR.runk [4, 5] [] [5, 8, 10, 11, 12, 56, 77] (L' := [(5, .slice A5_q30 o28.length c5_q30), (8, .pointer (some ⟨b46, 0, none⟩)), (10, .int .i64 x10_l3), (11, .int .i64 x11_l4), (12, .int .i64 x12_l4), (56, .int .i64 x10_l3), (77, .bool (r51 != x11_l4))]) (w' := w58) (by kernel_rfl) ?_
      refine WR.nil ?_
      refine At.go ?_
      refine WC.cond (by kernel_rfl) (r51 != x11_l4) (by kernel_rfl) (by kernel_rfl) (fun hb60 => ?_) (fun hb60 => ?_)
      · replace H := ite_t H hb60
        refine WC.seq (by kernel_rfl) ?_
        refine WC.reg [0] (by kernel_rfl) (by kernel_rfl) ?_
        refine WR.runk [0] [] [4] (L' := [(4, .bool false)]) (w' := w58) (by kernel_rfl) ?_
        refine WR.nil ?_
        refine At.go ?_
        refine WC.ret (by kernel_rfl) ?_
        refine At.thenRet ?_
        refine At.blockRet ?_
        refine At.thenRet ?_
        refine At.thenRet ?_
        obtain rfl := Option.some.inj H
        have hS : Sat w58 (rf w0) [O43 b46 y43] := hS.sel [1] (by kernel_rfl)
        refine At.weaken [4] (L' := [(4, .bool false)]) (by kernel_rfl) ?_
        exact hn0 false _ rfl hS
      · replace H := ite_f H hb60
        refine WC.skip (by kernel_rfl) ?_
        refine At.go ?_
        refine WC.seq (by kernel_rfl) ?_
        refine WC.drawn (by kernel_rfl) (by kernel_rfl) 19 (by kernel_rfl) (fun w61 hw62 => ?_)
        have hS := hS.heap hw62.1 hw62.2
        refine WD.weaken [5, 8, 10, 11, 12, 56] (L' := [(5, .slice A5_q30 o28.length c5_q30), (8, .pointer (some ⟨b46, 0, none⟩)), (10, .int .i64 x10_l3), (11, .int .i64 x11_l4), (12, .int .i64 x12_l4), (56, .int .i64 x10_l3)]) (by kernel_rfl) ?_
        refine WD.pure (i := 0) (v := .int .i64 x12_l4) (by kernel_rfl) (by kernel_rfl) (fun _ => by kernel_rfl) ?_
        refine WD.weaken [5, 8, 10, 11, 12, 56, 78] (L' := [(5, .slice A5_q30 o28.length c5_q30), (8, .pointer (some ⟨b46, 0, none⟩)), (10, .int .i64 x10_l3), (11, .int .i64 x11_l4), (12, .int .i64 x12_l4), (56, .int .i64 x10_l3), (78, .int .i64 x12_l4)]) (by kernel_rfl) ?_
        refine WD.pure (i := 1) (v := .slice A5_q30 o28.length c5_q30) (by kernel_rfl) (by kernel_rfl) (fun _ => by kernel_rfl) ?_
        refine WD.weaken [5, 8, 10, 11, 12, 56, 78, 79] (L' := [(5, .slice A5_q30 o28.length c5_q30), (8, .pointer (some ⟨b46, 0, none⟩)), (10, .int .i64 x10_l3), (11, .int .i64 x11_l4), (12, .int .i64 x12_l4), (56, .int .i64 x10_l3), (78, .int .i64 x12_l4), (79, .slice A5_q30 o28.length c5_q30)]) (by kernel_rfl) ?_
        refine WD.pure (i := 2) (v := .int .i64 (o28.length : Int)) (by kernel_rfl) (by kernel_rfl) (fun _ => by kernel_rfl) ?_
        refine WD.weaken [5, 8, 10, 11, 12, 56, 78, 80] (L' := [(5, .slice A5_q30 o28.length c5_q30), (8, .pointer (some ⟨b46, 0, none⟩)), (10, .int .i64 x10_l3), (11, .int .i64 x11_l4), (12, .int .i64 x12_l4), (56, .int .i64 x10_l3), (78, .int .i64 x12_l4), (80, .int .i64 (o28.length : Int))]) (by kernel_rfl) ?_
        refine WD.pure (i := 3) (v := .bool (decide (x12_l4 < (o28.length : Int)))) (by kernel_rfl) (by kernel_rfl) (fun _ => by kernel_rfl) ?_
        refine WD.weaken [5, 8, 10, 11, 12, 56, 81] (L' := [(5, .slice A5_q30 o28.length c5_q30), (8, .pointer (some ⟨b46, 0, none⟩)), (10, .int .i64 x10_l3), (11, .int .i64 x11_l4), (12, .int .i64 x12_l4), (56, .int .i64 x10_l3), (81, .bool (decide (x12_l4 < (o28.length : Int))))]) (by kernel_rfl) ?_
        refine WD.pure (i := 4) (v := .bool (decide (x12_l4 < (o28.length : Int)))) (by kernel_rfl) (by kernel_rfl) (fun _ => by kernel_rfl) ?_
        refine WD.weaken [5, 8, 10, 11, 12, 56, 82] (L' := [(5, .slice A5_q30 o28.length c5_q30), (8, .pointer (some ⟨b46, 0, none⟩)), (10, .int .i64 x10_l3), (11, .int .i64 x11_l4), (12, .int .i64 x12_l4), (56, .int .i64 x10_l3), (82, .bool (decide (x12_l4 < (o28.length : Int))))]) (by kernel_rfl) ?_
        refine WD.split 82 (b := decide (x12_l4 < (o28.length : Int))) (by kernel_rfl) (fun hb63 => ?_) (fun hb63 => ?_)
        · replace H := ite_t H hb63
          refine WD.weaken [5, 8, 10, 11, 12, 56, 82] (L' := [(5, .slice A5_q30 o28.length c5_q30), (8, .pointer (some ⟨b46, 0, none⟩)), (10, .int .i64 x10_l3), (11, .int .i64 x11_l4), (12, .int .i64 x12_l4), (56, .int .i64 x10_l3), (82, .bool true)]) (by kernel_rfl) ?_
          refine WD.pure (i := 5) (v := .int .i64 x11_l4) (by kernel_rfl) (by kernel_rfl) (fun _ => by kernel_rfl) ?_
          refine WD.weaken [5, 8, 10, 11, 12, 56, 82, 83] (L' := [(5, .slice A5_q30 o28.length c5_q30), (8, .pointer (some ⟨b46, 0, none⟩)), (10, .int .i64 x10_l3), (11, .int .i64 x11_l4), (12, .int .i64 x12_l4), (56, .int .i64 x10_l3), (82, .bool true), (83, .int .i64 x11_l4)]) (by kernel_rfl) ?_
          refine WD.pure (i := 6) (v := .bool (decide (x11_l4 < 0))) (by kernel_rfl) (by kernel_rfl) (fun _ => by kernel_rfl) ?_
          refine WD.weaken [5, 8, 10, 11, 12, 56, 82, 83, 84] (L' := [(5, .slice A5_q30 o28.length c5_q30), (8, .pointer (some ⟨b46, 0, none⟩)), (10, .int .i64 x10_l3), (11, .int .i64 x11_l4), (12, .int .i64 x12_l4), (56, .int .i64 x10_l3), (82, .bool true), (83, .int .i64 x11_l4), (84, .bool (decide (x11_l4 < 0)))]) (by kernel_rfl) ?_
          refine WD.pure (i := 7) (v := .bool (decide (x11_l4 < 0))) (by kernel_rfl) (by kernel_rfl) (fun _ => by kernel_rfl) ?_
          refine WD.weaken [5, 8, 10, 11, 12, 56, 82, 83, 84, 85] (L' := [(5, .slice A5_q30 o28.length c5_q30), (8, .pointer (some ⟨b46, 0, none⟩)), (10, .int .i64 x10_l3), (11, .int .i64 x11_l4), (12, .int .i64 x12_l4), (56, .int .i64 x10_l3), (82, .bool true), (83, .int .i64 x11_l4), (84, .bool (decide (x11_l4 < 0))), (85, .bool (decide (x11_l4 < 0)))]) (by kernel_rfl) ?_
          refine WD.split 85 (b := decide (x11_l4 < 0)) (by kernel_rfl) (fun hb64 => ?_) (fun hb64 => ?_)
          · replace H := ite_t H hb64
            refine WD.weaken [5, 8, 10, 11, 12, 56, 82, 83, 84, 85] (L' := [(5, .slice A5_q30 o28.length c5_q30), (8, .pointer (some ⟨b46, 0, none⟩)), (10, .int .i64 x10_l3), (11, .int .i64 x11_l4), (12, .int .i64 x12_l4), (56, .int .i64 x10_l3), (82, .bool true), (83, .int .i64 x11_l4), (84, .bool (decide (x11_l4 < 0))), (85, .bool true)]) (by kernel_rfl) ?_
            refine WD.skip (i := 8) (by kernel_rfl) (by kernel_rfl) ?_
            refine WD.weaken [5, 8, 10, 11, 12, 56, 82, 83, 84, 85, 86] (L' := [(5, .slice A5_q30 o28.length c5_q30), (8, .pointer (some ⟨b46, 0, none⟩)), (10, .int .i64 x10_l3), (11, .int .i64 x11_l4), (12, .int .i64 x12_l4), (56, .int .i64 x10_l3), (82, .bool true), (83, .int .i64 x11_l4), (84, .bool (decide (x11_l4 < 0))), (85, .bool true), (86, undef)]) (by kernel_rfl) ?_
            refine WD.skip (i := 9) (by kernel_rfl) (by kernel_rfl) ?_
            refine WD.weaken [5, 8, 10, 11, 12, 56, 82, 83, 84, 85, 86, 87] (L' := [(5, .slice A5_q30 o28.length c5_q30), (8, .pointer (some ⟨b46, 0, none⟩)), (10, .int .i64 x10_l3), (11, .int .i64 x11_l4), (12, .int .i64 x12_l4), (56, .int .i64 x10_l3), (82, .bool true), (83, .int .i64 x11_l4), (84, .bool (decide (x11_l4 < 0))), (85, .bool true), (86, undef), (87, undef)]) (by kernel_rfl) ?_
            refine WD.skip (i := 10) (by kernel_rfl) (by kernel_rfl) ?_
            refine WD.weaken [5, 8, 10, 11, 12, 56, 82, 83, 84, 85, 86, 87, 88] (L' := [(5, .slice A5_q30 o28.length c5_q30), (8, .pointer (some ⟨b46, 0, none⟩)), (10, .int .i64 x10_l3), (11, .int .i64 x11_l4), (12, .int .i64 x12_l4), (56, .int .i64 x10_l3), (82, .bool true), (83, .int .i64 x11_l4), (84, .bool (decide (x11_l4 < 0))), (85, .bool true), (86, undef), (87, undef), (88, undef)]) (by kernel_rfl) ?_
            refine WD.skip (i := 11) (by kernel_rfl) (by kernel_rfl) ?_
            refine WD.weaken [5, 8, 10, 11, 12, 56, 82, 83, 84, 85, 86, 87, 88, 89] (L' := [(5, .slice A5_q30 o28.length c5_q30), (8, .pointer (some ⟨b46, 0, none⟩)), (10, .int .i64 x10_l3), (11, .int .i64 x11_l4), (12, .int .i64 x12_l4), (56, .int .i64 x10_l3), (82, .bool true), (83, .int .i64 x11_l4), (84, .bool (decide (x11_l4 < 0))), (85, .bool true), (86, undef), (87, undef), (88, undef), (89, undef)]) (by kernel_rfl) ?_
            refine WD.skip (i := 12) (by kernel_rfl) (by kernel_rfl) ?_
            refine WD.weaken [5, 8, 10, 11, 12, 56, 82, 83, 84, 85, 86, 87, 88, 89, 90] (L' := [(5, .slice A5_q30 o28.length c5_q30), (8, .pointer (some ⟨b46, 0, none⟩)), (10, .int .i64 x10_l3), (11, .int .i64 x11_l4), (12, .int .i64 x12_l4), (56, .int .i64 x10_l3), (82, .bool true), (83, .int .i64 x11_l4), (84, .bool (decide (x11_l4 < 0))), (85, .bool true), (86, undef), (87, undef), (88, undef), (89, undef), (90, undef)]) (by kernel_rfl) ?_
            refine WD.skip (i := 13) (by kernel_rfl) (by kernel_rfl) ?_
            refine WD.weaken [5, 8, 10, 11, 12, 56, 82, 83, 84, 85, 86, 87, 88, 89, 90, 91] (L' := [(5, .slice A5_q30 o28.length c5_q30), (8, .pointer (some ⟨b46, 0, none⟩)), (10, .int .i64 x10_l3), (11, .int .i64 x11_l4), (12, .int .i64 x12_l4), (56, .int .i64 x10_l3), (82, .bool true), (83, .int .i64 x11_l4), (84, .bool (decide (x11_l4 < 0))), (85, .bool true), (86, undef), (87, undef), (88, undef), (89, undef), (90, undef), (91, undef)]) (by kernel_rfl) ?_
            refine WD.skip (i := 14) (by kernel_rfl) (by kernel_rfl) ?_
            refine WD.weaken [5, 8, 10, 11, 12, 56, 82, 83, 84, 85, 86, 87, 88, 89, 90, 91, 92] (L' := [(5, .slice A5_q30 o28.length c5_q30), (8, .pointer (some ⟨b46, 0, none⟩)), (10, .int .i64 x10_l3), (11, .int .i64 x11_l4), (12, .int .i64 x12_l4), (56, .int .i64 x10_l3), (82, .bool true), (83, .int .i64 x11_l4), (84, .bool (decide (x11_l4 < 0))), (85, .bool true), (86, undef), (87, undef), (88, undef), (89, undef), (90, undef), (91, undef), (92, undef)]) (by kernel_rfl) ?_
            refine WD.skip (i := 15) (by kernel_rfl) (by kernel_rfl) ?_
            refine WD.weaken [5, 8, 10, 11, 12, 56, 82, 83, 84, 85, 86, 87, 88, 89, 90, 91, 92, 93] (L' := [(5, .slice A5_q30 o28.length c5_q30), (8, .pointer (some ⟨b46, 0, none⟩)), (10, .int .i64 x10_l3), (11, .int .i64 x11_l4), (12, .int .i64 x12_l4), (56, .int .i64 x10_l3), (82, .bool true), (83, .int .i64 x11_l4), (84, .bool (decide (x11_l4 < 0))), (85, .bool true), (86, undef), (87, undef), (88, undef), (89, undef), (90, undef), (91, undef), (92, undef), (93, undef)]) (by kernel_rfl) ?_
            refine WD.skip (i := 16) (by kernel_rfl) (by kernel_rfl) ?_
            refine WD.weaken [5, 8, 10, 11, 12, 56, 82, 83, 84, 85, 86, 87, 88, 89, 90, 91, 92, 93, 94] (L' := [(5, .slice A5_q30 o28.length c5_q30), (8, .pointer (some ⟨b46, 0, none⟩)), (10, .int .i64 x10_l3), (11, .int .i64 x11_l4), (12, .int .i64 x12_l4), (56, .int .i64 x10_l3), (82, .bool true), (83, .int .i64 x11_l4), (84, .bool (decide (x11_l4 < 0))), (85, .bool true), (86, undef), (87, undef), (88, undef), (89, undef), (90, undef), (91, undef), (92, undef), (93, undef), (94, undef)]) (by kernel_rfl) ?_
            refine WD.pure (i := 17) (v := .bool true) (by kernel_rfl) (by kernel_rfl) (fun _ => by kernel_rfl) ?_
            refine WD.weaken [5, 8, 10, 11, 12, 56, 82, 83, 84, 85, 86, 87, 88, 89, 90, 91, 92, 93, 94, 95] (L' := [(5, .slice A5_q30 o28.length c5_q30), (8, .pointer (some ⟨b46, 0, none⟩)), (10, .int .i64 x10_l3), (11, .int .i64 x11_l4), (12, .int .i64 x12_l4), (56, .int .i64 x10_l3), (82, .bool true), (83, .int .i64 x11_l4), (84, .bool (decide (x11_l4 < 0))), (85, .bool true), (86, undef), (87, undef), (88, undef), (89, undef), (90, undef), (91, undef), (92, undef), (93, undef), (94, undef), (95, .bool true)]) (by kernel_rfl) ?_
            refine WD.pure (i := 18) (v := .bool true) (by kernel_rfl) (by kernel_rfl) (fun _ => by kernel_rfl) ?_
            refine WD.weaken [5, 8, 10, 11, 12, 56, 83, 84, 85, 86, 87, 88, 89, 90, 91, 92, 93, 94, 95, 96] (L' := [(5, .slice A5_q30 o28.length c5_q30), (8, .pointer (some ⟨b46, 0, none⟩)), (10, .int .i64 x10_l3), (11, .int .i64 x11_l4), (12, .int .i64 x12_l4), (56, .int .i64 x10_l3), (83, .int .i64 x11_l4), (84, .bool (decide (x11_l4 < 0))), (85, .bool true), (86, undef), (87, undef), (88, undef), (89, undef), (90, undef), (91, undef), (92, undef), (93, undef), (94, undef), (95, .bool true), (96, .bool true)]) (by kernel_rfl) ?_
            refine WD.nil (by kernel_rfl) ?_
            refine At.go ?_
            refine WC.condT (by kernel_rfl) (by kernel_rfl) (by kernel_rfl) ?_
            refine WC.reg [0, 1] (by kernel_rfl) (by kernel_rfl) ?_
            refine WR.runk [0, 1] [] [5, 8, 10, 11, 12, 56, 83, 84, 85, 86, 87, 88, 89, 90, 91, 92, 93, 94, 95] (L' := [(5, .slice A5_q30 o28.length c5_q30), (8, .pointer (some ⟨b46, 0, none⟩)), (10, .int .i64 x10_l3), (11, .int .i64 x12_l4), (12, .int .i64 x12_l4), (56, .int .i64 x10_l3), (83, .int .i64 x11_l4), (84, .bool (decide (x11_l4 < 0))), (85, .bool true), (86, undef), (87, undef), (88, undef), (89, undef), (90, undef), (91, undef), (92, undef), (93, undef), (94, undef), (95, .bool true)]) (w' := w61) (by kernel_rfl) ?_
            refine WR.nil ?_
            refine At.blockNormal ?_
            refine At.go ?_
            refine WC.reg [0, 1, 2] (by kernel_rfl) (by kernel_rfl) ?_
            refine WR.runk [0, 1, 2] [] [5, 8, 10, 11, 12, 56, 83, 84, 85, 86, 87, 88, 89, 90, 91, 92, 93, 94, 95] (L' := [(5, .slice A5_q30 o28.length c5_q30), (8, .pointer (some ⟨b46, 0, none⟩)), (10, .int .i64 x10_l3), (11, .int .i64 x12_l4), (12, .int .i64 (wi (x12_l4 + 1))), (56, .int .i64 x10_l3), (83, .int .i64 x11_l4), (84, .bool (decide (x11_l4 < 0))), (85, .bool true), (86, undef), (87, undef), (88, undef), (89, undef), (90, undef), (91, undef), (92, undef), (93, undef), (94, undef), (95, .bool true)]) (w' := w61) (by kernel_rfl) ?_
            refine WR.nil ?_
            have hS : Sat w61 (rf w0) [osl 3 (r0 (.int .i64)) 1 A5_q30 c5_q30 o28, O43 b46 y43] := hS.sel [0, 1] (by kernel_rfl)
            refine At.again ?_
            refine WL.weaken [5, 8, 10, 11, 12, 56] (L' := [(5, .slice A5_q30 o28.length c5_q30), (8, .pointer (some ⟨b46, 0, none⟩)), (10, .int .i64 x10_l3), (11, .int .i64 x12_l4), (12, .int .i64 (wi (x12_l4 + 1))), (56, .int .i64 x10_l3)]) (by kernel_rfl) ?_
            exact ih x12_l4 (wi (x12_l4 + 1)) _ hS H
          · replace H := ite_f H hb64
            refine WD.weaken [5, 8, 10, 11, 12, 56, 82, 83, 84, 85] (L' := [(5, .slice A5_q30 o28.length c5_q30), (8, .pointer (some ⟨b46, 0, none⟩)), (10, .int .i64 x10_l3), (11, .int .i64 x11_l4), (12, .int .i64 x12_l4), (56, .int .i64 x10_l3), (82, .bool true), (83, .int .i64 x11_l4), (84, .bool (decide (x11_l4 < 0))), (85, .bool false)]) (by kernel_rfl) ?_
            refine WD.pure (i := 8) (v := .slice A5_q30 o28.length c5_q30) (by kernel_rfl) (by kernel_rfl) (fun _ => by kernel_rfl) ?_
            refine WD.weaken [5, 8, 10, 11, 12, 56, 82, 83, 84, 85, 86] (L' := [(5, .slice A5_q30 o28.length c5_q30), (8, .pointer (some ⟨b46, 0, none⟩)), (10, .int .i64 x10_l3), (11, .int .i64 x11_l4), (12, .int .i64 x12_l4), (56, .int .i64 x10_l3), (82, .bool true), (83, .int .i64 x11_l4), (84, .bool (decide (x11_l4 < 0))), (85, .bool false), (86, .slice A5_q30 o28.length c5_q30)]) (by kernel_rfl) ?_
            refine WD.pure (i := 9) (v := .int .i64 x12_l4) (by kernel_rfl) (by kernel_rfl) (fun _ => by kernel_rfl) ?_
            refine WD.weaken [5, 8, 10, 11, 12, 56, 82, 83, 84, 85, 86, 87] (L' := [(5, .slice A5_q30 o28.length c5_q30), (8, .pointer (some ⟨b46, 0, none⟩)), (10, .int .i64 x10_l3), (11, .int .i64 x11_l4), (12, .int .i64 x12_l4), (56, .int .i64 x10_l3), (82, .bool true), (83, .int .i64 x11_l4), (84, .bool (decide (x11_l4 < 0))), (85, .bool false), (86, .slice A5_q30 o28.length c5_q30), (87, .int .i64 x12_l4)]) (by kernel_rfl) ?_
            obtain ⟨v65, e66, H⟩ := bind_ex H
            refine WD.ofP (i := 10) (by kernel_rfl) (PSt.idx (k := .i64) (.tmp 86) (.tmp 87) (by kernel_rfl) (by kernel_rfl) E22 (by kernel_rfl) (by kernel_rfl) (Sat.rdAt 0 hS rfl) e66 ?_)
            refine WD.weaken [5, 8, 10, 11, 12, 56, 82, 83, 84, 85, 86, 87, 88] (L' := [(5, .slice A5_q30 o28.length c5_q30), (8, .pointer (some ⟨b46, 0, none⟩)), (10, .int .i64 x10_l3), (11, .int .i64 x11_l4), (12, .int .i64 x12_l4), (56, .int .i64 x10_l3), (82, .bool true), (83, .int .i64 x11_l4), (84, .bool (decide (x11_l4 < 0))), (85, .bool false), (86, .slice A5_q30 o28.length c5_q30), (87, .int .i64 x12_l4), (88, .pointer (some (adr A5_q30 x12_l4.toNat 1)))]) (by kernel_rfl) ?_
            refine WD.ofR (i := 11) (by kernel_rfl) (RSt.loadInt (t := 3) (.tmp 88) (by kernel_rfl) (by kernel_rfl) (by kernel_rfl) (by kernel_rfl) (Sat.rdAt 0 hS rfl) e66 ?_)
            refine WD.weaken [5, 8, 10, 11, 12, 56, 82, 83, 84, 85, 86, 87, 88, 89] (L' := [(5, .slice A5_q30 o28.length c5_q30), (8, .pointer (some ⟨b46, 0, none⟩)), (10, .int .i64 x10_l3), (11, .int .i64 x11_l4), (12, .int .i64 x12_l4), (56, .int .i64 x10_l3), (82, .bool true), (83, .int .i64 x11_l4), (84, .bool (decide (x11_l4 < 0))), (85, .bool false), (86, .slice A5_q30 o28.length c5_q30), (87, .int .i64 x12_l4), (88, .pointer (some (adr A5_q30 x12_l4.toNat 1))), (89, .int .i64 v65)]) (by kernel_rfl) ?_
            refine WD.pure (i := 12) (v := .slice A5_q30 o28.length c5_q30) (by kernel_rfl) (by kernel_rfl) (fun _ => by kernel_rfl) ?_
            refine WD.weaken [5, 8, 10, 11, 12, 56, 82, 83, 84, 85, 86, 87, 88, 89, 90] (L' := [(5, .slice A5_q30 o28.length c5_q30), (8, .pointer (some ⟨b46, 0, none⟩)), (10, .int .i64 x10_l3), (11, .int .i64 x11_l4), (12, .int .i64 x12_l4), (56, .int .i64 x10_l3), (82, .bool true), (83, .int .i64 x11_l4), (84, .bool (decide (x11_l4 < 0))), (85, .bool false), (86, .slice A5_q30 o28.length c5_q30), (87, .int .i64 x12_l4), (88, .pointer (some (adr A5_q30 x12_l4.toNat 1))), (89, .int .i64 v65), (90, .slice A5_q30 o28.length c5_q30)]) (by kernel_rfl) ?_
            refine WD.pure (i := 13) (v := .int .i64 x11_l4) (by kernel_rfl) (by kernel_rfl) (fun _ => by kernel_rfl) ?_
            refine WD.weaken [5, 8, 10, 11, 12, 56, 82, 83, 84, 85, 86, 87, 88, 89, 90, 91] (L' := [(5, .slice A5_q30 o28.length c5_q30), (8, .pointer (some ⟨b46, 0, none⟩)), (10, .int .i64 x10_l3), (11, .int .i64 x11_l4), (12, .int .i64 x12_l4), (56, .int .i64 x10_l3), (82, .bool true), (83, .int .i64 x11_l4), (84, .bool (decide (x11_l4 < 0))), (85, .bool false), (86, .slice A5_q30 o28.length c5_q30), (87, .int .i64 x12_l4), (88, .pointer (some (adr A5_q30 x12_l4.toNat 1))), (89, .int .i64 v65), (90, .slice A5_q30 o28.length c5_q30), (91, .int .i64 x11_l4)]) (by kernel_rfl) ?_
            obtain ⟨v67, e68, H⟩ := bind_ex H
            refine WD.ofP (i := 14) (by kernel_rfl) (PSt.idx (k := .i64) (.tmp 90) (.tmp 91) (by kernel_rfl) (by kernel_rfl) E22 (by kernel_rfl) (by kernel_rfl) (Sat.rdAt 0 hS rfl) e68 ?_)
            refine WD.weaken [5, 8, 10, 11, 12, 56, 82, 83, 84, 85, 86, 87, 88, 89, 90, 91, 92] (L' := [(5, .slice A5_q30 o28.length c5_q30), (8, .pointer (some ⟨b46, 0, none⟩)), (10, .int .i64 x10_l3), (11, .int .i64 x11_l4), (12, .int .i64 x12_l4), (56, .int .i64 x10_l3), (82, .bool true), (83, .int .i64 x11_l4), (84, .bool (decide (x11_l4 < 0))), (85, .bool false), (86, .slice A5_q30 o28.length c5_q30), (87, .int .i64 x12_l4), (88, .pointer (some (adr A5_q30 x12_l4.toNat 1))), (89, .int .i64 v65), (90, .slice A5_q30 o28.length c5_q30), (91, .int .i64 x11_l4), (92, .pointer (some (adr A5_q30 x11_l4.toNat 1)))]) (by kernel_rfl) ?_
            refine WD.ofR (i := 15) (by kernel_rfl) (RSt.loadInt (t := 3) (.tmp 92) (by kernel_rfl) (by kernel_rfl) (by kernel_rfl) (by kernel_rfl) (Sat.rdAt 0 hS rfl) e68 ?_)
            refine WD.weaken [5, 8, 10, 11, 12, 56, 82, 83, 84, 85, 86, 87, 88, 89, 90, 91, 92, 93] (L' := [(5, .slice A5_q30 o28.length c5_q30), (8, .pointer (some ⟨b46, 0, none⟩)), (10, .int .i64 x10_l3), (11, .int .i64 x11_l4), (12, .int .i64 x12_l4), (56, .int .i64 x10_l3), (82, .bool true), (83, .int .i64 x11_l4), (84, .bool (decide (x11_l4 < 0))), (85, .bool false), (86, .slice A5_q30 o28.length c5_q30), (87, .int .i64 x12_l4), (88, .pointer (some (adr A5_q30 x12_l4.toNat 1))), (89, .int .i64 v65), (90, .slice A5_q30 o28.length c5_q30), (91, .int .i64 x11_l4), (92, .pointer (some (adr A5_q30 x11_l4.toNat 1))), (93, .int .i64 v67)]) (by kernel_rfl) ?_
            refine WD.pure (i := 16) (v := .bool (decide (v65 < v67))) (by kernel_rfl) (by kernel_rfl) (fun _ => by kernel_rfl) ?_
            refine WD.weaken [5, 8, 10, 11, 12, 56, 82, 83, 84, 85, 86, 87, 88, 89, 90, 91, 92, 93, 94] (L' := [(5, .slice A5_q30 o28.length c5_q30), (8, .pointer (some ⟨b46, 0, none⟩)), (10, .int .i64 x10_l3), (11, .int .i64 x11_l4), (12, .int .i64 x12_l4), (56, .int .i64 x10_l3), (82, .bool true), (83, .int .i64 x11_l4), (84, .bool (decide (x11_l4 < 0))), (85, .bool false), (86, .slice A5_q30 o28.length c5_q30), (87, .int .i64 x12_l4), (88, .pointer (some (adr A5_q30 x12_l4.toNat 1))), (89, .int .i64 v65), (90, .slice A5_q30 o28.length c5_q30), (91, .int .i64 x11_l4), (92, .pointer (some (adr A5_q30 x11_l4.toNat 1))), (93, .int .i64 v67), (94, .bool (decide (v65 < v67)))]) (by kernel_rfl) ?_
            refine WD.pure (i := 17) (v := .bool (decide (v65 < v67))) (by kernel_rfl) (by kernel_rfl) (fun _ => by kernel_rfl) ?_
            refine WD.weaken [5, 8, 10, 11, 12, 56, 82, 83, 84, 85, 86, 87, 88, 89, 90, 91, 92, 93, 94, 95] (L' := [(5, .slice A5_q30 o28.length c5_q30), (8, .pointer (some ⟨b46, 0, none⟩)), (10, .int .i64 x10_l3), (11, .int .i64 x11_l4), (12, .int .i64 x12_l4), (56, .int .i64 x10_l3), (82, .bool true), (83, .int .i64 x11_l4), (84, .bool (decide (x11_l4 < 0))), (85, .bool false), (86, .slice A5_q30 o28.length c5_q30), (87, .int .i64 x12_l4), (88, .pointer (some (adr A5_q30 x12_l4.toNat 1))), (89, .int .i64 v65), (90, .slice A5_q30 o28.length c5_q30), (91, .int .i64 x11_l4), (92, .pointer (some (adr A5_q30 x11_l4.toNat 1))), (93, .int .i64 v67), (94, .bool (decide (v65 < v67))), (95, .bool (decide (v65 < v67)))]) (by kernel_rfl) ?_
            refine WD.pure (i := 18) (v := .bool (decide (v65 < v67))) (by kernel_rfl) (by kernel_rfl) (fun _ => by kernel_rfl) ?_
            refine WD.weaken [5, 8, 10, 11, 12, 56, 83, 84, 85, 86, 87, 88, 89, 90, 91, 92, 93, 94, 95, 96] (L' := [(5, .slice A5_q30 o28.length c5_q30), (8, .pointer (some ⟨b46, 0, none⟩)), (10, .int .i64 x10_l3), (11, .int .i64 x11_l4), (12, .int .i64 x12_l4), (56, .int .i64 x10_l3), (83, .int .i64 x11_l4), (84, .bool (decide (x11_l4 < 0))), (85, .bool false), (86, .slice A5_q30 o28.length c5_q30), (87, .int .i64 x12_l4), (88, .pointer (some (adr A5_q30 x12_l4.toNat 1))), (89, .int .i64 v65), (90, .slice A5_q30 o28.length c5_q30), (91, .int .i64 x11_l4), (92, .pointer (some (adr A5_q30 x11_l4.toNat 1))), (93, .int .i64 v67), (94, .bool (decide (v65 < v67))), (95, .bool (decide (v65 < v67))), (96, .bool (decide (v65 < v67)))]) (by kernel_rfl) ?_
            refine WD.nil (by kernel_rfl) ?_
            refine At.go ?_
            refine WC.cond (by kernel_rfl) (decide (v65 < v67)) (by kernel_rfl) (by kernel_rfl) (fun hb69 => ?_) (fun hb69 => ?_)
            · replace H := ite_t H hb69
              refine WC.reg [0, 1] (by kernel_rfl) (by kernel_rfl) ?_
              refine WR.runk [0, 1] [] [5, 8, 10, 11, 12, 56, 83, 84, 85, 86, 87, 88, 89, 90, 91, 92, 93] (L' := [(5, .slice A5_q30 o28.length c5_q30), (8, .pointer (some ⟨b46, 0, none⟩)), (10, .int .i64 x10_l3), (11, .int .i64 x12_l4), (12, .int .i64 x12_l4), (56, .int .i64 x10_l3), (83, .int .i64 x11_l4), (84, .bool (decide (x11_l4 < 0))), (85, .bool false), (86, .slice A5_q30 o28.length c5_q30), (87, .int .i64 x12_l4), (88, .pointer (some (adr A5_q30 x12_l4.toNat 1))), (89, .int .i64 v65), (90, .slice A5_q30 o28.length c5_q30), (91, .int .i64 x11_l4), (92, .pointer (some (adr A5_q30 x11_l4.toNat 1))), (93, .int .i64 v67)]) (w' := w61) (by kernel_rfl) ?_
              refine WR.nil ?_
              refine At.blockNormal ?_
              refine At.go ?_
              refine WC.reg [0, 1, 2] (by kernel_rfl) (by kernel_rfl) ?_
              refine WR.runk [0, 1, 2] [] [5, 8, 10, 11, 12, 56, 83, 84, 85, 86, 87, 88, 89, 90, 91, 92, 93] (L' := [(5, .slice A5_q30 o28.length c5_q30), (8, .pointer (some ⟨b46, 0, none⟩)), (10, .int .i64 x10_l3), (11, .int .i64 x12_l4), (12, .int .i64 (wi (x12_l4 + 1))), (56, .int .i64 x10_l3), (83, .int .i64 x11_l4), (84, .bool (decide (x11_l4 < 0))), (85, .bool false), (86, .slice A5_q30 o28.length c5_q30), (87, .int .i64 x12_l4), (88, .pointer (some (adr A5_q30 x12_l4.toNat 1))), (89, .int .i64 v65), (90, .slice A5_q30 o28.length c5_q30), (91, .int .i64 x11_l4), (92, .pointer (some (adr A5_q30 x11_l4.toNat 1))), (93, .int .i64 v67)]) (w' := w61) (by kernel_rfl) ?_
              refine WR.nil ?_
              have hS : Sat w61 (rf w0) [osl 3 (r0 (.int .i64)) 1 A5_q30 c5_q30 o28, O43 b46 y43] := hS.sel [0, 1] (by kernel_rfl)
              refine At.again ?_
              refine WL.weaken [5, 8, 10, 11, 12, 56] (L' := [(5, .slice A5_q30 o28.length c5_q30), (8, .pointer (some ⟨b46, 0, none⟩)), (10, .int .i64 x10_l3), (11, .int .i64 x12_l4), (12, .int .i64 (wi (x12_l4 + 1))), (56, .int .i64 x10_l3)]) (by kernel_rfl) ?_
              exact ih x12_l4 (wi (x12_l4 + 1)) _ hS H
            · replace H := ite_f H hb69
              refine WC.skip (by kernel_rfl) ?_
              refine At.blockNormal ?_
              refine At.go ?_
              refine WC.reg [0, 1, 2] (by kernel_rfl) (by kernel_rfl) ?_
              refine WR.runk [0, 1, 2] [] [5, 8, 10, 11, 12, 56, 83, 84, 85, 86, 87, 88, 89, 90, 91, 92, 93] (L' := [(5, .slice A5_q30 o28.length c5_q30), (8, .pointer (some ⟨b46, 0, none⟩)), (10, .int .i64 x10_l3), (11, .int .i64 x11_l4), (12, .int .i64 (wi (x12_l4 + 1))), (56, .int .i64 x10_l3), (83, .int .i64 x11_l4), (84, .bool (decide (x11_l4 < 0))), (85, .bool false), (86, .slice A5_q30 o28.length c5_q30), (87, .int .i64 x12_l4), (88, .pointer (some (adr A5_q30 x12_l4.toNat 1))), (89, .int .i64 v65), (90, .slice A5_q30 o28.length c5_q30), (91, .int .i64 x11_l4), (92, .pointer (some (adr A5_q30 x11_l4.toNat 1))), (93, .int .i64 v67)]) (w' := w61) (by kernel_rfl) ?_
              refine WR.nil ?_
              have hS : Sat w61 (rf w0) [osl 3 (r0 (.int .i64)) 1 A5_q30 c5_q30 o28, O43 b46 y43] := hS.sel [0, 1] (by kernel_rfl)
              refine At.again ?_
              refine WL.weaken [5, 8, 10, 11, 12, 56] (L' := [(5, .slice A5_q30 o28.length c5_q30), (8, .pointer (some ⟨b46, 0, none⟩)), (10, .int .i64 x10_l3), (11, .int .i64 x11_l4), (12, .int .i64 (wi (x12_l4 + 1))), (56, .int .i64 x10_l3)]) (by kernel_rfl) ?_
              exact ih x11_l4 (wi (x12_l4 + 1)) _ hS H
        · replace H := ite_f H hb63
          refine WD.weaken [5, 8, 10, 11, 12, 56, 82] (L' := [(5, .slice A5_q30 o28.length c5_q30), (8, .pointer (some ⟨b46, 0, none⟩)), (10, .int .i64 x10_l3), (11, .int .i64 x11_l4), (12, .int .i64 x12_l4), (56, .int .i64 x10_l3), (82, .bool false)]) (by kernel_rfl) ?_
          refine WD.skip (i := 5) (by kernel_rfl) (by kernel_rfl) ?_
          refine WD.weaken [5, 8, 10, 11, 12, 56, 82, 83] (L' := [(5, .slice A5_q30 o28.length c5_q30), (8, .pointer (some ⟨b46, 0, none⟩)), (10, .int .i64 x10_l3), (11, .int .i64 x11_l4), (12, .int .i64 x12_l4), (56, .int .i64 x10_l3), (82, .bool false), (83, undef)]) (by kernel_rfl) ?_
          refine WD.skip (i := 6) (by kernel_rfl) (by kernel_rfl) ?_
          refine WD.weaken [5, 8, 10, 11, 12, 56, 82, 83, 84] (L' := [(5, .slice A5_q30 o28.length c5_q30), (8, .pointer (some ⟨b46, 0, none⟩)), (10, .int .i64 x10_l3), (11, .int .i64 x11_l4), (12, .int .i64 x12_l4), (56, .int .i64 x10_l3), (82, .bool false), (83, undef), (84, undef)]) (by kernel_rfl) ?_
          refine WD.skip (i := 7) (by kernel_rfl) (by kernel_rfl) ?_
          refine WD.weaken [5, 8, 10, 11, 12, 56, 82, 83, 84, 85] (L' := [(5, .slice A5_q30 o28.length c5_q30), (8, .pointer (some ⟨b46, 0, none⟩)), (10, .int .i64 x10_l3), (11, .int .i64 x11_l4), (12, .int .i64 x12_l4), (56, .int .i64 x10_l3), (82, .bool false), (83, undef), (84, undef), (85, undef)]) (by kernel_rfl) ?_
          refine WD.skip (i := 8) (by kernel_rfl) (by kernel_rfl) ?_
          refine WD.weaken [5, 8, 10, 11, 12, 56, 82, 83, 84, 85, 86] (L' := [(5, .slice A5_q30 o28.length c5_q30), (8, .pointer (some ⟨b46, 0, none⟩)), (10, .int .i64 x10_l3), (11, .int .i64 x11_l4), (12, .int .i64 x12_l4), (56, .int .i64 x10_l3), (82, .bool false), (83, undef), (84, undef), (85, undef), (86, undef)]) (by kernel_rfl) ?_
          refine WD.skip (i := 9) (by kernel_rfl) (by kernel_rfl) ?_
          refine WD.weaken [5, 8, 10, 11, 12, 56, 82, 83, 84, 85, 86, 87] (L' := [(5, .slice A5_q30 o28.length c5_q30), (8, .pointer (some ⟨b46, 0, none⟩)), (10, .int .i64 x10_l3), (11, .int .i64 x11_l4), (12, .int .i64 x12_l4), (56, .int .i64 x10_l3), (82, .bool false), (83, undef), (84, undef), (85, undef), (86, undef), (87, undef)]) (by kernel_rfl) ?_
          refine WD.skip (i := 10) (by kernel_rfl) (by kernel_rfl) ?_
          refine WD.weaken [5, 8, 10, 11, 12, 56, 82, 83, 84, 85, 86, 87, 88] (L' := [(5, .slice A5_q30 o28.length c5_q30), (8, .pointer (some ⟨b46, 0, none⟩)), (10, .int .i64 x10_l3), (11, .int .i64 x11_l4), (12, .int .i64 x12_l4), (56, .int .i64 x10_l3), (82, .bool false), (83, undef), (84, undef), (85, undef), (86, undef), (87, undef), (88, undef)]) (by kernel_rfl) ?_
          refine WD.skip (i := 11) (by kernel_rfl) (by kernel_rfl) ?_
          refine WD.weaken [5, 8, 10, 11, 12, 56, 82, 83, 84, 85, 86, 87, 88, 89] (L' := [(5, .slice A5_q30 o28.length c5_q30), (8, .pointer (some ⟨b46, 0, none⟩)), (10, .int .i64 x10_l3), (11, .int .i64 x11_l4), (12, .int .i64 x12_l4), (56, .int .i64 x10_l3), (82, .bool false), (83, undef), (84, undef), (85, undef), (86, undef), (87, undef), (88, undef), (89, undef)]) (by kernel_rfl) ?_
          refine WD.skip (i := 12) (by kernel_rfl) (by kernel_rfl) ?_
          refine WD.weaken [5, 8, 10, 11, 12, 56, 82, 83, 84, 85, 86, 87, 88, 89, 90] (L' := [(5, .slice A5_q30 o28.length c5_q30), (8, .pointer (some ⟨b46, 0, none⟩)), (10, .int .i64 x10_l3), (11, .int .i64 x11_l4), (12, .int .i64 x12_l4), (56, .int .i64 x10_l3), (82, .bool false), (83, undef), (84, undef), (85, undef), (86, undef), (87, undef), (88, undef), (89, undef), (90, undef)]) (by kernel_rfl) ?_
          refine WD.skip (i := 13) (by kernel_rfl) (by kernel_rfl) ?_
          refine WD.weaken [5, 8, 10, 11, 12, 56, 82, 83, 84, 85, 86, 87, 88, 89, 90, 91] (L' := [(5, .slice A5_q30 o28.length c5_q30), (8, .pointer (some ⟨b46, 0, none⟩)), (10, .int .i64 x10_l3), (11, .int .i64 x11_l4), (12, .int .i64 x12_l4), (56, .int .i64 x10_l3), (82, .bool false), (83, undef), (84, undef), (85, undef), (86, undef), (87, undef), (88, undef), (89, undef), (90, undef), (91, undef)]) (by kernel_rfl) ?_
          refine WD.skip (i := 14) (by kernel_rfl) (by kernel_rfl) ?_
          refine WD.weaken [5, 8, 10, 11, 12, 56, 82, 83, 84, 85, 86, 87, 88, 89, 90, 91, 92] (L' := [(5, .slice A5_q30 o28.length c5_q30), (8, .pointer (some ⟨b46, 0, none⟩)), (10, .int .i64 x10_l3), (11, .int .i64 x11_l4), (12, .int .i64 x12_l4), (56, .int .i64 x10_l3), (82, .bool false), (83, undef), (84, undef), (85, undef), (86, undef), (87, undef), (88, undef), (89, undef), (90, undef), (91, undef), (92, undef)]) (by kernel_rfl) ?_
          refine WD.skip (i := 15) (by kernel_rfl) (by kernel_rfl) ?_
          refine WD.weaken [5, 8, 10, 11, 12, 56, 82, 83, 84, 85, 86, 87, 88, 89, 90, 91, 92, 93] (L' := [(5, .slice A5_q30 o28.length c5_q30), (8, .pointer (some ⟨b46, 0, none⟩)), (10, .int .i64 x10_l3), (11, .int .i64 x11_l4), (12, .int .i64 x12_l4), (56, .int .i64 x10_l3), (82, .bool false), (83, undef), (84, undef), (85, undef), (86, undef), (87, undef), (88, undef), (89, undef), (90, undef), (91, undef), (92, undef), (93, undef)]) (by kernel_rfl) ?_
          refine WD.skip (i := 16) (by kernel_rfl) (by kernel_rfl) ?_
          refine WD.weaken [5, 8, 10, 11, 12, 56, 82, 83, 84, 85, 86, 87, 88, 89, 90, 91, 92, 93, 94] (L' := [(5, .slice A5_q30 o28.length c5_q30), (8, .pointer (some ⟨b46, 0, none⟩)), (10, .int .i64 x10_l3), (11, .int .i64 x11_l4), (12, .int .i64 x12_l4), (56, .int .i64 x10_l3), (82, .bool false), (83, undef), (84, undef), (85, undef), (86, undef), (87, undef), (88, undef), (89, undef), (90, undef), (91, undef), (92, undef), (93, undef), (94, undef)]) (by kernel_rfl) ?_
          refine WD.skip (i := 17) (by kernel_rfl) (by kernel_rfl) ?_
          refine WD.weaken [5, 8, 10, 11, 12, 56, 82, 83, 84, 85, 86, 87, 88, 89, 90, 91, 92, 93, 94, 95] (L' := [(5, .slice A5_q30 o28.length c5_q30), (8, .pointer (some ⟨b46, 0, none⟩)), (10, .int .i64 x10_l3), (11, .int .i64 x11_l4), (12, .int .i64 x12_l4), (56, .int .i64 x10_l3), (82, .bool false), (83, undef), (84, undef), (85, undef), (86, undef), (87, undef), (88, undef), (89, undef), (90, undef), (91, undef), (92, undef), (93, undef), (94, undef), (95, undef)]) (by kernel_rfl) ?_
          refine WD.pure (i := 18) (v := .bool false) (by kernel_rfl) (by kernel_rfl) (fun _ => by kernel_rfl) ?_
          refine WD.weaken [5, 8, 10, 11, 12, 56, 83, 84, 85, 86, 87, 88, 89, 90, 91, 92, 93, 94, 95, 96] (L' := [(5, .slice A5_q30 o28.length c5_q30), (8, .pointer (some ⟨b46, 0, none⟩)), (10, .int .i64 x10_l3), (11, .int .i64 x11_l4), (12, .int .i64 x12_l4), (56, .int .i64 x10_l3), (83, undef), (84, undef), (85, undef), (86, undef), (87, undef), (88, undef), (89, undef), (90, undef), (91, undef), (92, undef), (93, undef), (94, undef), (95, undef), (96, .bool false)]) (by kernel_rfl) ?_
          refine WD.nil (by kernel_rfl) ?_
          refine At.go ?_
          refine WC.condF (by kernel_rfl) (by kernel_rfl) (by kernel_rfl) ?_
          refine WC.skip (by kernel_rfl) ?_
          refine At.blockNormal ?_
          refine At.go ?_
          refine WC.reg [0, 1, 2] (by kernel_rfl) (by kernel_rfl) ?_
          refine WR.runk [0, 1, 2] [] [5, 8, 10, 11, 12, 56, 83, 84, 85, 86, 87, 88, 89, 90, 91, 92, 93, 94, 95] (L' := [(5, .slice A5_q30 o28.length c5_q30), (8, .pointer (some ⟨b46, 0, none⟩)), (10, .int .i64 x10_l3), (11, .int .i64 x11_l4), (12, .int .i64 (wi (x12_l4 + 1))), (56, .int .i64 x10_l3), (83, undef), (84, undef), (85, undef), (86, undef), (87, undef), (88, undef), (89, undef), (90, undef), (91, undef), (92, undef), (93, undef), (94, undef), (95, undef)]) (w' := w61) (by kernel_rfl) ?_
          refine WR.nil ?_
          have hS : Sat w61 (rf w0) [osl 3 (r0 (.int .i64)) 1 A5_q30 c5_q30 o28, O43 b46 y43] := hS.sel [0, 1] (by kernel_rfl)
          refine At.again ?_
          refine WL.weaken [5, 8, 10, 11, 12, 56] (L' := [(5, .slice A5_q30 o28.length c5_q30), (8, .pointer (some ⟨b46, 0, none⟩)), (10, .int .i64 x10_l3), (11, .int .i64 x11_l4), (12, .int .i64 (wi (x12_l4 + 1))), (56, .int .i64 x10_l3)]) (by kernel_rfl) ?_
          exact ih x11_l4 (wi (x12_l4 + 1)) _ hS H
    · replace H := ite_f H hb50
      refine WC.exit (by kernel_rfl) ?_
      refine At.thenExit ?_
      refine At.thenExit ?_
      obtain rfl := Option.some.inj H
      have hS : Sat w (rf w0) [osl 3 (r0 (.int .i64)) 1 A5_q30 c5_q30 o28, O43 b46 y43] := hS.sel [0, 1] (by kernel_rfl)
      refine At.weaken [5, 8, 10, 56] (L' := [(5, .slice A5_q30 o28.length c5_q30), (8, .pointer (some ⟨b46, 0, none⟩)), (10, .int .i64 x10_l3), (56, .int .i64 x10_l3)]) (by kernel_rfl) ?_
      exact hn1 () _ rfl hS
theorem colophonlaw14_RmqAll.l3_ok {Q} (w0 : World) (o28 : (List Int)) (A5_q30 : Option Addr) (c5_q30 : Nat) (y43 : (List Int) × (List (List Int))) (b46 : Nat) (out : Sum Bool Unit) (hn0 : ∀ (o0 : Bool) (w : World), out = (.inl o0) → Sat w (rf w0) [O43 b46 y43] → At Q .ret 98 [(4, .bool o0)] w) (hn1 : ∀ (o1 : Unit) (w : World), out = (.inr o1) → Sat w (rf w0) [O43 b46 y43] → At Q (.exit 4) 98 [] w) :
    ∀ (k : Nat) (x10_l3 : Int) (w : World), Sat w (rf w0) [osl 3 (r0 (.int .i64)) 1 A5_q30 c5_q30 o28, O43 b46 y43] → colophonlaw14_RmqAll.l3 o28 y43 k x10_l3 = some out → WL Try.prog (cbody (cbody (cr (cl (cr (cr (cr (cr (cr C4))))))))) Q 98 [(5, .slice A5_q30 o28.length c5_q30), (8, .pointer (some ⟨b46, 0, none⟩)), (10, .int .i64 x10_l3)] w := by
  intro k
  induction k with
  | zero => intro x10_l3 w hS H; exact absurd (show none = some out from H) (by simp)
  | succ k ih =>
    intro x10_l3 w hS H
    unfold colophonlaw14_RmqAll.l3 at H
    refine WL.round ?_
    refine WC.seq (by kernel_rfl) ?_
    refine WC.seq (by kernel_rfl) ?_
    refine WC.reg [0, 1, 2, 3, 4, 5, 6, 7] (by kernel_rfl) (by kernel_rfl) ?_
    refine WR.runk [0, 1, 2, 3, 4] [5, 6, 7] [5, 8, 10, 55] (L' := [(5, .slice A5_q30 o28.length c5_q30), (8, .pointer (some ⟨b46, 0, none⟩)), (10, .int .i64 x10_l3), (55, .bool (decide (x10_l3 < (o28.length : Int))))]) (w' := w) (by kernel_rfl) ?_
    refine WR.split 55 (b := decide (x10_l3 < (o28.length : Int))) (by kernel_rfl) (fun hb48 => ?_) (fun hb48 => ?_)
    · replace H := ite_t H hb48
      refine WR.runk [5, 6, 7] [] [5, 8, 10, 56, 57, 58] (L' := [(5, .slice A5_q30 o28.length c5_q30), (8, .pointer (some ⟨b46, 0, none⟩)), (10, .int .i64 x10_l3), (56, .int .i64 x10_l3), (57, .bool (decide (x10_l3 < 300))), (58, .bool (decide (x10_l3 < 300)))]) (w' := w) (by kernel_rfl) ?_
      refine WR.nil ?_
      refine At.go ?_
      refine WC.cond (by kernel_rfl) (decide (x10_l3 < 300)) (by kernel_rfl) (by kernel_rfl) (fun hb49 => ?_) (fun hb49 => ?_)
      · replace H := ite_t H hb49
        refine WC.skip (by kernel_rfl) ?_
        refine At.go ?_
        refine WC.seq (by kernel_rfl) ?_
        refine WC.block (by kernel_rfl) ?_
        refine WC.seq (by kernel_rfl) ?_
        refine WC.reg [0] (by kernel_rfl) (by kernel_rfl) ?_
        refine WR.runk [0] [] [5, 8, 10, 11, 56] (L' := [(5, .slice A5_q30 o28.length c5_q30), (8, .pointer (some ⟨b46, 0, none⟩)), (10, .int .i64 x10_l3), (11, .int .i64 (-1)), (56, .int .i64 x10_l3)]) (w' := w) (by kernel_rfl) ?_
        refine WR.nil ?_
        refine At.go ?_
        refine WC.seq (by kernel_rfl) ?_
        refine WC.reg [0, 1] (by kernel_rfl) (by kernel_rfl) ?_
        refine WR.runk [0, 1] [] [5, 8, 10, 11, 12, 56] (L' := [(5, .slice A5_q30 o28.length c5_q30), (8, .pointer (some ⟨b46, 0, none⟩)), (10, .int .i64 x10_l3), (11, .int .i64 (-1)), (12, .int .i64 x10_l3), (56, .int .i64 x10_l3)]) (w' := w) (by kernel_rfl) ?_
        refine WR.nil ?_
        refine At.go ?_
        refine WC.block (by kernel_rfl) ?_
        have hS : Sat w (rf w0) [osl 3 (r0 (.int .i64)) 1 A5_q30 c5_q30 o28, O43 b46 y43] := hS.sel [0, 1] (by kernel_rfl)
        obtain ⟨o70, e71, H⟩ := bind_ex H
        refine WC.loop (by kernel_rfl) ?_
        refine WL.weaken [5, 8, 10, 11, 12, 56] (L' := [(5, .slice A5_q30 o28.length c5_q30), (8, .pointer (some ⟨b46, 0, none⟩)), (10, .int .i64 x10_l3), (11, .int .i64 (-1)), (12, .int .i64 x10_l3), (56, .int .i64 x10_l3)]) (by kernel_rfl) ?_
        refine colophonlaw14_RmqAll.l4_ok w0 o28 A5_q30 c5_q30 y43 b46 x10_l3 o70 (fun o72 w74 ho75 hS => ?_) (fun o76 w78 ho79 hS => ?_) FU (-1) x10_l3 _ hS e71
        · subst ho75
          dsimp only at H
          refine At.blockRet ?_
          refine At.blockRet ?_
          refine At.thenRet ?_
          refine At.thenRet ?_
          obtain rfl := Option.some.inj H
          have hS : Sat w74 (rf w0) [O43 b46 y43] := hS.sel [0] (by kernel_rfl)
          refine At.weaken [4] (L' := [(4, .bool o72)]) (by kernel_rfl) ?_
          exact hn0 o72 _ rfl hS
        · subst ho79
          dsimp only at H
          refine At.hit ?_
          refine At.blockNormal ?_
          refine At.go ?_
          refine WC.reg [0, 1, 2, 3, 4, 5, 6] (by kernel_rfl) (by kernel_rfl) ?_
          refine WR.runk [0, 1, 2, 3, 4, 5, 6] [] [5, 8, 10, 56] (L' := [(5, .slice A5_q30 o28.length c5_q30), (8, .pointer (some ⟨b46, 0, none⟩)), (10, .int .i64 (wi (x10_l3 + (wi (1 + (wi (Int.tdiv (o28.length : Int) 40))))))), (56, .int .i64 x10_l3)]) (w' := w78) (by kernel_rfl) ?_
          refine WR.nil ?_
          have hS : Sat w78 (rf w0) [osl 3 (r0 (.int .i64)) 1 A5_q30 c5_q30 o28, O43 b46 y43] := hS.sel [0, 1] (by kernel_rfl)
          refine At.again ?_
          refine WL.weaken [5, 8, 10] (L' := [(5, .slice A5_q30 o28.length c5_q30), (8, .pointer (some ⟨b46, 0, none⟩)), (10, .int .i64 (wi (x10_l3 + (wi (1 + (wi (Int.tdiv (o28.length : Int) 40)))))))]) (by kernel_rfl) ?_
          exact ih (wi (x10_l3 + (wi (1 + (wi (Int.tdiv (o28.length : Int) 40)))))) _ hS H
      · replace H := ite_f H hb49
        refine WC.exit (by kernel_rfl) ?_
        refine At.thenExit ?_
        refine At.thenExit ?_
        obtain rfl := Option.some.inj H
        have hS : Sat w (rf w0) [O43 b46 y43] := hS.sel [1] (by kernel_rfl)
        refine At.weaken [] (L' := []) (by kernel_rfl) ?_
        exact hn1 () _ rfl hS
    · replace H := ite_f H hb48
      refine WR.runk [5, 6, 7] [] [5, 8, 10, 56, 57, 58] (L' := [(5, .slice A5_q30 o28.length c5_q30), (8, .pointer (some ⟨b46, 0, none⟩)), (10, .int .i64 x10_l3), (56, undef), (57, undef), (58, .bool false)]) (w' := w) (by kernel_rfl) ?_
      refine WR.nil ?_
      refine At.go ?_
      refine WC.condF (by kernel_rfl) (by kernel_rfl) (by kernel_rfl) ?_
      refine WC.exit (by kernel_rfl) ?_
      refine At.thenExit ?_
      refine At.thenExit ?_
      obtain rfl := Option.some.inj H
      have hS : Sat w (rf w0) [O43 b46 y43] := hS.sel [1] (by kernel_rfl)
      refine At.weaken [] (L' := []) (by kernel_rfl) ?_
      exact hn1 () _ rfl hS
theorem colophonlaw14_RmqAll.calls (w0 : World) (A0 : Option Addr) (c0 : Nat) (l0 : List Int) (R0 : rdS (r0 (.int .i8)) 1 (hp w0) A0 c0 l0) (a1 : Int) (r : Bool) (H : colophonlaw14_RmqAll.f l0 a1 = some r) :
    Calls Try.prog 4 #[.slice A0 l0.length c0, .int .i64 a1] w0 (fun e w' => ∃ v, e = .returned v ∧ colophonlaw14_RmqAll.post w0 r v w') := by
  have hS : Sat w0 (rf w0) [] := Sat.start w0
  unfold colophonlaw14_RmqAll.f at H
  refine calls_of_WC (vs := [.slice A0 l0.length c0, .int .i64 a1]) Try.func4 (c := C4) (n := 98) (by kernel_rfl) (by kernel_rfl) (by kernel_rfl) ?_
  refine WC.seq (by kernel_rfl) ?_
  refine WC.reg [0] (by kernel_rfl) (by kernel_rfl) ?_
  refine WR.runk [0] [] [0, 1] (L' := [(0, .slice A0 l0.length c0), (1, .int .i64 a1)]) (w' := w0) (by kernel_rfl) ?_
  refine WR.nil ?_
  refine At.go ?_
  refine WC.seq (by kernel_rfl) ?_
  refine WC.seq (by kernel_rfl) ?_
  refine WC.reg [0, 1] (by kernel_rfl) (by kernel_rfl) ?_
  obtain ⟨r1, e2, H⟩ := bind_ex H
  refine WR.st (St.call (by kernel_rfl) (f := 7) (args := #[]) (by kernel_rfl) (colophonlaw14_first.calls w0  r1 e2) ?_)
  rintro _ w8 ⟨rfl, hS9⟩
  have hS : Sat w8 (rf w0) [] := hS.ext hS9
  refine WR.runk [1] [] [0, 1, 14] (L' := [(0, .slice A0 l0.length c0), (1, .int .i64 a1), (14, .bool (!r1))]) (w' := w8) (by kernel_rfl) ?_
  refine WR.nil ?_
  refine At.go ?_
  refine WC.cond (by kernel_rfl) (!r1) (by kernel_rfl) (by kernel_rfl) (fun hb10 => ?_) (fun hb10 => ?_)
  · replace H := ite_t H hb10
    refine WC.seq (by kernel_rfl) ?_
    refine WC.reg [0] (by kernel_rfl) (by kernel_rfl) ?_
    refine WR.runk [0] [] [4] (L' := [(4, .bool false)]) (w' := w8) (by kernel_rfl) ?_
    refine WR.nil ?_
    refine At.go ?_
    refine WC.ret (by kernel_rfl) ?_
    refine At.thenRet ?_
    obtain rfl := Option.some.inj H
    have hS : Sat w8 (rf w0) [] := hS.sel [] (by kernel_rfl)
    exact At.body [.bool false] (by kernel_rfl) ⟨_, rfl, rfl, hS⟩
  · replace H := ite_f H hb10
    refine WC.skip (by kernel_rfl) ?_
    refine At.go ?_
    refine WC.seq (by kernel_rfl) ?_
    refine WC.reg [0] (by kernel_rfl) (by kernel_rfl) ?_
    refine WR.runk [0] [] [0, 1, 5] (L' := [(0, .slice A0 l0.length c0), (1, .int .i64 a1), (5, .slice none 0 0)]) (w' := w8) (by kernel_rfl) ?_
    refine WR.nil ?_
    refine At.go ?_
    refine WC.seq (by kernel_rfl) ?_
    refine WC.seq (by kernel_rfl) ?_
    refine WC.reg [0, 1, 2, 3, 4, 5] (by kernel_rfl) (by kernel_rfl) ?_
    refine WR.runk [0, 1, 2, 3, 4, 5] [] [0, 5, 19, 20] (L' := [(0, .slice A0 l0.length c0), (5, .slice none 0 0), (19, .int .i64 (wi (1 + (wi (Int.tmod (IntKind.wrap .u64 a1) 20))))), (20, .int .i64 0)]) (w' := w8) (by kernel_rfl) ?_
    refine WR.nil ?_
    refine At.go ?_
    refine WC.block (by kernel_rfl) ?_
    have hS := hS.addNil (α := Int) 3 (r0 (.int .i64)) 1
    have hS : Sat w8 (rf w0) [osl 3 (r0 (.int .i64)) 1 none 0 ([] : List Int)] := hS.sel [0] (by kernel_rfl)
    obtain ⟨o28, e29, H⟩ := bind_ex H
    refine WC.loop (by kernel_rfl) ?_
    refine WL.weaken [0, 5, 19, 20] (L' := [(0, .slice A0 l0.length c0), (5, .slice none 0 0), (19, .int .i64 (wi (1 + (wi (Int.tmod (IntKind.wrap .u64 a1) 20))))), (20, .int .i64 0)]) (by kernel_rfl) ?_
    refine colophonlaw14_RmqAll.l1_ok w0 A0 c0 l0 a1 R0 o28 (fun A5_q30 c5_q30 w31 hS => ?_) FU ([] : List Int) 0 none 0 _ hS e29
    refine At.hit ?_
    refine At.go ?_
    refine WC.seq (by kernel_rfl) ?_
    refine WC.reg [0, 1, 2, 3, 4, 5, 6] (by kernel_rfl) (by kernel_rfl) ?_
    refine WR.runk [0] [1, 2, 3, 4, 5, 6] [5, 47] (L' := [(5, .slice A5_q30 o28.length c5_q30), (47, .slice A5_q30 o28.length c5_q30)]) (w' := w31) (by kernel_rfl) ?_
    obtain ⟨r33, e34, H⟩ := bind_ex H
    refine WR.st (St.call (by kernel_rfl) (f := 8) (args := #[.slice A5_q30 o28.length c5_q30]) (by kernel_rfl) (rmq_New.calls w31 A5_q30 c5_q30 o28 (Sat.rdAt 0 hS rfl) r33 e34) ?_)
    rintro _ w40 ⟨pv42, rfl, hS41⟩
    have hS : Sat w40 (rf w0) [optP O43 pv42 r33.1, osl 3 (r0 (.int .i64)) 1 A5_q30 c5_q30 o28] := hS.ext hS41
    refine WR.runk [2, 3, 4, 5, 6] [] [5, 8] (L' := [(5, .slice A5_q30 o28.length c5_q30), (8, pv42)]) (w' := w40) (by kernel_rfl) ?_
    refine WR.nil ?_
    refine At.go ?_
    refine WC.seq (by kernel_rfl) ?_
    refine WC.seq (by kernel_rfl) ?_
    refine WC.reg [0] (by kernel_rfl) (by kernel_rfl) ?_
    refine WR.runk [0] [] [5, 8, 10] (L' := [(5, .slice A5_q30 o28.length c5_q30), (8, pv42), (10, .int .i64 0)]) (w' := w40) (by kernel_rfl) ?_
    refine WR.nil ?_
    refine At.go ?_
    refine WC.block (by kernel_rfl) ?_
    obtain ⟨y43, hr44, H⟩ := bind_ex H
    obtain ⟨b46, hv45, hN90⟩ := optP.some hS hr44
    subst hv45
    have hS : Sat w40 (rf w0) [O43 b46 y43, osl 3 (r0 (.int .i64)) 1 A5_q30 c5_q30 o28] := hN90
    have hS : Sat w40 (rf w0) [osl 3 (r0 (.int .i64)) 1 A5_q30 c5_q30 o28, O43 b46 y43] := hS.sel [1, 0] (by kernel_rfl)
    obtain ⟨o80, e81, H⟩ := bind_ex H
    refine WC.loop (by kernel_rfl) ?_
    refine WL.weaken [5, 8, 10] (L' := [(5, .slice A5_q30 o28.length c5_q30), (8, .pointer (some ⟨b46, 0, none⟩)), (10, .int .i64 0)]) (by kernel_rfl) ?_
    refine colophonlaw14_RmqAll.l3_ok w0 o28 A5_q30 c5_q30 y43 b46 o80 (fun o82 w84 ho85 hS => ?_) (fun o86 w88 ho89 hS => ?_) FU 0 _ hS e81
    · subst ho85
      dsimp only at H
      refine At.blockRet ?_
      refine At.thenRet ?_
      obtain rfl := Option.some.inj H
      have hS : Sat w84 (rf w0) [] := hS.sel [] (by kernel_rfl)
      exact At.body [.bool o82] (by kernel_rfl) ⟨_, rfl, rfl, hS⟩
    · subst ho89
      dsimp only at H
      refine At.hit ?_
      refine At.go ?_
      refine WC.seq (by kernel_rfl) ?_
      refine WC.reg [0] (by kernel_rfl) (by kernel_rfl) ?_
      refine WR.runk [0] [] [4] (L' := [(4, .bool true)]) (w' := w88) (by kernel_rfl) ?_
      refine WR.nil ?_
      refine At.go ?_
      refine WC.ret (by kernel_rfl) ?_
      obtain rfl := Option.some.inj H
      have hS : Sat w88 (rf w0) [] := hS.sel [] (by kernel_rfl)
      exact At.body [.bool true] (by kernel_rfl) ⟨_, rfl, rfl, hS⟩
end Go.Proofs.Ytadmnacpjjgdnaa
