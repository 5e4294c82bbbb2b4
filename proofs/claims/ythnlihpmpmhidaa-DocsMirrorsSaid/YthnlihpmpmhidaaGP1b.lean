/-
  Printed by gen.py (my own tool): for each Go function a plain Lean function and the proof that a call of it does what that function says.
-/
import Derived.Test.YthnlihpmpmhidaaGP1
set_option linter.unusedVariables false
set_option linter.unusedSimpArgs false
set_option maxRecDepth 100000
namespace Go.Proofs.Ythnlihpmpmhidaa
open Go Go.Gol
/-! ### 11 colophon/colophonref09.Turned -/
def colophonref09_Turned.l1 (l0 : List Int) : Nat → (List Int) → (List Int) → Int → Option (Sum ((List Int) × Bool) (List Int))
  | 0, _, _, _ => none
  | k + 1, x4_l1, x5_l1, x16_l1 => (if decide (x16_l1 < (l0.length : Int)) then ((at? l0 x16_l1).bind fun v12 => (if decide (v12 < 0) then some (.inl (([] : List Int), false)) else (if decide (v12 ≥ (l0.length : Int)) then some (.inl (([] : List Int), false)) else ((at? x5_l1 v12).bind fun v16 => (if (v16 == 1) then some (.inl (([] : List Int), false)) else ((set? x5_l1 v12 1).bind fun y19 => ((at? x4_l1 v12).bind fun v23 => ((set? x4_l1 v12 x16_l1).bind fun y25 => colophonref09_Turned.l1 l0 k y25 y19 (wi (x16_l1 + 1)))))))))) else some (.inr x4_l1))
def colophonref09_Turned.f (l0 : List Int) : Option ((List Int) × Bool) := ((make? 17592186044416 0 (l0.length : Int)).bind fun y1 => ((make? 140737488355328 0 (l0.length : Int)).bind fun y6 => ((colophonref09_Turned.l1 l0 FU y1 y6 0).bind fun o29 => (match o29 with | .inl o31 => some (o31.1, o31.2) | .inr o35 => some (o35, true)))))
def colophonref09_Turned.post (w : World) (r : (List Int) × Bool) (v : Value) (w' : World) : Prop := ∃ (A0' : Option Addr) (c0' : Nat), v = .tuple #[.slice A0' r.1.length c0', .bool r.2] ∧ Sat w' (rf w) [osl 3 (r0 (.int .i64)) 1 A0' c0' r.1]
theorem colophonref09_Turned.l1_ok {Q} (w0 : World) (A0 : Option Addr) (c0 : Nat) (l0 : List Int) (R0 : rdS (r0 (.int .i64)) 1 (hp w0) A0 c0 l0) (out : Sum ((List Int) × Bool) (List Int)) (hn0 : ∀ (o0 : (List Int) × Bool) (A2_q : Option Addr) (c2_q : Nat) (w : World), out = (.inl o0) → Sat w (rf w0) [osl 3 (r0 (.int .i64)) 1 A2_q c2_q o0.1] → At Q .ret 45 [(2, .slice A2_q o0.1.length c2_q), (3, .bool o0.2)] w) (hn1 : ∀ (o1 : (List Int)) (A4_q : Option Addr) (c4_q : Nat) (w : World), out = (.inr o1) → Sat w (rf w0) [osl 3 (r0 (.int .i64)) 1 A4_q c4_q o1] → At Q (.exit 0) 45 [(4, .slice A4_q o1.length c4_q)] w) :
    ∀ (k : Nat) (x4_l1 : List Int) (x5_l1 : List Int) (x16_l1 : Int) (A4_l1 : Option Addr) (c4_l1 : Nat) (A5_l1 : Option Addr) (c5_l1 : Nat) (w : World), Sat w (rf w0) [osl 3 (r0 (.int .i64)) 1 A4_l1 c4_l1 x4_l1, osl 5 (r0 (.int .u8)) 1 A5_l1 c5_l1 x5_l1] → colophonref09_Turned.l1 l0 k x4_l1 x5_l1 x16_l1 = some out → WL Try.prog (cbody (cbody (cr (cl (cr (cr (cr C11))))))) Q 45 [(0, .slice A0 l0.length c0), (4, .slice A4_l1 x4_l1.length c4_l1), (5, .slice A5_l1 x5_l1.length c5_l1), (14, .slice A0 l0.length c0), (15, .int .i64 (l0.length : Int)), (16, .int .i64 x16_l1)] w := by
  intro k
  induction k with
  | zero => intro x4_l1 x5_l1 x16_l1 A4_l1 c4_l1 A5_l1 c5_l1 w hS H; exact absurd (show none = some out from H) (by simp)
  | succ k ih =>
    intro x4_l1 x5_l1 x16_l1 A4_l1 c4_l1 A5_l1 c5_l1 w hS H
    unfold colophonref09_Turned.l1 at H
    refine WL.round ?_
    refine WC.seq (by kernel_rfl) ?_
    refine WC.reg [0] (by kernel_rfl) (by kernel_rfl) ?_
    refine WR.runk [0] [] [0, 4, 5, 14, 15, 16, 17] (L' := [(0, .slice A0 l0.length c0), (4, .slice A4_l1 x4_l1.length c4_l1), (5, .slice A5_l1 x5_l1.length c5_l1), (14, .slice A0 l0.length c0), (15, .int .i64 (l0.length : Int)), (16, .int .i64 x16_l1), (17, .bool (decide (x16_l1 < (l0.length : Int))))]) (w' := w) (by kernel_rfl) ?_
    refine WR.nil ?_
    refine At.go ?_
    refine WC.seq (by kernel_rfl) ?_
    refine WC.cond (by kernel_rfl) (decide (x16_l1 < (l0.length : Int))) (by kernel_rfl) (by kernel_rfl) (fun hb11 => ?_) (fun hb11 => ?_)
    · replace H := ite_t H hb11
      refine WC.skip (by kernel_rfl) ?_
      refine At.go ?_
      refine WC.seq (by kernel_rfl) ?_
      refine WC.block (by kernel_rfl) ?_
      refine WC.seq (by kernel_rfl) ?_
      refine WC.reg [0, 1, 2, 3, 4] (by kernel_rfl) (by kernel_rfl) ?_
      refine WR.runk [0] [1, 2, 3, 4] [0, 4, 5, 14, 15, 16, 18] (L' := [(0, .slice A0 l0.length c0), (4, .slice A4_l1 x4_l1.length c4_l1), (5, .slice A5_l1 x5_l1.length c5_l1), (14, .slice A0 l0.length c0), (15, .int .i64 (l0.length : Int)), (16, .int .i64 x16_l1), (18, .int .i64 x16_l1)]) (w' := w) (by kernel_rfl) ?_
      obtain ⟨v12, e13, H⟩ := bind_ex H
      refine WR.st (St.ofP (PSt.idx (k := .i64) (.tmp 14) (.tmp 16) (by kernel_rfl) (by kernel_rfl) E23 (by kernel_rfl) (by kernel_rfl) (rdS.up R0 hS.sub0) e13 ?_))
      refine WR.runk [] [2, 3, 4] [0, 4, 5, 14, 15, 16, 18, 19] (L' := [(0, .slice A0 l0.length c0), (4, .slice A4_l1 x4_l1.length c4_l1), (5, .slice A5_l1 x5_l1.length c5_l1), (14, .slice A0 l0.length c0), (15, .int .i64 (l0.length : Int)), (16, .int .i64 x16_l1), (18, .int .i64 x16_l1), (19, .pointer (some (adr A0 x16_l1.toNat 1)))]) (w' := w) (by kernel_rfl) ?_
      refine WR.st (St.ofR (RSt.loadInt (t := 3) (.tmp 19) (by kernel_rfl) (by kernel_rfl) (by kernel_rfl) (by kernel_rfl) (rdS.up R0 hS.sub0) e13 ?_))
      refine WR.runk [3, 4] [] [0, 4, 5, 6, 7, 14, 15, 16] (L' := [(0, .slice A0 l0.length c0), (4, .slice A4_l1 x4_l1.length c4_l1), (5, .slice A5_l1 x5_l1.length c5_l1), (6, .int .i64 x16_l1), (7, .int .i64 v12), (14, .slice A0 l0.length c0), (15, .int .i64 (l0.length : Int)), (16, .int .i64 x16_l1)]) (w' := w) (by kernel_rfl) ?_
      refine WR.nil ?_
      refine At.go ?_
      refine WC.seq (by kernel_rfl) ?_
      refine WC.seq (by kernel_rfl) ?_
      refine WC.reg [0, 1, 2, 3, 4, 5, 6, 7, 8, 9, 10, 11, 12, 13, 14] (by kernel_rfl) (by kernel_rfl) ?_
      refine WR.runk [0, 1, 2] [3, 4, 5, 6, 7, 8, 9, 10, 11, 12, 13, 14] [0, 4, 5, 6, 7, 14, 15, 16, 23] (L' := [(0, .slice A0 l0.length c0), (4, .slice A4_l1 x4_l1.length c4_l1), (5, .slice A5_l1 x5_l1.length c5_l1), (6, .int .i64 x16_l1), (7, .int .i64 v12), (14, .slice A0 l0.length c0), (15, .int .i64 (l0.length : Int)), (16, .int .i64 x16_l1), (23, .bool (decide (v12 < 0)))]) (w' := w) (by kernel_rfl) ?_
      refine WR.split 23 (b := decide (v12 < 0)) (by kernel_rfl) (fun hb14 => ?_) (fun hb14 => ?_)
      · replace H := ite_t H hb14
        refine WR.runk [3, 4, 5, 6, 7, 8, 9, 10, 11, 12, 13, 14] [] [0, 4, 5, 6, 7, 14, 15, 16, 24, 25, 26, 27, 30, 31, 32, 33, 34, 35] (L' := [(0, .slice A0 l0.length c0), (4, .slice A4_l1 x4_l1.length c4_l1), (5, .slice A5_l1 x5_l1.length c5_l1), (6, .int .i64 x16_l1), (7, .int .i64 v12), (14, .slice A0 l0.length c0), (15, .int .i64 (l0.length : Int)), (16, .int .i64 x16_l1), (24, undef), (25, undef), (26, undef), (27, undef), (30, undef), (31, undef), (32, undef), (33, undef), (34, undef), (35, .bool true)]) (w' := w) (by kernel_rfl) ?_
        refine WR.nil ?_
        refine At.go ?_
        refine WC.condT (by kernel_rfl) (by kernel_rfl) (by kernel_rfl) ?_
        refine WC.seq (by kernel_rfl) ?_
        refine WC.reg [0, 1] (by kernel_rfl) (by kernel_rfl) ?_
        refine WR.runk [0, 1] [] [2, 3] (L' := [(2, .slice none 0 0), (3, .bool false)]) (w' := w) (by kernel_rfl) ?_
        refine WR.nil ?_
        refine At.go ?_
        refine WC.ret (by kernel_rfl) ?_
        refine At.thenRet ?_
        refine At.blockRet ?_
        refine At.thenRet ?_
        refine At.thenRet ?_
        obtain rfl := Option.some.inj H
        have hS := hS.addNil (α := Int) 3 (r0 (.int .i64)) 1
        have hS : Sat w (rf w0) [osl 3 (r0 (.int .i64)) 1 none 0 ([] : List Int)] := hS.sel [0] (by kernel_rfl)
        refine At.weaken [2, 3] (L' := [(2, .slice none 0 0), (3, .bool false)]) (by kernel_rfl) ?_
        exact hn0 (([] : List Int), false) none 0 _ rfl hS
      · replace H := ite_f H hb14
        refine WR.runk [3, 4, 5, 6, 7, 8] [9, 10, 11, 12, 13, 14] [0, 4, 5, 6, 7, 14, 15, 16, 24, 25, 26, 27, 29] (L' := [(0, .slice A0 l0.length c0), (4, .slice A4_l1 x4_l1.length c4_l1), (5, .slice A5_l1 x5_l1.length c5_l1), (6, .int .i64 x16_l1), (7, .int .i64 v12), (14, .slice A0 l0.length c0), (15, .int .i64 (l0.length : Int)), (16, .int .i64 x16_l1), (24, .int .i64 v12), (25, .slice A0 l0.length c0), (26, .int .i64 (l0.length : Int)), (27, .bool (decide (v12 ≥ (l0.length : Int)))), (29, .bool (decide (v12 ≥ (l0.length : Int))))]) (w' := w) (by kernel_rfl) ?_
        refine WR.split 29 (b := decide (v12 ≥ (l0.length : Int))) (by kernel_rfl) (fun hb15 => ?_) (fun hb15 => ?_)
        · replace H := ite_t H hb15
          refine WR.runk [9, 10, 11, 12, 13, 14] [] [0, 4, 5, 6, 7, 14, 15, 16, 24, 25, 26, 27, 30, 31, 32, 33, 34, 35] (L' := [(0, .slice A0 l0.length c0), (4, .slice A4_l1 x4_l1.length c4_l1), (5, .slice A5_l1 x5_l1.length c5_l1), (6, .int .i64 x16_l1), (7, .int .i64 v12), (14, .slice A0 l0.length c0), (15, .int .i64 (l0.length : Int)), (16, .int .i64 x16_l1), (24, .int .i64 v12), (25, .slice A0 l0.length c0), (26, .int .i64 (l0.length : Int)), (27, .bool (decide (v12 ≥ (l0.length : Int)))), (30, undef), (31, undef), (32, undef), (33, undef), (34, undef), (35, .bool true)]) (w' := w) (by kernel_rfl) ?_
          refine WR.nil ?_
          refine At.go ?_
          refine WC.condT (by kernel_rfl) (by kernel_rfl) (by kernel_rfl) ?_
          refine WC.seq (by kernel_rfl) ?_
          refine WC.reg [0, 1] (by kernel_rfl) (by kernel_rfl) ?_
          refine WR.runk [0, 1] [] [2, 3] (L' := [(2, .slice none 0 0), (3, .bool false)]) (w' := w) (by kernel_rfl) ?_
          refine WR.nil ?_
          refine At.go ?_
          refine WC.ret (by kernel_rfl) ?_
          refine At.thenRet ?_
          refine At.blockRet ?_
          refine At.thenRet ?_
          refine At.thenRet ?_
          obtain rfl := Option.some.inj H
          have hS := hS.addNil (α := Int) 3 (r0 (.int .i64)) 1
          have hS : Sat w (rf w0) [osl 3 (r0 (.int .i64)) 1 none 0 ([] : List Int)] := hS.sel [0] (by kernel_rfl)
          refine At.weaken [2, 3] (L' := [(2, .slice none 0 0), (3, .bool false)]) (by kernel_rfl) ?_
          exact hn0 (([] : List Int), false) none 0 _ rfl hS
        · replace H := ite_f H hb15
          refine WR.runk [9, 10] [11, 12, 13, 14] [0, 4, 5, 6, 7, 14, 15, 16, 24, 25, 26, 27, 29, 30, 31] (L' := [(0, .slice A0 l0.length c0), (4, .slice A4_l1 x4_l1.length c4_l1), (5, .slice A5_l1 x5_l1.length c5_l1), (6, .int .i64 x16_l1), (7, .int .i64 v12), (14, .slice A0 l0.length c0), (15, .int .i64 (l0.length : Int)), (16, .int .i64 x16_l1), (24, .int .i64 v12), (25, .slice A0 l0.length c0), (26, .int .i64 (l0.length : Int)), (27, .bool (decide (v12 ≥ (l0.length : Int)))), (29, .bool false), (30, .slice A5_l1 x5_l1.length c5_l1), (31, .int .i64 v12)]) (w' := w) (by kernel_rfl) ?_
          obtain ⟨v16, e17, H⟩ := bind_ex H
          refine WR.st (St.ofP (PSt.idx (k := .i64) (.tmp 30) (.tmp 31) (by kernel_rfl) (by kernel_rfl) E44 (by kernel_rfl) (by kernel_rfl) (Sat.rdAt 1 hS rfl) e17 ?_))
          refine WR.runk [] [12, 13, 14] [0, 4, 5, 6, 7, 14, 15, 16, 24, 25, 26, 27, 29, 30, 31, 32] (L' := [(0, .slice A0 l0.length c0), (4, .slice A4_l1 x4_l1.length c4_l1), (5, .slice A5_l1 x5_l1.length c5_l1), (6, .int .i64 x16_l1), (7, .int .i64 v12), (14, .slice A0 l0.length c0), (15, .int .i64 (l0.length : Int)), (16, .int .i64 x16_l1), (24, .int .i64 v12), (25, .slice A0 l0.length c0), (26, .int .i64 (l0.length : Int)), (27, .bool (decide (v12 ≥ (l0.length : Int)))), (29, .bool false), (30, .slice A5_l1 x5_l1.length c5_l1), (31, .int .i64 v12), (32, .pointer (some (adr A5_l1 v12.toNat 1)))]) (w' := w) (by kernel_rfl) ?_
          refine WR.st (St.ofR (RSt.loadInt (t := 5) (.tmp 32) (by kernel_rfl) (by kernel_rfl) (by kernel_rfl) (by kernel_rfl) (Sat.rdAt 1 hS rfl) e17 ?_))
          refine WR.runk [13, 14] [] [0, 4, 5, 6, 7, 14, 15, 16, 24, 25, 26, 27, 30, 31, 32, 33, 34, 35] (L' := [(0, .slice A0 l0.length c0), (4, .slice A4_l1 x4_l1.length c4_l1), (5, .slice A5_l1 x5_l1.length c5_l1), (6, .int .i64 x16_l1), (7, .int .i64 v12), (14, .slice A0 l0.length c0), (15, .int .i64 (l0.length : Int)), (16, .int .i64 x16_l1), (24, .int .i64 v12), (25, .slice A0 l0.length c0), (26, .int .i64 (l0.length : Int)), (27, .bool (decide (v12 ≥ (l0.length : Int)))), (30, .slice A5_l1 x5_l1.length c5_l1), (31, .int .i64 v12), (32, .pointer (some (adr A5_l1 v12.toNat 1))), (33, .int .u8 v16), (34, .bool (v16 == 1)), (35, .bool (v16 == 1))]) (w' := w) (by kernel_rfl) ?_
          refine WR.nil ?_
          refine At.go ?_
          refine WC.cond (by kernel_rfl) (v16 == 1) (by kernel_rfl) (by kernel_rfl) (fun hb18 => ?_) (fun hb18 => ?_)
          · replace H := ite_t H hb18
            refine WC.seq (by kernel_rfl) ?_
            refine WC.reg [0, 1] (by kernel_rfl) (by kernel_rfl) ?_
            refine WR.runk [0, 1] [] [2, 3] (L' := [(2, .slice none 0 0), (3, .bool false)]) (w' := w) (by kernel_rfl) ?_
            refine WR.nil ?_
            refine At.go ?_
            refine WC.ret (by kernel_rfl) ?_
            refine At.thenRet ?_
            refine At.blockRet ?_
            refine At.thenRet ?_
            refine At.thenRet ?_
            obtain rfl := Option.some.inj H
            have hS := hS.addNil (α := Int) 3 (r0 (.int .i64)) 1
            have hS : Sat w (rf w0) [osl 3 (r0 (.int .i64)) 1 none 0 ([] : List Int)] := hS.sel [0] (by kernel_rfl)
            refine At.weaken [2, 3] (L' := [(2, .slice none 0 0), (3, .bool false)]) (by kernel_rfl) ?_
            exact hn0 (([] : List Int), false) none 0 _ rfl hS
          · replace H := ite_f H hb18
            refine WC.skip (by kernel_rfl) ?_
            refine At.go ?_
            refine WC.seq (by kernel_rfl) ?_
            refine WC.reg [0, 1, 2, 3] (by kernel_rfl) (by kernel_rfl) ?_
            refine WR.runk [0, 1] [2, 3] [0, 4, 5, 6, 7, 14, 15, 16, 24, 25, 26, 27, 30, 31, 32, 33, 36, 37] (L' := [(0, .slice A0 l0.length c0), (4, .slice A4_l1 x4_l1.length c4_l1), (5, .slice A5_l1 x5_l1.length c5_l1), (6, .int .i64 x16_l1), (7, .int .i64 v12), (14, .slice A0 l0.length c0), (15, .int .i64 (l0.length : Int)), (16, .int .i64 x16_l1), (24, .int .i64 v12), (25, .slice A0 l0.length c0), (26, .int .i64 (l0.length : Int)), (27, .bool (decide (v12 ≥ (l0.length : Int)))), (30, .slice A5_l1 x5_l1.length c5_l1), (31, .int .i64 v12), (32, .pointer (some (adr A5_l1 v12.toNat 1))), (33, .int .u8 v16), (36, .slice A5_l1 x5_l1.length c5_l1), (37, .int .i64 v12)]) (w' := w) (by kernel_rfl) ?_
            refine WR.st (St.ofP (PSt.idx (k := .i64) (.tmp 36) (.tmp 37) (by kernel_rfl) (by kernel_rfl) E44 (by kernel_rfl) (by kernel_rfl) (Sat.rdAt 1 hS rfl) e17 ?_))
            refine WR.runk [] [3] [0, 4, 5, 6, 7, 14, 15, 16, 24, 25, 26, 27, 30, 31, 32, 33, 38] (L' := [(0, .slice A0 l0.length c0), (4, .slice A4_l1 x4_l1.length c4_l1), (5, .slice A5_l1 x5_l1.length c5_l1), (6, .int .i64 x16_l1), (7, .int .i64 v12), (14, .slice A0 l0.length c0), (15, .int .i64 (l0.length : Int)), (16, .int .i64 x16_l1), (24, .int .i64 v12), (25, .slice A0 l0.length c0), (26, .int .i64 (l0.length : Int)), (27, .bool (decide (v12 ≥ (l0.length : Int)))), (30, .slice A5_l1 x5_l1.length c5_l1), (31, .int .i64 v12), (32, .pointer (some (adr A5_l1 v12.toNat 1))), (33, .int .u8 v16), (38, .pointer (some (adr A5_l1 v12.toNat 1)))]) (w' := w) (by kernel_rfl) ?_
            have hS : Sat w (rf w0) [osl 5 (r0 (.int .u8)) 1 A5_l1 c5_l1 x5_l1, osl 3 (r0 (.int .i64)) 1 A4_l1 c4_l1 x4_l1] := hS.sel [1, 0] (by kernel_rfl)
            obtain ⟨y19, e20, H⟩ := bind_ex H
            refine WR.st (St.storeElem' (t := 5) (.tmp 38) (.const (.int .u8 1)) (by kernel_rfl) (by kernel_rfl) (by kernel_rfl) hS (by kernel_rfl) (by kernel_rfl) rfl e20 rfl (fun w21 hS => ?_))
            have hl22 := set?_len e20
            refine WR.know 5 (.slice A5_l1 y19.length c5_l1) (.slice A5_l1 x5_l1.length c5_l1) (by kernel_rfl) (by rw [hl22]) ?_
            refine WR.know 30 (.slice A5_l1 y19.length c5_l1) (.slice A5_l1 x5_l1.length c5_l1) (by kernel_rfl) (by rw [hl22]) ?_
            refine WR.runk [] [] [0, 4, 5, 6, 7, 14, 15, 16, 24, 25, 26, 27, 30, 31, 32, 33] (L' := [(0, .slice A0 l0.length c0), (4, .slice A4_l1 x4_l1.length c4_l1), (5, .slice A5_l1 y19.length c5_l1), (6, .int .i64 x16_l1), (7, .int .i64 v12), (14, .slice A0 l0.length c0), (15, .int .i64 (l0.length : Int)), (16, .int .i64 x16_l1), (24, .int .i64 v12), (25, .slice A0 l0.length c0), (26, .int .i64 (l0.length : Int)), (27, .bool (decide (v12 ≥ (l0.length : Int)))), (30, .slice A5_l1 y19.length c5_l1), (31, .int .i64 v12), (32, .pointer (some (adr A5_l1 v12.toNat 1))), (33, .int .u8 v16)]) (w' := w21) (by kernel_rfl) ?_
            refine WR.nil ?_
            refine At.go ?_
            refine WC.reg [0, 1, 2, 3, 4] (by kernel_rfl) (by kernel_rfl) ?_
            refine WR.runk [0, 1, 2] [3, 4] [0, 4, 5, 14, 15, 16, 24, 25, 26, 27, 30, 31, 32, 33, 39, 40, 41] (L' := [(0, .slice A0 l0.length c0), (4, .slice A4_l1 x4_l1.length c4_l1), (5, .slice A5_l1 y19.length c5_l1), (14, .slice A0 l0.length c0), (15, .int .i64 (l0.length : Int)), (16, .int .i64 x16_l1), (24, .int .i64 v12), (25, .slice A0 l0.length c0), (26, .int .i64 (l0.length : Int)), (27, .bool (decide (v12 ≥ (l0.length : Int)))), (30, .slice A5_l1 y19.length c5_l1), (31, .int .i64 v12), (32, .pointer (some (adr A5_l1 v12.toNat 1))), (33, .int .u8 v16), (39, .slice A4_l1 x4_l1.length c4_l1), (40, .int .i64 v12), (41, .int .i64 x16_l1)]) (w' := w21) (by kernel_rfl) ?_
            obtain ⟨v23, e24, H⟩ := bind_ex H
            refine WR.st (St.ofP (PSt.idx (k := .i64) (.tmp 39) (.tmp 40) (by kernel_rfl) (by kernel_rfl) E23 (by kernel_rfl) (by kernel_rfl) (Sat.rdAt 1 hS rfl) e24 ?_))
            refine WR.runk [] [4] [0, 4, 5, 14, 15, 16, 24, 25, 26, 27, 30, 31, 32, 33, 41, 42] (L' := [(0, .slice A0 l0.length c0), (4, .slice A4_l1 x4_l1.length c4_l1), (5, .slice A5_l1 y19.length c5_l1), (14, .slice A0 l0.length c0), (15, .int .i64 (l0.length : Int)), (16, .int .i64 x16_l1), (24, .int .i64 v12), (25, .slice A0 l0.length c0), (26, .int .i64 (l0.length : Int)), (27, .bool (decide (v12 ≥ (l0.length : Int)))), (30, .slice A5_l1 y19.length c5_l1), (31, .int .i64 v12), (32, .pointer (some (adr A5_l1 v12.toNat 1))), (33, .int .u8 v16), (41, .int .i64 x16_l1), (42, .pointer (some (adr A4_l1 v12.toNat 1)))]) (w' := w21) (by kernel_rfl) ?_
            have hS : Sat w21 (rf w0) [osl 3 (r0 (.int .i64)) 1 A4_l1 c4_l1 x4_l1, osl 5 (r0 (.int .u8)) 1 A5_l1 c5_l1 y19] := hS.sel [1, 0] (by kernel_rfl)
            obtain ⟨y25, e26, H⟩ := bind_ex H
            refine WR.st (St.storeElem' (t := 3) (.tmp 42) (.tmp 41) (by kernel_rfl) (by kernel_rfl) (by kernel_rfl) hS (by kernel_rfl) (by kernel_rfl) rfl e26 rfl (fun w27 hS => ?_))
            have hl28 := set?_len e26
            refine WR.know 4 (.slice A4_l1 y25.length c4_l1) (.slice A4_l1 x4_l1.length c4_l1) (by kernel_rfl) (by rw [hl28]) ?_
            refine WR.runk [] [] [0, 4, 5, 14, 15, 16, 24, 25, 26, 27, 30, 31, 32, 33] (L' := [(0, .slice A0 l0.length c0), (4, .slice A4_l1 y25.length c4_l1), (5, .slice A5_l1 y19.length c5_l1), (14, .slice A0 l0.length c0), (15, .int .i64 (l0.length : Int)), (16, .int .i64 x16_l1), (24, .int .i64 v12), (25, .slice A0 l0.length c0), (26, .int .i64 (l0.length : Int)), (27, .bool (decide (v12 ≥ (l0.length : Int)))), (30, .slice A5_l1 y19.length c5_l1), (31, .int .i64 v12), (32, .pointer (some (adr A5_l1 v12.toNat 1))), (33, .int .u8 v16)]) (w' := w27) (by kernel_rfl) ?_
            refine WR.nil ?_
            refine At.blockNormal ?_
            refine At.go ?_
            refine WC.reg [0, 1] (by kernel_rfl) (by kernel_rfl) ?_
            refine WR.runk [0, 1] [] [0, 4, 5, 14, 15, 16, 24, 25, 26, 27, 30, 31, 32, 33] (L' := [(0, .slice A0 l0.length c0), (4, .slice A4_l1 y25.length c4_l1), (5, .slice A5_l1 y19.length c5_l1), (14, .slice A0 l0.length c0), (15, .int .i64 (l0.length : Int)), (16, .int .i64 (wi (x16_l1 + 1))), (24, .int .i64 v12), (25, .slice A0 l0.length c0), (26, .int .i64 (l0.length : Int)), (27, .bool (decide (v12 ≥ (l0.length : Int)))), (30, .slice A5_l1 y19.length c5_l1), (31, .int .i64 v12), (32, .pointer (some (adr A5_l1 v12.toNat 1))), (33, .int .u8 v16)]) (w' := w27) (by kernel_rfl) ?_
            refine WR.nil ?_
            have hS : Sat w27 (rf w0) [osl 3 (r0 (.int .i64)) 1 A4_l1 c4_l1 y25, osl 5 (r0 (.int .u8)) 1 A5_l1 c5_l1 y19] := hS.sel [0, 1] (by kernel_rfl)
            refine At.again ?_
            refine WL.weaken [0, 4, 5, 14, 15, 16] (L' := [(0, .slice A0 l0.length c0), (4, .slice A4_l1 y25.length c4_l1), (5, .slice A5_l1 y19.length c5_l1), (14, .slice A0 l0.length c0), (15, .int .i64 (l0.length : Int)), (16, .int .i64 (wi (x16_l1 + 1)))]) (by kernel_rfl) ?_
            exact ih y25 y19 (wi (x16_l1 + 1)) A4_l1 c4_l1 A5_l1 c5_l1 _ hS H
    · replace H := ite_f H hb11
      refine WC.exit (by kernel_rfl) ?_
      refine At.thenExit ?_
      refine At.thenExit ?_
      obtain rfl := Option.some.inj H
      have hS : Sat w (rf w0) [osl 3 (r0 (.int .i64)) 1 A4_l1 c4_l1 x4_l1] := hS.sel [0] (by kernel_rfl)
      refine At.weaken [4] (L' := [(4, .slice A4_l1 x4_l1.length c4_l1)]) (by kernel_rfl) ?_
      exact hn1 x4_l1 A4_l1 c4_l1 _ rfl hS
theorem colophonref09_Turned.calls (w0 : World) (A0 : Option Addr) (c0 : Nat) (l0 : List Int) (R0 : rdS (r0 (.int .i64)) 1 (hp w0) A0 c0 l0) (r : (List Int) × Bool) (H : colophonref09_Turned.f l0 = some r) :
    Calls Try.prog 11 #[.slice A0 l0.length c0] w0 (fun e w' => ∃ v, e = .returned v ∧ colophonref09_Turned.post w0 r v w') := by
  have hS : Sat w0 (rf w0) [] := Sat.start w0
  unfold colophonref09_Turned.f at H
  refine calls_of_WC (vs := [.slice A0 l0.length c0]) Try.func11 (c := C11) (n := 45) (by kernel_rfl) (by kernel_rfl) (by kernel_rfl) ?_
  refine WC.seq (by kernel_rfl) ?_
  refine WC.reg [0, 1] (by kernel_rfl) (by kernel_rfl) ?_
  refine WR.runk [0, 1] [] [0] (L' := [(0, .slice A0 l0.length c0)]) (w' := w0) (by kernel_rfl) ?_
  refine WR.nil ?_
  refine At.go ?_
  refine WC.seq (by kernel_rfl) ?_
  refine WC.reg [0, 1, 2, 3] (by kernel_rfl) (by kernel_rfl) ?_
  refine WR.runk [0, 1] [2, 3] [0, 9] (L' := [(0, .slice A0 l0.length c0), (9, .int .i64 (l0.length : Int))]) (w' := w0) (by kernel_rfl) ?_
  obtain ⟨y1, e2, H⟩ := bind_ex H
  refine WR.st (St.make' (t := 23) (e := 3) (sz := 1) (bytes := 8) (k1 := .i64) (k2 := .i64) (R := (r0 (.int .i64))) (.tmp 9) (.tmp 9) (by kernel_rfl) (by kernel_rfl) (.int .i64 0) (by kernel_rfl) (by kernel_rfl) rfl (by kernel_rfl) hS (by kernel_rfl) (by kernel_rfl) 17592186044416 (by kernel_rfl) (by kernel_rfl) e2 (fun A3 c4 w5 hS => ?_))
  refine WR.runk [3] [] [0, 4] (L' := [(0, .slice A0 l0.length c0), (4, .slice A3 y1.length c4)]) (w' := w5) (by kernel_rfl) ?_
  refine WR.nil ?_
  refine At.go ?_
  refine WC.seq (by kernel_rfl) ?_
  refine WC.reg [0, 1, 2, 3] (by kernel_rfl) (by kernel_rfl) ?_
  refine WR.runk [0, 1] [2, 3] [0, 4, 12] (L' := [(0, .slice A0 l0.length c0), (4, .slice A3 y1.length c4), (12, .int .i64 (l0.length : Int))]) (w' := w5) (by kernel_rfl) ?_
  obtain ⟨y6, e7, H⟩ := bind_ex H
  refine WR.st (St.make' (t := 44) (e := 5) (sz := 1) (bytes := 1) (k1 := .i64) (k2 := .i64) (R := (r0 (.int .u8))) (.tmp 12) (.tmp 12) (by kernel_rfl) (by kernel_rfl) (.int .u8 0) (by kernel_rfl) (by kernel_rfl) rfl (by kernel_rfl) hS (by kernel_rfl) (by kernel_rfl) 140737488355328 (by kernel_rfl) (by kernel_rfl) e7 (fun A8 c9 w10 hS => ?_))
  refine WR.runk [3] [] [0, 4, 5] (L' := [(0, .slice A0 l0.length c0), (4, .slice A3 y1.length c4), (5, .slice A8 y6.length c9)]) (w' := w10) (by kernel_rfl) ?_
  refine WR.nil ?_
  refine At.go ?_
  refine WC.seq (by kernel_rfl) ?_
  refine WC.seq (by kernel_rfl) ?_
  refine WC.reg [0, 1, 2] (by kernel_rfl) (by kernel_rfl) ?_
  refine WR.runk [0, 1, 2] [] [0, 4, 5, 14, 15, 16] (L' := [(0, .slice A0 l0.length c0), (4, .slice A3 y1.length c4), (5, .slice A8 y6.length c9), (14, .slice A0 l0.length c0), (15, .int .i64 (l0.length : Int)), (16, .int .i64 0)]) (w' := w10) (by kernel_rfl) ?_
  refine WR.nil ?_
  refine At.go ?_
  refine WC.block (by kernel_rfl) ?_
  have hS : Sat w10 (rf w0) [osl 3 (r0 (.int .i64)) 1 A3 c4 y1, osl 5 (r0 (.int .u8)) 1 A8 c9 y6] := hS.sel [1, 0] (by kernel_rfl)
  obtain ⟨o29, e30, H⟩ := bind_ex H
  refine WC.loop (by kernel_rfl) ?_
  refine WL.weaken [0, 4, 5, 14, 15, 16] (L' := [(0, .slice A0 l0.length c0), (4, .slice A3 y1.length c4), (5, .slice A8 y6.length c9), (14, .slice A0 l0.length c0), (15, .int .i64 (l0.length : Int)), (16, .int .i64 0)]) (by kernel_rfl) ?_
  refine colophonref09_Turned.l1_ok w0 A0 c0 l0 R0 o29 (fun o31 A2_q32 c2_q32 w33 ho34 hS => ?_) (fun o35 A4_q36 c4_q36 w37 ho38 hS => ?_) FU y1 y6 0 A3 c4 A8 c9 _ hS e30
  · subst ho34
    dsimp only at H
    refine At.blockRet ?_
    refine At.thenRet ?_
    obtain rfl := Option.some.inj H
    have hS : Sat w33 (rf w0) [osl 3 (r0 (.int .i64)) 1 A2_q32 c2_q32 o31.1] := hS.sel [0] (by kernel_rfl)
    exact At.body [.slice A2_q32 o31.1.length c2_q32, .bool o31.2] (by kernel_rfl) ⟨_, rfl, _, _, rfl, hS⟩
  · subst ho38
    dsimp only at H
    refine At.hit ?_
    refine At.go ?_
    refine WC.seq (by kernel_rfl) ?_
    refine WC.reg [0, 1, 2] (by kernel_rfl) (by kernel_rfl) ?_
    refine WR.runk [0, 1, 2] [] [2, 3] (L' := [(2, .slice A4_q36 o35.length c4_q36), (3, .bool true)]) (w' := w37) (by kernel_rfl) ?_
    refine WR.nil ?_
    refine At.go ?_
    refine WC.ret (by kernel_rfl) ?_
    obtain rfl := Option.some.inj H
    have hS : Sat w37 (rf w0) [osl 3 (r0 (.int .i64)) 1 A4_q36 c4_q36 o35] := hS.sel [0] (by kernel_rfl)
    exact At.body [.slice A4_q36 o35.length c4_q36, .bool true] (by kernel_rfl) ⟨_, rfl, _, _, rfl, hS⟩
/-! ### 12 colophon/colophonref08.Symbols -/
def colophonref08_Symbols.l2 (l0 : List (List Int)) (v2 : List Int) : Nat → (List Int) → Int → Option (List Int)
  | 0, _, _ => none
  | k + 1, x3_l2, x17_l2 => (if decide (x17_l2 < (v2.length : Int)) then ((at? v2 x17_l2).bind fun v8 => ((app? 17592186044416 x3_l2 ([wi ((wi v8) + (l0.length : Int))] : List Int)).bind fun y13 => colophonref08_Symbols.l2 l0 v2 k y13 (wi (x17_l2 + 1)))) else some x3_l2)
def colophonref08_Symbols.l1 (l0 : List (List Int)) : Nat → (List Int) → Int → Option (List Int)
  | 0, _, _ => none
  | k + 1, x3_l1, x10_l1 => (if decide (x10_l1 < (l0.length : Int)) then ((at? l0 x10_l1).bind fun v2 => ((colophonref08_Symbols.l2 l0 v2 FU x3_l1 0).bind fun o17 => ((app? 17592186044416 o17 ([x10_l1] : List Int)).bind fun y25 => colophonref08_Symbols.l1 l0 k y25 (wi (x10_l1 + 1))))) else some x3_l1)
def colophonref08_Symbols.f (l0 : List (List Int)) : Option (List Int) := ((colophonref08_Symbols.l1 l0 FU ([] : List Int) 0).bind fun o29 => some o29)
def colophonref08_Symbols.post (w : World) (r : (List Int)) (v : Value) (w' : World) : Prop := ∃ (A0' : Option Addr) (c0' : Nat), v = (.slice A0' r.length c0' : Value) ∧ Sat w' (rf w) [osl 3 (r0 (.int .i64)) 1 A0' c0' r]
theorem colophonref08_Symbols.l2_ok {Q} (w0 : World) (A0 : Option Addr) (c0 : Nat) (l0 : List (List Int)) (x10_l1 : Int) (v2 : List Int) (A4 : Option Addr) (c5 : Nat) (R6 : rdS (r0 (.int .u8)) 1 (hp w0) A4 c5 v2) (out : (List Int)) (hn0 : ∀ (A3_q : Option Addr) (c3_q : Nat) (w : World), Sat w (rf w0) [osl 3 (r0 (.int .i64)) 1 A3_q c3_q out] → At Q (.exit 2) 36 [(0, .slice A0 l0.length c0), (3, .slice A3_q out.length c3_q), (4, .int .i64 x10_l1), (8, .slice A0 l0.length c0), (9, .int .i64 (l0.length : Int)), (10, .int .i64 x10_l1)] w) :
    ∀ (k : Nat) (x3_l2 : List Int) (x17_l2 : Int) (A3_l2 : Option Addr) (c3_l2 : Nat) (w : World), Sat w (rf w0) [osl 3 (r0 (.int .i64)) 1 A3_l2 c3_l2 x3_l2] → colophonref08_Symbols.l2 l0 v2 k x3_l2 x17_l2 = some out → WL Try.prog (cbody (cbody (cr (cl (cr (cbody (cl (cr (cr (cbody (cbody (cr (cl (cr (cr C12))))))))))))))) Q 36 [(0, .slice A0 l0.length c0), (3, .slice A3_l2 x3_l2.length c3_l2), (4, .int .i64 x10_l1), (8, .slice A0 l0.length c0), (9, .int .i64 (l0.length : Int)), (10, .int .i64 x10_l1), (15, .slice A4 v2.length c5), (16, .int .i64 (v2.length : Int)), (17, .int .i64 x17_l2)] w := by
  intro k
  induction k with
  | zero => intro x3_l2 x17_l2 A3_l2 c3_l2 w hS H; exact absurd (show none = some out from H) (by simp)
  | succ k ih =>
    intro x3_l2 x17_l2 A3_l2 c3_l2 w hS H
    unfold colophonref08_Symbols.l2 at H
    refine WL.round ?_
    refine WC.seq (by kernel_rfl) ?_
    refine WC.reg [0] (by kernel_rfl) (by kernel_rfl) ?_
    refine WR.runk [0] [] [0, 3, 4, 8, 9, 10, 15, 16, 17, 18] (L' := [(0, .slice A0 l0.length c0), (3, .slice A3_l2 x3_l2.length c3_l2), (4, .int .i64 x10_l1), (8, .slice A0 l0.length c0), (9, .int .i64 (l0.length : Int)), (10, .int .i64 x10_l1), (15, .slice A4 v2.length c5), (16, .int .i64 (v2.length : Int)), (17, .int .i64 x17_l2), (18, .bool (decide (x17_l2 < (v2.length : Int))))]) (w' := w) (by kernel_rfl) ?_
    refine WR.nil ?_
    refine At.go ?_
    refine WC.seq (by kernel_rfl) ?_
    refine WC.cond (by kernel_rfl) (decide (x17_l2 < (v2.length : Int))) (by kernel_rfl) (by kernel_rfl) (fun hb7 => ?_) (fun hb7 => ?_)
    · replace H := ite_t H hb7
      refine WC.skip (by kernel_rfl) ?_
      refine At.go ?_
      refine WC.seq (by kernel_rfl) ?_
      refine WC.block (by kernel_rfl) ?_
      refine WC.seq (by kernel_rfl) ?_
      refine WC.reg [0, 1, 2] (by kernel_rfl) (by kernel_rfl) ?_
      refine WR.runk [] [0, 1, 2] [0, 3, 4, 8, 9, 10, 15, 16, 17] (L' := [(0, .slice A0 l0.length c0), (3, .slice A3_l2 x3_l2.length c3_l2), (4, .int .i64 x10_l1), (8, .slice A0 l0.length c0), (9, .int .i64 (l0.length : Int)), (10, .int .i64 x10_l1), (15, .slice A4 v2.length c5), (16, .int .i64 (v2.length : Int)), (17, .int .i64 x17_l2)]) (w' := w) (by kernel_rfl) ?_
      obtain ⟨v8, e9, H⟩ := bind_ex H
      refine WR.st (St.ofP (PSt.idx (k := .i64) (.tmp 15) (.tmp 17) (by kernel_rfl) (by kernel_rfl) E44 (by kernel_rfl) (by kernel_rfl) (rdS.up R6 hS.sub0) e9 ?_))
      refine WR.runk [] [1, 2] [0, 3, 4, 8, 9, 10, 15, 16, 17, 19] (L' := [(0, .slice A0 l0.length c0), (3, .slice A3_l2 x3_l2.length c3_l2), (4, .int .i64 x10_l1), (8, .slice A0 l0.length c0), (9, .int .i64 (l0.length : Int)), (10, .int .i64 x10_l1), (15, .slice A4 v2.length c5), (16, .int .i64 (v2.length : Int)), (17, .int .i64 x17_l2), (19, .pointer (some (adr A4 x17_l2.toNat 1)))]) (w' := w) (by kernel_rfl) ?_
      refine WR.st (St.ofR (RSt.loadInt (t := 5) (.tmp 19) (by kernel_rfl) (by kernel_rfl) (by kernel_rfl) (by kernel_rfl) (rdS.up R6 hS.sub0) e9 ?_))
      refine WR.runk [2] [] [0, 3, 4, 7, 8, 9, 10, 15, 16, 17] (L' := [(0, .slice A0 l0.length c0), (3, .slice A3_l2 x3_l2.length c3_l2), (4, .int .i64 x10_l1), (7, .int .u8 v8), (8, .slice A0 l0.length c0), (9, .int .i64 (l0.length : Int)), (10, .int .i64 x10_l1), (15, .slice A4 v2.length c5), (16, .int .i64 (v2.length : Int)), (17, .int .i64 x17_l2)]) (w' := w) (by kernel_rfl) ?_
      refine WR.nil ?_
      refine At.go ?_
      refine WC.reg [0, 1, 2, 3, 4, 5, 6, 7, 8] (by kernel_rfl) (by kernel_rfl) ?_
      refine WR.runk [0, 1, 2, 3, 4, 5] [6, 7, 8] [0, 3, 4, 8, 9, 10, 15, 16, 17, 21, 26] (L' := [(0, .slice A0 l0.length c0), (3, .slice A3_l2 x3_l2.length c3_l2), (4, .int .i64 x10_l1), (8, .slice A0 l0.length c0), (9, .int .i64 (l0.length : Int)), (10, .int .i64 x10_l1), (15, .slice A4 v2.length c5), (16, .int .i64 (v2.length : Int)), (17, .int .i64 x17_l2), (21, .slice A3_l2 x3_l2.length c3_l2), (26, .int .i64 (wi ((wi v8) + (l0.length : Int))))]) (w' := w) (by kernel_rfl) ?_
      refine WR.st (St.box hS (by kernel_rfl) (.cells #[.int .i64 (wi ((wi v8) + (l0.length : Int)))] 3) (fun b10 => .slice (some ⟨b10, 0, none⟩) 1 1) (fun _ => by kernel_rfl) (fun b10 w11 hS => ?_))
      refine WR.runk [] [7, 8] [0, 3, 4, 8, 9, 10, 15, 16, 17, 21, 27] (L' := [(0, .slice A0 l0.length c0), (3, .slice A3_l2 x3_l2.length c3_l2), (4, .int .i64 x10_l1), (8, .slice A0 l0.length c0), (9, .int .i64 (l0.length : Int)), (10, .int .i64 x10_l1), (15, .slice A4 v2.length c5), (16, .int .i64 (v2.length : Int)), (17, .int .i64 x17_l2), (21, .slice A3_l2 x3_l2.length c3_l2), (27, .slice (some ⟨b10, 0, none⟩) 1 1)]) (w' := w11) (by kernel_rfl) ?_
      have hS : Sat w11 (rf w0) [osl 3 (r0 (.int .i64)) 1 A3_l2 c3_l2 x3_l2, pts b10 (.cells #[.int .i64 (wi ((wi v8) + (l0.length : Int)))] 3 (0, 0))] := hS.sel [1, 0] (by kernel_rfl)
      obtain ⟨y13, e12, H⟩ := bind_ex H
      refine WR.st (St.append' (.tmp 21) (.tmp 27) (by kernel_rfl) (by kernel_rfl) E23 (r0_one _) hS (by kernel_rfl) (by kernel_rfl) (Sat.ptsAt 1 (r0 (.int .i64)) 1 ([wi ((wi v8) + (l0.length : Int))] : List Int) hS rfl rfl (rdL.cons1 rfl (rdL.nil _ _))) 17592186044416 (by kernel_rfl) (by kernel_rfl) e12 (fun A14 c15 w16 hS => ?_))
      refine WR.runk [8] [] [0, 3, 4, 8, 9, 10, 15, 16, 17] (L' := [(0, .slice A0 l0.length c0), (3, .slice A14 y13.length c15), (4, .int .i64 x10_l1), (8, .slice A0 l0.length c0), (9, .int .i64 (l0.length : Int)), (10, .int .i64 x10_l1), (15, .slice A4 v2.length c5), (16, .int .i64 (v2.length : Int)), (17, .int .i64 x17_l2)]) (w' := w16) (by kernel_rfl) ?_
      refine WR.nil ?_
      refine At.blockNormal ?_
      refine At.go ?_
      refine WC.reg [0, 1] (by kernel_rfl) (by kernel_rfl) ?_
      refine WR.runk [0, 1] [] [0, 3, 4, 8, 9, 10, 15, 16, 17] (L' := [(0, .slice A0 l0.length c0), (3, .slice A14 y13.length c15), (4, .int .i64 x10_l1), (8, .slice A0 l0.length c0), (9, .int .i64 (l0.length : Int)), (10, .int .i64 x10_l1), (15, .slice A4 v2.length c5), (16, .int .i64 (v2.length : Int)), (17, .int .i64 (wi (x17_l2 + 1)))]) (w' := w16) (by kernel_rfl) ?_
      refine WR.nil ?_
      have hS : Sat w16 (rf w0) [osl 3 (r0 (.int .i64)) 1 A14 c15 y13] := hS.sel [0] (by kernel_rfl)
      refine At.again ?_
      refine WL.weaken [0, 3, 4, 8, 9, 10, 15, 16, 17] (L' := [(0, .slice A0 l0.length c0), (3, .slice A14 y13.length c15), (4, .int .i64 x10_l1), (8, .slice A0 l0.length c0), (9, .int .i64 (l0.length : Int)), (10, .int .i64 x10_l1), (15, .slice A4 v2.length c5), (16, .int .i64 (v2.length : Int)), (17, .int .i64 (wi (x17_l2 + 1)))]) (by kernel_rfl) ?_
      exact ih y13 (wi (x17_l2 + 1)) A14 c15 _ hS H
    · replace H := ite_f H hb7
      refine WC.exit (by kernel_rfl) ?_
      refine At.thenExit ?_
      refine At.thenExit ?_
      obtain rfl := Option.some.inj H
      have hS : Sat w (rf w0) [osl 3 (r0 (.int .i64)) 1 A3_l2 c3_l2 x3_l2] := hS.sel [0] (by kernel_rfl)
      refine At.weaken [0, 3, 4, 8, 9, 10] (L' := [(0, .slice A0 l0.length c0), (3, .slice A3_l2 x3_l2.length c3_l2), (4, .int .i64 x10_l1), (8, .slice A0 l0.length c0), (9, .int .i64 (l0.length : Int)), (10, .int .i64 x10_l1)]) (by kernel_rfl) ?_
      exact hn0 A3_l2 c3_l2 _ hS
theorem colophonref08_Symbols.l1_ok {Q} (w0 : World) (A0 : Option Addr) (c0 : Nat) (l0 : List (List Int)) (R0 : rdS (rd (hp w0) (.slice 5 (.int .u8))) 1 (hp w0) A0 c0 l0) (out : (List Int)) (hn0 : ∀ (A3_q : Option Addr) (c3_q : Nat) (w : World), Sat w (rf w0) [osl 3 (r0 (.int .i64)) 1 A3_q c3_q out] → At Q (.exit 0) 36 [(3, .slice A3_q out.length c3_q)] w) :
    ∀ (k : Nat) (x3_l1 : List Int) (x10_l1 : Int) (A3_l1 : Option Addr) (c3_l1 : Nat) (w : World), Sat w (rf w0) [osl 3 (r0 (.int .i64)) 1 A3_l1 c3_l1 x3_l1] → colophonref08_Symbols.l1 l0 k x3_l1 x10_l1 = some out → WL Try.prog (cbody (cbody (cr (cl (cr (cr C12)))))) Q 36 [(0, .slice A0 l0.length c0), (3, .slice A3_l1 x3_l1.length c3_l1), (8, .slice A0 l0.length c0), (9, .int .i64 (l0.length : Int)), (10, .int .i64 x10_l1)] w := by
  intro k
  induction k with
  | zero => intro x3_l1 x10_l1 A3_l1 c3_l1 w hS H; exact absurd (show none = some out from H) (by simp)
  | succ k ih =>
    intro x3_l1 x10_l1 A3_l1 c3_l1 w hS H
    unfold colophonref08_Symbols.l1 at H
    refine WL.round ?_
    refine WC.seq (by kernel_rfl) ?_
    refine WC.reg [0] (by kernel_rfl) (by kernel_rfl) ?_
    refine WR.runk [0] [] [0, 3, 8, 9, 10, 11] (L' := [(0, .slice A0 l0.length c0), (3, .slice A3_l1 x3_l1.length c3_l1), (8, .slice A0 l0.length c0), (9, .int .i64 (l0.length : Int)), (10, .int .i64 x10_l1), (11, .bool (decide (x10_l1 < (l0.length : Int))))]) (w' := w) (by kernel_rfl) ?_
    refine WR.nil ?_
    refine At.go ?_
    refine WC.seq (by kernel_rfl) ?_
    refine WC.cond (by kernel_rfl) (decide (x10_l1 < (l0.length : Int))) (by kernel_rfl) (by kernel_rfl) (fun hb1 => ?_) (fun hb1 => ?_)
    · replace H := ite_t H hb1
      refine WC.skip (by kernel_rfl) ?_
      refine At.go ?_
      refine WC.seq (by kernel_rfl) ?_
      refine WC.block (by kernel_rfl) ?_
      refine WC.seq (by kernel_rfl) ?_
      refine WC.reg [0, 1, 2, 3, 4] (by kernel_rfl) (by kernel_rfl) ?_
      refine WR.runk [0] [1, 2, 3, 4] [0, 3, 8, 9, 10, 12] (L' := [(0, .slice A0 l0.length c0), (3, .slice A3_l1 x3_l1.length c3_l1), (8, .slice A0 l0.length c0), (9, .int .i64 (l0.length : Int)), (10, .int .i64 x10_l1), (12, .int .i64 x10_l1)]) (w' := w) (by kernel_rfl) ?_
      obtain ⟨v2, e3, H⟩ := bind_ex H
      refine WR.st (St.ofP (PSt.idx (k := .i64) (.tmp 8) (.tmp 10) (by kernel_rfl) (by kernel_rfl) E22 (by kernel_rfl) (by kernel_rfl) (rdS.up R0 hS.sub0) e3 ?_))
      refine WR.runk [] [2, 3, 4] [0, 3, 8, 9, 10, 12, 13] (L' := [(0, .slice A0 l0.length c0), (3, .slice A3_l1 x3_l1.length c3_l1), (8, .slice A0 l0.length c0), (9, .int .i64 (l0.length : Int)), (10, .int .i64 x10_l1), (12, .int .i64 x10_l1), (13, .pointer (some (adr A0 x10_l1.toNat 1)))]) (w' := w) (by kernel_rfl) ?_
      refine WR.st (St.ofR (RSt.loadSl (t := 44) (.tmp 13) (by kernel_rfl) (by kernel_rfl) (by kernel_rfl) (by kernel_rfl) R0 e3 hS.sub0 (fun A4 c5 R6 => ?_)))
      replace R6 : rdS (r0 (.int .u8)) 1 (hp w0) A4 c5 v2 := R6
      refine WR.runk [3, 4] [] [0, 3, 4, 5, 8, 9, 10] (L' := [(0, .slice A0 l0.length c0), (3, .slice A3_l1 x3_l1.length c3_l1), (4, .int .i64 x10_l1), (5, .slice A4 v2.length c5), (8, .slice A0 l0.length c0), (9, .int .i64 (l0.length : Int)), (10, .int .i64 x10_l1)]) (w' := w) (by kernel_rfl) ?_
      refine WR.nil ?_
      refine At.go ?_
      refine WC.seq (by kernel_rfl) ?_
      refine WC.seq (by kernel_rfl) ?_
      refine WC.reg [0, 1, 2] (by kernel_rfl) (by kernel_rfl) ?_
      refine WR.runk [0, 1, 2] [] [0, 3, 4, 8, 9, 10, 15, 16, 17] (L' := [(0, .slice A0 l0.length c0), (3, .slice A3_l1 x3_l1.length c3_l1), (4, .int .i64 x10_l1), (8, .slice A0 l0.length c0), (9, .int .i64 (l0.length : Int)), (10, .int .i64 x10_l1), (15, .slice A4 v2.length c5), (16, .int .i64 (v2.length : Int)), (17, .int .i64 0)]) (w' := w) (by kernel_rfl) ?_
      refine WR.nil ?_
      refine At.go ?_
      refine WC.block (by kernel_rfl) ?_
      have hS : Sat w (rf w0) [osl 3 (r0 (.int .i64)) 1 A3_l1 c3_l1 x3_l1] := hS.sel [0] (by kernel_rfl)
      obtain ⟨o17, e18, H⟩ := bind_ex H
      refine WC.loop (by kernel_rfl) ?_
      refine WL.weaken [0, 3, 4, 8, 9, 10, 15, 16, 17] (L' := [(0, .slice A0 l0.length c0), (3, .slice A3_l1 x3_l1.length c3_l1), (4, .int .i64 x10_l1), (8, .slice A0 l0.length c0), (9, .int .i64 (l0.length : Int)), (10, .int .i64 x10_l1), (15, .slice A4 v2.length c5), (16, .int .i64 (v2.length : Int)), (17, .int .i64 0)]) (by kernel_rfl) ?_
      refine colophonref08_Symbols.l2_ok w0 A0 c0 l0 x10_l1 v2 A4 c5 R6 o17 (fun A3_q19 c3_q19 w20 hS => ?_) FU x3_l1 0 A3_l1 c3_l1 _ hS e18
      refine At.hit ?_
      refine At.go ?_
      refine WC.reg [0, 1, 2, 3, 4] (by kernel_rfl) (by kernel_rfl) ?_
      refine WR.runk [0, 1] [2, 3, 4] [0, 3, 8, 9, 10, 30, 31] (L' := [(0, .slice A0 l0.length c0), (3, .slice A3_q19 o17.length c3_q19), (8, .slice A0 l0.length c0), (9, .int .i64 (l0.length : Int)), (10, .int .i64 x10_l1), (30, .slice A3_q19 o17.length c3_q19), (31, .int .i64 x10_l1)]) (w' := w20) (by kernel_rfl) ?_
      refine WR.st (St.box hS (by kernel_rfl) (.cells #[.int .i64 x10_l1] 3) (fun b22 => .slice (some ⟨b22, 0, none⟩) 1 1) (fun _ => by kernel_rfl) (fun b22 w23 hS => ?_))
      refine WR.runk [] [3, 4] [0, 3, 8, 9, 10, 30, 32] (L' := [(0, .slice A0 l0.length c0), (3, .slice A3_q19 o17.length c3_q19), (8, .slice A0 l0.length c0), (9, .int .i64 (l0.length : Int)), (10, .int .i64 x10_l1), (30, .slice A3_q19 o17.length c3_q19), (32, .slice (some ⟨b22, 0, none⟩) 1 1)]) (w' := w23) (by kernel_rfl) ?_
      have hS : Sat w23 (rf w0) [osl 3 (r0 (.int .i64)) 1 A3_q19 c3_q19 o17, pts b22 (.cells #[.int .i64 x10_l1] 3 (0, 0))] := hS.sel [1, 0] (by kernel_rfl)
      obtain ⟨y25, e24, H⟩ := bind_ex H
      refine WR.st (St.append' (.tmp 30) (.tmp 32) (by kernel_rfl) (by kernel_rfl) E23 (r0_one _) hS (by kernel_rfl) (by kernel_rfl) (Sat.ptsAt 1 (r0 (.int .i64)) 1 ([x10_l1] : List Int) hS rfl rfl (rdL.cons1 rfl (rdL.nil _ _))) 17592186044416 (by kernel_rfl) (by kernel_rfl) e24 (fun A26 c27 w28 hS => ?_))
      refine WR.runk [4] [] [0, 3, 8, 9, 10] (L' := [(0, .slice A0 l0.length c0), (3, .slice A26 y25.length c27), (8, .slice A0 l0.length c0), (9, .int .i64 (l0.length : Int)), (10, .int .i64 x10_l1)]) (w' := w28) (by kernel_rfl) ?_
      refine WR.nil ?_
      refine At.blockNormal ?_
      refine At.go ?_
      refine WC.reg [0, 1] (by kernel_rfl) (by kernel_rfl) ?_
      refine WR.runk [0, 1] [] [0, 3, 8, 9, 10] (L' := [(0, .slice A0 l0.length c0), (3, .slice A26 y25.length c27), (8, .slice A0 l0.length c0), (9, .int .i64 (l0.length : Int)), (10, .int .i64 (wi (x10_l1 + 1)))]) (w' := w28) (by kernel_rfl) ?_
      refine WR.nil ?_
      have hS : Sat w28 (rf w0) [osl 3 (r0 (.int .i64)) 1 A26 c27 y25] := hS.sel [0] (by kernel_rfl)
      refine At.again ?_
      refine WL.weaken [0, 3, 8, 9, 10] (L' := [(0, .slice A0 l0.length c0), (3, .slice A26 y25.length c27), (8, .slice A0 l0.length c0), (9, .int .i64 (l0.length : Int)), (10, .int .i64 (wi (x10_l1 + 1)))]) (by kernel_rfl) ?_
      exact ih y25 (wi (x10_l1 + 1)) A26 c27 _ hS H
    · replace H := ite_f H hb1
      refine WC.exit (by kernel_rfl) ?_
      refine At.thenExit ?_
      refine At.thenExit ?_
      obtain rfl := Option.some.inj H
      have hS : Sat w (rf w0) [osl 3 (r0 (.int .i64)) 1 A3_l1 c3_l1 x3_l1] := hS.sel [0] (by kernel_rfl)
      refine At.weaken [3] (L' := [(3, .slice A3_l1 x3_l1.length c3_l1)]) (by kernel_rfl) ?_
      exact hn0 A3_l1 c3_l1 _ hS
theorem colophonref08_Symbols.calls (w0 : World) (A0 : Option Addr) (c0 : Nat) (l0 : List (List Int)) (R0 : rdS (rd (hp w0) (.slice 5 (.int .u8))) 1 (hp w0) A0 c0 l0) (r : (List Int)) (H : colophonref08_Symbols.f l0 = some r) :
    Calls Try.prog 12 #[.slice A0 l0.length c0] w0 (fun e w' => ∃ v, e = .returned v ∧ colophonref08_Symbols.post w0 r v w') := by
  have hS : Sat w0 (rf w0) [] := Sat.start w0
  unfold colophonref08_Symbols.f at H
  refine calls_of_WC (vs := [.slice A0 l0.length c0]) Try.func12 (c := C12) (n := 36) (by kernel_rfl) (by kernel_rfl) (by kernel_rfl) ?_
  refine WC.seq (by kernel_rfl) ?_
  refine WC.reg [0] (by kernel_rfl) (by kernel_rfl) ?_
  refine WR.runk [0] [] [0] (L' := [(0, .slice A0 l0.length c0)]) (w' := w0) (by kernel_rfl) ?_
  refine WR.nil ?_
  refine At.go ?_
  refine WC.seq (by kernel_rfl) ?_
  refine WC.reg [0] (by kernel_rfl) (by kernel_rfl) ?_
  refine WR.runk [0] [] [0, 3] (L' := [(0, .slice A0 l0.length c0), (3, .slice none 0 0)]) (w' := w0) (by kernel_rfl) ?_
  refine WR.nil ?_
  refine At.go ?_
  refine WC.seq (by kernel_rfl) ?_
  refine WC.seq (by kernel_rfl) ?_
  refine WC.reg [0, 1, 2] (by kernel_rfl) (by kernel_rfl) ?_
  refine WR.runk [0, 1, 2] [] [0, 3, 8, 9, 10] (L' := [(0, .slice A0 l0.length c0), (3, .slice none 0 0), (8, .slice A0 l0.length c0), (9, .int .i64 (l0.length : Int)), (10, .int .i64 0)]) (w' := w0) (by kernel_rfl) ?_
  refine WR.nil ?_
  refine At.go ?_
  refine WC.block (by kernel_rfl) ?_
  have hS := hS.addNil (α := Int) 3 (r0 (.int .i64)) 1
  have hS : Sat w0 (rf w0) [osl 3 (r0 (.int .i64)) 1 none 0 ([] : List Int)] := hS.sel [0] (by kernel_rfl)
  obtain ⟨o29, e30, H⟩ := bind_ex H
  refine WC.loop (by kernel_rfl) ?_
  refine WL.weaken [0, 3, 8, 9, 10] (L' := [(0, .slice A0 l0.length c0), (3, .slice none 0 0), (8, .slice A0 l0.length c0), (9, .int .i64 (l0.length : Int)), (10, .int .i64 0)]) (by kernel_rfl) ?_
  refine colophonref08_Symbols.l1_ok w0 A0 c0 l0 R0 o29 (fun A3_q31 c3_q31 w32 hS => ?_) FU ([] : List Int) 0 none 0 _ hS e30
  refine At.hit ?_
  refine At.go ?_
  refine WC.seq (by kernel_rfl) ?_
  refine WC.reg [0, 1] (by kernel_rfl) (by kernel_rfl) ?_
  refine WR.runk [0, 1] [] [2] (L' := [(2, .slice A3_q31 o29.length c3_q31)]) (w' := w32) (by kernel_rfl) ?_
  refine WR.nil ?_
  refine At.go ?_
  refine WC.ret (by kernel_rfl) ?_
  obtain rfl := Option.some.inj H
  have hS : Sat w32 (rf w0) [osl 3 (r0 (.int .i64)) 1 A3_q31 c3_q31 o29] := hS.sel [0] (by kernel_rfl)
  exact At.body [.slice A3_q31 o29.length c3_q31] (by kernel_rfl) ⟨_, rfl, _, _, rfl, hS⟩
/-! ### 13 colophon/colophonref08.Doc -/
def colophonref08_Doc.l1 (l0 : List (List Int)) : Nat → Int → Int → Option (Sum (Int × Int) Unit)
  | 0, _, _ => none
  | k + 1, x1_l1, x12_l1 => (if decide (x12_l1 < (l0.length : Int)) then ((at? l0 x12_l1).bind fun v3 => (if decide (x1_l1 ≤ (v3.length : Int)) then some (.inl (x12_l1, x1_l1)) else colophonref08_Doc.l1 l0 k (wi (x1_l1 - (wi ((v3.length : Int) + 1)))) (wi (x12_l1 + 1)))) else some (.inr ()))
def colophonref08_Doc.f (l0 : List (List Int)) (a1 : Int) : Option (Int × Int) := (if decide (a1 < 0) then some ((-1), (-1)) else ((colophonref08_Doc.l1 l0 FU a1 0).bind fun o9 => (match o9 with | .inl o11 => some (o11.1, o11.2) | .inr o15 => some ((-1), (-1)))))
def colophonref08_Doc.post (w : World) (r : Int × Int) (v : Value) (w' : World) : Prop := v = .tuple #[.int .i64 r.1, .int .i64 r.2] ∧ Sat w' (rf w) []
theorem colophonref08_Doc.l1_ok {Q} (w0 : World) (A0 : Option Addr) (c0 : Nat) (l0 : List (List Int)) (R0 : rdS (rd (hp w0) (.slice 5 (.int .u8))) 1 (hp w0) A0 c0 l0) (out : Sum (Int × Int) Unit) (hn0 : ∀ (o0 : Int × Int) (w : World), out = (.inl o0) → Sat w (rf w0) [] → At Q .ret 29 [(4, .int .i64 o0.1), (5, .int .i64 o0.2)] w) (hn1 : ∀ (o1 : Unit) (w : World), out = (.inr o1) → Sat w (rf w0) [] → At Q (.exit 0) 29 [] w) :
    ∀ (k : Nat) (x1_l1 : Int) (x12_l1 : Int) (w : World), Sat w (rf w0) [] → colophonref08_Doc.l1 l0 k x1_l1 x12_l1 = some out → WL Try.prog (cbody (cbody (cr (cl (cr (cr C13)))))) Q 29 [(1, .int .i64 x1_l1), (10, .slice A0 l0.length c0), (11, .int .i64 (l0.length : Int)), (12, .int .i64 x12_l1)] w := by
  intro k
  induction k with
  | zero => intro x1_l1 x12_l1 w hS H; exact absurd (show none = some out from H) (by simp)
  | succ k ih =>
    intro x1_l1 x12_l1 w hS H
    unfold colophonref08_Doc.l1 at H
    refine WL.round ?_
    refine WC.seq (by kernel_rfl) ?_
    refine WC.reg [0] (by kernel_rfl) (by kernel_rfl) ?_
    refine WR.runk [0] [] [1, 10, 11, 12, 13] (L' := [(1, .int .i64 x1_l1), (10, .slice A0 l0.length c0), (11, .int .i64 (l0.length : Int)), (12, .int .i64 x12_l1), (13, .bool (decide (x12_l1 < (l0.length : Int))))]) (w' := w) (by kernel_rfl) ?_
    refine WR.nil ?_
    refine At.go ?_
    refine WC.seq (by kernel_rfl) ?_
    refine WC.cond (by kernel_rfl) (decide (x12_l1 < (l0.length : Int))) (by kernel_rfl) (by kernel_rfl) (fun hb2 => ?_) (fun hb2 => ?_)
    · replace H := ite_t H hb2
      refine WC.skip (by kernel_rfl) ?_
      refine At.go ?_
      refine WC.seq (by kernel_rfl) ?_
      refine WC.block (by kernel_rfl) ?_
      refine WC.seq (by kernel_rfl) ?_
      refine WC.reg [0, 1, 2, 3, 4] (by kernel_rfl) (by kernel_rfl) ?_
      refine WR.runk [0] [1, 2, 3, 4] [1, 10, 11, 12, 14] (L' := [(1, .int .i64 x1_l1), (10, .slice A0 l0.length c0), (11, .int .i64 (l0.length : Int)), (12, .int .i64 x12_l1), (14, .int .i64 x12_l1)]) (w' := w) (by kernel_rfl) ?_
      obtain ⟨v3, e4, H⟩ := bind_ex H
      refine WR.st (St.ofP (PSt.idx (k := .i64) (.tmp 10) (.tmp 12) (by kernel_rfl) (by kernel_rfl) E22 (by kernel_rfl) (by kernel_rfl) (rdS.up R0 hS.sub0) e4 ?_))
      refine WR.runk [] [2, 3, 4] [1, 10, 11, 12, 14, 15] (L' := [(1, .int .i64 x1_l1), (10, .slice A0 l0.length c0), (11, .int .i64 (l0.length : Int)), (12, .int .i64 x12_l1), (14, .int .i64 x12_l1), (15, .pointer (some (adr A0 x12_l1.toNat 1)))]) (w' := w) (by kernel_rfl) ?_
      refine WR.st (St.ofR (RSt.loadSl (t := 44) (.tmp 15) (by kernel_rfl) (by kernel_rfl) (by kernel_rfl) (by kernel_rfl) R0 e4 hS.sub0 (fun A5 c6 R7 => ?_)))
      replace R7 : rdS (r0 (.int .u8)) 1 (hp w0) A5 c6 v3 := R7
      refine WR.runk [3, 4] [] [1, 6, 7, 10, 11, 12] (L' := [(1, .int .i64 x1_l1), (6, .int .i64 x12_l1), (7, .slice A5 v3.length c6), (10, .slice A0 l0.length c0), (11, .int .i64 (l0.length : Int)), (12, .int .i64 x12_l1)]) (w' := w) (by kernel_rfl) ?_
      refine WR.nil ?_
      refine At.go ?_
      refine WC.seq (by kernel_rfl) ?_
      refine WC.seq (by kernel_rfl) ?_
      refine WC.reg [0, 1, 2, 3] (by kernel_rfl) (by kernel_rfl) ?_
      refine WR.runk [0, 1, 2, 3] [] [1, 6, 7, 10, 11, 12, 20] (L' := [(1, .int .i64 x1_l1), (6, .int .i64 x12_l1), (7, .slice A5 v3.length c6), (10, .slice A0 l0.length c0), (11, .int .i64 (l0.length : Int)), (12, .int .i64 x12_l1), (20, .bool (decide (x1_l1 ≤ (v3.length : Int))))]) (w' := w) (by kernel_rfl) ?_
      refine WR.nil ?_
      refine At.go ?_
      refine WC.cond (by kernel_rfl) (decide (x1_l1 ≤ (v3.length : Int))) (by kernel_rfl) (by kernel_rfl) (fun hb8 => ?_) (fun hb8 => ?_)
      · replace H := ite_t H hb8
        refine WC.seq (by kernel_rfl) ?_
        refine WC.reg [0, 1, 2, 3] (by kernel_rfl) (by kernel_rfl) ?_
        refine WR.runk [0, 1, 2, 3] [] [4, 5] (L' := [(4, .int .i64 x12_l1), (5, .int .i64 x1_l1)]) (w' := w) (by kernel_rfl) ?_
        refine WR.nil ?_
        refine At.go ?_
        refine WC.ret (by kernel_rfl) ?_
        refine At.thenRet ?_
        refine At.blockRet ?_
        refine At.thenRet ?_
        refine At.thenRet ?_
        obtain rfl := Option.some.inj H
        have hS : Sat w (rf w0) [] := hS.sel [] (by kernel_rfl)
        refine At.weaken [4, 5] (L' := [(4, .int .i64 x12_l1), (5, .int .i64 x1_l1)]) (by kernel_rfl) ?_
        exact hn0 (x12_l1, x1_l1) _ rfl hS
      · replace H := ite_f H hb8
        refine WC.skip (by kernel_rfl) ?_
        refine At.go ?_
        refine WC.reg [0, 1, 2, 3, 4, 5] (by kernel_rfl) (by kernel_rfl) ?_
        refine WR.runk [0, 1, 2, 3, 4, 5] [] [1, 10, 11, 12] (L' := [(1, .int .i64 (wi (x1_l1 - (wi ((v3.length : Int) + 1))))), (10, .slice A0 l0.length c0), (11, .int .i64 (l0.length : Int)), (12, .int .i64 x12_l1)]) (w' := w) (by kernel_rfl) ?_
        refine WR.nil ?_
        refine At.blockNormal ?_
        refine At.go ?_
        refine WC.reg [0, 1] (by kernel_rfl) (by kernel_rfl) ?_
        refine WR.runk [0, 1] [] [1, 10, 11, 12] (L' := [(1, .int .i64 (wi (x1_l1 - (wi ((v3.length : Int) + 1))))), (10, .slice A0 l0.length c0), (11, .int .i64 (l0.length : Int)), (12, .int .i64 (wi (x12_l1 + 1)))]) (w' := w) (by kernel_rfl) ?_
        refine WR.nil ?_
        have hS : Sat w (rf w0) [] := hS.sel [] (by kernel_rfl)
        refine At.again ?_
        refine WL.weaken [1, 10, 11, 12] (L' := [(1, .int .i64 (wi (x1_l1 - (wi ((v3.length : Int) + 1))))), (10, .slice A0 l0.length c0), (11, .int .i64 (l0.length : Int)), (12, .int .i64 (wi (x12_l1 + 1)))]) (by kernel_rfl) ?_
        exact ih (wi (x1_l1 - (wi ((v3.length : Int) + 1)))) (wi (x12_l1 + 1)) _ hS H
    · replace H := ite_f H hb2
      refine WC.exit (by kernel_rfl) ?_
      refine At.thenExit ?_
      refine At.thenExit ?_
      obtain rfl := Option.some.inj H
      have hS : Sat w (rf w0) [] := hS.sel [] (by kernel_rfl)
      refine At.weaken [] (L' := []) (by kernel_rfl) ?_
      exact hn1 () _ rfl hS
theorem colophonref08_Doc.calls (w0 : World) (A0 : Option Addr) (c0 : Nat) (l0 : List (List Int)) (R0 : rdS (rd (hp w0) (.slice 5 (.int .u8))) 1 (hp w0) A0 c0 l0) (a1 : Int) (r : Int × Int) (H : colophonref08_Doc.f l0 a1 = some r) :
    Calls Try.prog 13 #[.slice A0 l0.length c0, .int .i64 a1] w0 (fun e w' => ∃ v, e = .returned v ∧ colophonref08_Doc.post w0 r v w') := by
  have hS : Sat w0 (rf w0) [] := Sat.start w0
  unfold colophonref08_Doc.f at H
  refine calls_of_WC (vs := [.slice A0 l0.length c0, .int .i64 a1]) Try.func13 (c := C13) (n := 29) (by kernel_rfl) (by kernel_rfl) (by kernel_rfl) ?_
  refine WC.seq (by kernel_rfl) ?_
  refine WC.reg [0, 1] (by kernel_rfl) (by kernel_rfl) ?_
  refine WR.runk [0, 1] [] [0, 1] (L' := [(0, .slice A0 l0.length c0), (1, .int .i64 a1)]) (w' := w0) (by kernel_rfl) ?_
  refine WR.nil ?_
  refine At.go ?_
  refine WC.seq (by kernel_rfl) ?_
  refine WC.seq (by kernel_rfl) ?_
  refine WC.reg [0, 1] (by kernel_rfl) (by kernel_rfl) ?_
  refine WR.runk [0, 1] [] [0, 1, 9] (L' := [(0, .slice A0 l0.length c0), (1, .int .i64 a1), (9, .bool (decide (a1 < 0)))]) (w' := w0) (by kernel_rfl) ?_
  refine WR.nil ?_
  refine At.go ?_
  refine WC.cond (by kernel_rfl) (decide (a1 < 0)) (by kernel_rfl) (by kernel_rfl) (fun hb1 => ?_) (fun hb1 => ?_)
  · replace H := ite_t H hb1
    refine WC.seq (by kernel_rfl) ?_
    refine WC.reg [0, 1] (by kernel_rfl) (by kernel_rfl) ?_
    refine WR.runk [0, 1] [] [4, 5] (L' := [(4, .int .i64 (-1)), (5, .int .i64 (-1))]) (w' := w0) (by kernel_rfl) ?_
    refine WR.nil ?_
    refine At.go ?_
    refine WC.ret (by kernel_rfl) ?_
    refine At.thenRet ?_
    obtain rfl := Option.some.inj H
    have hS : Sat w0 (rf w0) [] := hS.sel [] (by kernel_rfl)
    exact At.body [.int .i64 (-1), .int .i64 (-1)] (by kernel_rfl) ⟨_, rfl, rfl, hS⟩
  · replace H := ite_f H hb1
    refine WC.skip (by kernel_rfl) ?_
    refine At.go ?_
    refine WC.seq (by kernel_rfl) ?_
    refine WC.seq (by kernel_rfl) ?_
    refine WC.reg [0, 1, 2] (by kernel_rfl) (by kernel_rfl) ?_
    refine WR.runk [0, 1, 2] [] [1, 10, 11, 12] (L' := [(1, .int .i64 a1), (10, .slice A0 l0.length c0), (11, .int .i64 (l0.length : Int)), (12, .int .i64 0)]) (w' := w0) (by kernel_rfl) ?_
    refine WR.nil ?_
    refine At.go ?_
    refine WC.block (by kernel_rfl) ?_
    have hS : Sat w0 (rf w0) [] := hS.sel [] (by kernel_rfl)
    obtain ⟨o9, e10, H⟩ := bind_ex H
    refine WC.loop (by kernel_rfl) ?_
    refine WL.weaken [1, 10, 11, 12] (L' := [(1, .int .i64 a1), (10, .slice A0 l0.length c0), (11, .int .i64 (l0.length : Int)), (12, .int .i64 0)]) (by kernel_rfl) ?_
    refine colophonref08_Doc.l1_ok w0 A0 c0 l0 R0 o9 (fun o11 w13 ho14 hS => ?_) (fun o15 w17 ho18 hS => ?_) FU a1 0 _ hS e10
    · subst ho14
      dsimp only at H
      refine At.blockRet ?_
      refine At.thenRet ?_
      obtain rfl := Option.some.inj H
      have hS : Sat w13 (rf w0) [] := hS.sel [] (by kernel_rfl)
      exact At.body [.int .i64 o11.1, .int .i64 o11.2] (by kernel_rfl) ⟨_, rfl, rfl, hS⟩
    · subst ho18
      dsimp only at H
      refine At.hit ?_
      refine At.go ?_
      refine WC.seq (by kernel_rfl) ?_
      refine WC.reg [0, 1] (by kernel_rfl) (by kernel_rfl) ?_
      refine WR.runk [0, 1] [] [4, 5] (L' := [(4, .int .i64 (-1)), (5, .int .i64 (-1))]) (w' := w17) (by kernel_rfl) ?_
      refine WR.nil ?_
      refine At.go ?_
      refine WC.ret (by kernel_rfl) ?_
      obtain rfl := Option.some.inj H
      have hS : Sat w17 (rf w0) [] := hS.sel [] (by kernel_rfl)
      exact At.body [.int .i64 (-1), .int .i64 (-1)] (by kernel_rfl) ⟨_, rfl, rfl, hS⟩
/-! ### 17 colophon/colophonref12.Back -/
def colophonref12_Back.l2 (l0 : List Int) (x8_l1 : Int) : Nat → Int → Option Int
  | 0, _ => none
  | k + 1, x5_l2 => (if decide (x5_l2 ≥ 0) then ((at? l0 x5_l2).bind fun v5 => ((at? l0 x8_l1).bind fun v7 => (if (v5 != v7) then colophonref12_Back.l2 l0 x8_l1 k (wi (x5_l2 - 1)) else some x5_l2))) else some x5_l2)
def colophonref12_Back.l1 (l0 : List Int) : Nat → (List Int) → Int → Option (List Int)
  | 0, _, _ => none
  | k + 1, x3_l1, x8_l1 => (if decide (x8_l1 < (l0.length : Int)) then ((colophonref12_Back.l2 l0 x8_l1 FU (wi (x8_l1 - 1))).bind fun o10 => ((app? 17592186044416 x3_l1 ([o10] : List Int)).bind fun y18 => colophonref12_Back.l1 l0 k y18 (wi (x8_l1 + 1)))) else some x3_l1)
def colophonref12_Back.f (l0 : List Int) : Option (List Int) := ((colophonref12_Back.l1 l0 FU ([] : List Int) 0).bind fun o22 => some o22)
def colophonref12_Back.post (w : World) (r : (List Int)) (v : Value) (w' : World) : Prop := ∃ (A0' : Option Addr) (c0' : Nat), v = (.slice A0' r.length c0' : Value) ∧ Sat w' (rf w) [osl 3 (r0 (.int .i64)) 1 A0' c0' r]
theorem colophonref12_Back.l2_ok {Q} (w0 : World) (A0 : Option Addr) (c0 : Nat) (l0 : List Int) (A3_l1 : Option Addr) (c3_l1 : Nat) (x3_l1 : List Int) (x8_l1 : Int) (R0 : rdS (r0 (.int .i64)) 1 (hp w0) A0 c0 l0) (out : Int) (hn0 : ∀ (w : World), Sat w (rf w0) [osl 3 (r0 (.int .i64)) 1 A3_l1 c3_l1 x3_l1] → At Q (.exit 2) 34 [(0, .slice A0 l0.length c0), (3, .slice A3_l1 x3_l1.length c3_l1), (5, .int .i64 out), (7, .int .i64 (l0.length : Int)), (8, .int .i64 x8_l1)] w) :
    ∀ (k : Nat) (x5_l2 : Int) (w : World), Sat w (rf w0) [osl 3 (r0 (.int .i64)) 1 A3_l1 c3_l1 x3_l1] → colophonref12_Back.l2 l0 x8_l1 k x5_l2 = some out → WL Try.prog (cbody (cbody (cl (cr (cr (cbody (cl (cr (cr (cbody (cbody (cr (cl (cr (cr C17))))))))))))))) Q 34 [(0, .slice A0 l0.length c0), (3, .slice A3_l1 x3_l1.length c3_l1), (4, .int .i64 x8_l1), (5, .int .i64 x5_l2), (7, .int .i64 (l0.length : Int)), (8, .int .i64 x8_l1)] w := by
  intro k
  induction k with
  | zero => intro x5_l2 w hS H; exact absurd (show none = some out from H) (by simp)
  | succ k ih =>
    intro x5_l2 w hS H
    unfold colophonref12_Back.l2 at H
    refine WL.round ?_
    refine WC.seq (by kernel_rfl) ?_
    refine WC.seq (by kernel_rfl) ?_
    refine WC.drawn (by kernel_rfl) (by kernel_rfl) 13 (by kernel_rfl) (fun w2 hw3 => ?_)
    have hS := hS.heap hw3.1 hw3.2
    refine WD.weaken [0, 3, 4, 5, 7, 8] (L' := [(0, .slice A0 l0.length c0), (3, .slice A3_l1 x3_l1.length c3_l1), (4, .int .i64 x8_l1), (5, .int .i64 x5_l2), (7, .int .i64 (l0.length : Int)), (8, .int .i64 x8_l1)]) (by kernel_rfl) ?_
    refine WD.pure (i := 0) (v := .int .i64 x5_l2) (by kernel_rfl) (by kernel_rfl) (fun _ => by kernel_rfl) ?_
    refine WD.weaken [0, 3, 4, 5, 7, 8, 13] (L' := [(0, .slice A0 l0.length c0), (3, .slice A3_l1 x3_l1.length c3_l1), (4, .int .i64 x8_l1), (5, .int .i64 x5_l2), (7, .int .i64 (l0.length : Int)), (8, .int .i64 x8_l1), (13, .int .i64 x5_l2)]) (by kernel_rfl) ?_
    refine WD.pure (i := 1) (v := .bool (decide (x5_l2 ≥ 0))) (by kernel_rfl) (by kernel_rfl) (fun _ => by kernel_rfl) ?_
    refine WD.weaken [0, 3, 4, 5, 7, 8, 14] (L' := [(0, .slice A0 l0.length c0), (3, .slice A3_l1 x3_l1.length c3_l1), (4, .int .i64 x8_l1), (5, .int .i64 x5_l2), (7, .int .i64 (l0.length : Int)), (8, .int .i64 x8_l1), (14, .bool (decide (x5_l2 ≥ 0)))]) (by kernel_rfl) ?_
    refine WD.pure (i := 2) (v := .bool (decide (x5_l2 ≥ 0))) (by kernel_rfl) (by kernel_rfl) (fun _ => by kernel_rfl) ?_
    refine WD.weaken [0, 3, 4, 5, 7, 8, 15] (L' := [(0, .slice A0 l0.length c0), (3, .slice A3_l1 x3_l1.length c3_l1), (4, .int .i64 x8_l1), (5, .int .i64 x5_l2), (7, .int .i64 (l0.length : Int)), (8, .int .i64 x8_l1), (15, .bool (decide (x5_l2 ≥ 0)))]) (by kernel_rfl) ?_
    refine WD.split 15 (b := decide (x5_l2 ≥ 0)) (by kernel_rfl) (fun hb4 => ?_) (fun hb4 => ?_)
    · replace H := ite_t H hb4
      refine WD.weaken [0, 3, 4, 5, 7, 8, 15] (L' := [(0, .slice A0 l0.length c0), (3, .slice A3_l1 x3_l1.length c3_l1), (4, .int .i64 x8_l1), (5, .int .i64 x5_l2), (7, .int .i64 (l0.length : Int)), (8, .int .i64 x8_l1), (15, .bool true)]) (by kernel_rfl) ?_
      refine WD.pure (i := 3) (v := .slice A0 l0.length c0) (by kernel_rfl) (by kernel_rfl) (fun _ => by kernel_rfl) ?_
      refine WD.weaken [0, 3, 4, 5, 7, 8, 15, 16] (L' := [(0, .slice A0 l0.length c0), (3, .slice A3_l1 x3_l1.length c3_l1), (4, .int .i64 x8_l1), (5, .int .i64 x5_l2), (7, .int .i64 (l0.length : Int)), (8, .int .i64 x8_l1), (15, .bool true), (16, .slice A0 l0.length c0)]) (by kernel_rfl) ?_
      refine WD.pure (i := 4) (v := .int .i64 x5_l2) (by kernel_rfl) (by kernel_rfl) (fun _ => by kernel_rfl) ?_
      refine WD.weaken [0, 3, 4, 5, 7, 8, 15, 16, 17] (L' := [(0, .slice A0 l0.length c0), (3, .slice A3_l1 x3_l1.length c3_l1), (4, .int .i64 x8_l1), (5, .int .i64 x5_l2), (7, .int .i64 (l0.length : Int)), (8, .int .i64 x8_l1), (15, .bool true), (16, .slice A0 l0.length c0), (17, .int .i64 x5_l2)]) (by kernel_rfl) ?_
      obtain ⟨v5, e6, H⟩ := bind_ex H
      refine WD.ofP (i := 5) (by kernel_rfl) (PSt.idx (k := .i64) (.tmp 16) (.tmp 17) (by kernel_rfl) (by kernel_rfl) E23 (by kernel_rfl) (by kernel_rfl) (rdS.up R0 hS.sub0) e6 ?_)
      refine WD.weaken [0, 3, 4, 5, 7, 8, 15, 16, 17, 18] (L' := [(0, .slice A0 l0.length c0), (3, .slice A3_l1 x3_l1.length c3_l1), (4, .int .i64 x8_l1), (5, .int .i64 x5_l2), (7, .int .i64 (l0.length : Int)), (8, .int .i64 x8_l1), (15, .bool true), (16, .slice A0 l0.length c0), (17, .int .i64 x5_l2), (18, .pointer (some (adr A0 x5_l2.toNat 1)))]) (by kernel_rfl) ?_
      refine WD.ofR (i := 6) (by kernel_rfl) (RSt.loadInt (t := 3) (.tmp 18) (by kernel_rfl) (by kernel_rfl) (by kernel_rfl) (by kernel_rfl) (rdS.up R0 hS.sub0) e6 ?_)
      refine WD.weaken [0, 3, 4, 5, 7, 8, 15, 16, 17, 18, 19] (L' := [(0, .slice A0 l0.length c0), (3, .slice A3_l1 x3_l1.length c3_l1), (4, .int .i64 x8_l1), (5, .int .i64 x5_l2), (7, .int .i64 (l0.length : Int)), (8, .int .i64 x8_l1), (15, .bool true), (16, .slice A0 l0.length c0), (17, .int .i64 x5_l2), (18, .pointer (some (adr A0 x5_l2.toNat 1))), (19, .int .i64 v5)]) (by kernel_rfl) ?_
      refine WD.pure (i := 7) (v := .slice A0 l0.length c0) (by kernel_rfl) (by kernel_rfl) (fun _ => by kernel_rfl) ?_
      refine WD.weaken [0, 3, 4, 5, 7, 8, 15, 16, 17, 18, 19, 20] (L' := [(0, .slice A0 l0.length c0), (3, .slice A3_l1 x3_l1.length c3_l1), (4, .int .i64 x8_l1), (5, .int .i64 x5_l2), (7, .int .i64 (l0.length : Int)), (8, .int .i64 x8_l1), (15, .bool true), (16, .slice A0 l0.length c0), (17, .int .i64 x5_l2), (18, .pointer (some (adr A0 x5_l2.toNat 1))), (19, .int .i64 v5), (20, .slice A0 l0.length c0)]) (by kernel_rfl) ?_
      refine WD.pure (i := 8) (v := .int .i64 x8_l1) (by kernel_rfl) (by kernel_rfl) (fun _ => by kernel_rfl) ?_
      refine WD.weaken [0, 3, 4, 5, 7, 8, 15, 16, 17, 18, 19, 20, 21] (L' := [(0, .slice A0 l0.length c0), (3, .slice A3_l1 x3_l1.length c3_l1), (4, .int .i64 x8_l1), (5, .int .i64 x5_l2), (7, .int .i64 (l0.length : Int)), (8, .int .i64 x8_l1), (15, .bool true), (16, .slice A0 l0.length c0), (17, .int .i64 x5_l2), (18, .pointer (some (adr A0 x5_l2.toNat 1))), (19, .int .i64 v5), (20, .slice A0 l0.length c0), (21, .int .i64 x8_l1)]) (by kernel_rfl) ?_
      obtain ⟨v7, e8, H⟩ := bind_ex H
      refine WD.ofP (i := 9) (by kernel_rfl) (PSt.idx (k := .i64) (.tmp 20) (.tmp 21) (by kernel_rfl) (by kernel_rfl) E23 (by kernel_rfl) (by kernel_rfl) (rdS.up R0 hS.sub0) e8 ?_)
      refine WD.weaken [0, 3, 4, 5, 7, 8, 15, 16, 17, 18, 19, 20, 21, 22] (L' := [(0, .slice A0 l0.length c0), (3, .slice A3_l1 x3_l1.length c3_l1), (4, .int .i64 x8_l1), (5, .int .i64 x5_l2), (7, .int .i64 (l0.length : Int)), (8, .int .i64 x8_l1), (15, .bool true), (16, .slice A0 l0.length c0), (17, .int .i64 x5_l2), (18, .pointer (some (adr A0 x5_l2.toNat 1))), (19, .int .i64 v5), (20, .slice A0 l0.length c0), (21, .int .i64 x8_l1), (22, .pointer (some (adr A0 x8_l1.toNat 1)))]) (by kernel_rfl) ?_
      refine WD.ofR (i := 10) (by kernel_rfl) (RSt.loadInt (t := 3) (.tmp 22) (by kernel_rfl) (by kernel_rfl) (by kernel_rfl) (by kernel_rfl) (rdS.up R0 hS.sub0) e8 ?_)
      refine WD.weaken [0, 3, 4, 5, 7, 8, 15, 16, 17, 18, 19, 20, 21, 22, 23] (L' := [(0, .slice A0 l0.length c0), (3, .slice A3_l1 x3_l1.length c3_l1), (4, .int .i64 x8_l1), (5, .int .i64 x5_l2), (7, .int .i64 (l0.length : Int)), (8, .int .i64 x8_l1), (15, .bool true), (16, .slice A0 l0.length c0), (17, .int .i64 x5_l2), (18, .pointer (some (adr A0 x5_l2.toNat 1))), (19, .int .i64 v5), (20, .slice A0 l0.length c0), (21, .int .i64 x8_l1), (22, .pointer (some (adr A0 x8_l1.toNat 1))), (23, .int .i64 v7)]) (by kernel_rfl) ?_
      refine WD.pure (i := 11) (v := .bool (v5 != v7)) (by kernel_rfl) (by kernel_rfl) (fun _ => by kernel_rfl) ?_
      refine WD.weaken [0, 3, 4, 5, 7, 8, 15, 16, 17, 18, 19, 20, 21, 22, 23, 24] (L' := [(0, .slice A0 l0.length c0), (3, .slice A3_l1 x3_l1.length c3_l1), (4, .int .i64 x8_l1), (5, .int .i64 x5_l2), (7, .int .i64 (l0.length : Int)), (8, .int .i64 x8_l1), (15, .bool true), (16, .slice A0 l0.length c0), (17, .int .i64 x5_l2), (18, .pointer (some (adr A0 x5_l2.toNat 1))), (19, .int .i64 v5), (20, .slice A0 l0.length c0), (21, .int .i64 x8_l1), (22, .pointer (some (adr A0 x8_l1.toNat 1))), (23, .int .i64 v7), (24, .bool (v5 != v7))]) (by kernel_rfl) ?_
      refine WD.pure (i := 12) (v := .bool (v5 != v7)) (by kernel_rfl) (by kernel_rfl) (fun _ => by kernel_rfl) ?_
      refine WD.weaken [0, 3, 4, 5, 7, 8, 16, 17, 18, 19, 20, 21, 22, 23, 24, 25] (L' := [(0, .slice A0 l0.length c0), (3, .slice A3_l1 x3_l1.length c3_l1), (4, .int .i64 x8_l1), (5, .int .i64 x5_l2), (7, .int .i64 (l0.length : Int)), (8, .int .i64 x8_l1), (16, .slice A0 l0.length c0), (17, .int .i64 x5_l2), (18, .pointer (some (adr A0 x5_l2.toNat 1))), (19, .int .i64 v5), (20, .slice A0 l0.length c0), (21, .int .i64 x8_l1), (22, .pointer (some (adr A0 x8_l1.toNat 1))), (23, .int .i64 v7), (24, .bool (v5 != v7)), (25, .bool (v5 != v7))]) (by kernel_rfl) ?_
      refine WD.nil (by kernel_rfl) ?_
      refine At.go ?_
      refine WC.cond (by kernel_rfl) (v5 != v7) (by kernel_rfl) (by kernel_rfl) (fun hb9 => ?_) (fun hb9 => ?_)
      · replace H := ite_t H hb9
        refine WC.skip (by kernel_rfl) ?_
        refine At.go ?_
        refine WC.block (by kernel_rfl) ?_
        refine WC.reg [0, 1, 2] (by kernel_rfl) (by kernel_rfl) ?_
        refine WR.runk [0, 1, 2] [] [0, 3, 4, 5, 7, 8, 16, 17, 18, 19, 20, 21, 22, 23] (L' := [(0, .slice A0 l0.length c0), (3, .slice A3_l1 x3_l1.length c3_l1), (4, .int .i64 x8_l1), (5, .int .i64 (wi (x5_l2 - 1))), (7, .int .i64 (l0.length : Int)), (8, .int .i64 x8_l1), (16, .slice A0 l0.length c0), (17, .int .i64 x5_l2), (18, .pointer (some (adr A0 x5_l2.toNat 1))), (19, .int .i64 v5), (20, .slice A0 l0.length c0), (21, .int .i64 x8_l1), (22, .pointer (some (adr A0 x8_l1.toNat 1))), (23, .int .i64 v7)]) (w' := w2) (by kernel_rfl) ?_
        refine WR.nil ?_
        refine At.blockNormal ?_
        have hS : Sat w2 (rf w0) [osl 3 (r0 (.int .i64)) 1 A3_l1 c3_l1 x3_l1] := hS.sel [0] (by kernel_rfl)
        refine At.again ?_
        refine WL.weaken [0, 3, 4, 5, 7, 8] (L' := [(0, .slice A0 l0.length c0), (3, .slice A3_l1 x3_l1.length c3_l1), (4, .int .i64 x8_l1), (5, .int .i64 (wi (x5_l2 - 1))), (7, .int .i64 (l0.length : Int)), (8, .int .i64 x8_l1)]) (by kernel_rfl) ?_
        exact ih (wi (x5_l2 - 1)) _ hS H
      · replace H := ite_f H hb9
        refine WC.exit (by kernel_rfl) ?_
        refine At.thenExit ?_
        refine At.thenExit ?_
        obtain rfl := Option.some.inj H
        have hS : Sat w2 (rf w0) [osl 3 (r0 (.int .i64)) 1 A3_l1 c3_l1 x3_l1] := hS.sel [0] (by kernel_rfl)
        refine At.weaken [0, 3, 5, 7, 8] (L' := [(0, .slice A0 l0.length c0), (3, .slice A3_l1 x3_l1.length c3_l1), (5, .int .i64 x5_l2), (7, .int .i64 (l0.length : Int)), (8, .int .i64 x8_l1)]) (by kernel_rfl) ?_
        exact hn0 _ hS
    · replace H := ite_f H hb4
      refine WD.weaken [0, 3, 4, 5, 7, 8, 15] (L' := [(0, .slice A0 l0.length c0), (3, .slice A3_l1 x3_l1.length c3_l1), (4, .int .i64 x8_l1), (5, .int .i64 x5_l2), (7, .int .i64 (l0.length : Int)), (8, .int .i64 x8_l1), (15, .bool false)]) (by kernel_rfl) ?_
      refine WD.skip (i := 3) (by kernel_rfl) (by kernel_rfl) ?_
      refine WD.weaken [0, 3, 4, 5, 7, 8, 15, 16] (L' := [(0, .slice A0 l0.length c0), (3, .slice A3_l1 x3_l1.length c3_l1), (4, .int .i64 x8_l1), (5, .int .i64 x5_l2), (7, .int .i64 (l0.length : Int)), (8, .int .i64 x8_l1), (15, .bool false), (16, undef)]) (by kernel_rfl) ?_
      refine WD.skip (i := 4) (by kernel_rfl) (by kernel_rfl) ?_
      refine WD.weaken [0, 3, 4, 5, 7, 8, 15, 16, 17] (L' := [(0, .slice A0 l0.length c0), (3, .slice A3_l1 x3_l1.length c3_l1), (4, .int .i64 x8_l1), (5, .int .i64 x5_l2), (7, .int .i64 (l0.length : Int)), (8, .int .i64 x8_l1), (15, .bool false), (16, undef), (17, undef)]) (by kernel_rfl) ?_
      refine WD.skip (i := 5) (by kernel_rfl) (by kernel_rfl) ?_
      refine WD.weaken [0, 3, 4, 5, 7, 8, 15, 16, 17, 18] (L' := [(0, .slice A0 l0.length c0), (3, .slice A3_l1 x3_l1.length c3_l1), (4, .int .i64 x8_l1), (5, .int .i64 x5_l2), (7, .int .i64 (l0.length : Int)), (8, .int .i64 x8_l1), (15, .bool false), (16, undef), (17, undef), (18, undef)]) (by kernel_rfl) ?_
      refine WD.skip (i := 6) (by kernel_rfl) (by kernel_rfl) ?_
      refine WD.weaken [0, 3, 4, 5, 7, 8, 15, 16, 17, 18, 19] (L' := [(0, .slice A0 l0.length c0), (3, .slice A3_l1 x3_l1.length c3_l1), (4, .int .i64 x8_l1), (5, .int .i64 x5_l2), (7, .int .i64 (l0.length : Int)), (8, .int .i64 x8_l1), (15, .bool false), (16, undef), (17, undef), (18, undef), (19, undef)]) (by kernel_rfl) ?_
      refine WD.skip (i := 7) (by kernel_rfl) (by kernel_rfl) ?_
      refine WD.weaken [0, 3, 4, 5, 7, 8, 15, 16, 17, 18, 19, 20] (L' := [(0, .slice A0 l0.length c0), (3, .slice A3_l1 x3_l1.length c3_l1), (4, .int .i64 x8_l1), (5, .int .i64 x5_l2), (7, .int .i64 (l0.length : Int)), (8, .int .i64 x8_l1), (15, .bool false), (16, undef), (17, undef), (18, undef), (19, undef), (20, undef)]) (by kernel_rfl) ?_
      refine WD.skip (i := 8) (by kernel_rfl) (by kernel_rfl) ?_
      refine WD.weaken [0, 3, 4, 5, 7, 8, 15, 16, 17, 18, 19, 20, 21] (L' := [(0, .slice A0 l0.length c0), (3, .slice A3_l1 x3_l1.length c3_l1), (4, .int .i64 x8_l1), (5, .int .i64 x5_l2), (7, .int .i64 (l0.length : Int)), (8, .int .i64 x8_l1), (15, .bool false), (16, undef), (17, undef), (18, undef), (19, undef), (20, undef), (21, undef)]) (by kernel_rfl) ?_
      refine WD.skip (i := 9) (by kernel_rfl) (by kernel_rfl) ?_
      refine WD.weaken [0, 3, 4, 5, 7, 8, 15, 16, 17, 18, 19, 20, 21, 22] (L' := [(0, .slice A0 l0.length c0), (3, .slice A3_l1 x3_l1.length c3_l1), (4, .int .i64 x8_l1), (5, .int .i64 x5_l2), (7, .int .i64 (l0.length : Int)), (8, .int .i64 x8_l1), (15, .bool false), (16, undef), (17, undef), (18, undef), (19, undef), (20, undef), (21, undef), (22, undef)]) (by kernel_rfl) ?_
      refine WD.skip (i := 10) (by kernel_rfl) (by kernel_rfl) ?_
      refine WD.weaken [0, 3, 4, 5, 7, 8, 15, 16, 17, 18, 19, 20, 21, 22, 23] (L' := [(0, .slice A0 l0.length c0), (3, .slice A3_l1 x3_l1.length c3_l1), (4, .int .i64 x8_l1), (5, .int .i64 x5_l2), (7, .int .i64 (l0.length : Int)), (8, .int .i64 x8_l1), (15, .bool false), (16, undef), (17, undef), (18, undef), (19, undef), (20, undef), (21, undef), (22, undef), (23, undef)]) (by kernel_rfl) ?_
      refine WD.skip (i := 11) (by kernel_rfl) (by kernel_rfl) ?_
      refine WD.weaken [0, 3, 4, 5, 7, 8, 15, 16, 17, 18, 19, 20, 21, 22, 23, 24] (L' := [(0, .slice A0 l0.length c0), (3, .slice A3_l1 x3_l1.length c3_l1), (4, .int .i64 x8_l1), (5, .int .i64 x5_l2), (7, .int .i64 (l0.length : Int)), (8, .int .i64 x8_l1), (15, .bool false), (16, undef), (17, undef), (18, undef), (19, undef), (20, undef), (21, undef), (22, undef), (23, undef), (24, undef)]) (by kernel_rfl) ?_
      refine WD.pure (i := 12) (v := .bool false) (by kernel_rfl) (by kernel_rfl) (fun _ => by kernel_rfl) ?_
      refine WD.weaken [0, 3, 4, 5, 7, 8, 16, 17, 18, 19, 20, 21, 22, 23, 24, 25] (L' := [(0, .slice A0 l0.length c0), (3, .slice A3_l1 x3_l1.length c3_l1), (4, .int .i64 x8_l1), (5, .int .i64 x5_l2), (7, .int .i64 (l0.length : Int)), (8, .int .i64 x8_l1), (16, undef), (17, undef), (18, undef), (19, undef), (20, undef), (21, undef), (22, undef), (23, undef), (24, undef), (25, .bool false)]) (by kernel_rfl) ?_
      refine WD.nil (by kernel_rfl) ?_
      refine At.go ?_
      refine WC.condF (by kernel_rfl) (by kernel_rfl) (by kernel_rfl) ?_
      refine WC.exit (by kernel_rfl) ?_
      refine At.thenExit ?_
      refine At.thenExit ?_
      obtain rfl := Option.some.inj H
      have hS : Sat w2 (rf w0) [osl 3 (r0 (.int .i64)) 1 A3_l1 c3_l1 x3_l1] := hS.sel [0] (by kernel_rfl)
      refine At.weaken [0, 3, 5, 7, 8] (L' := [(0, .slice A0 l0.length c0), (3, .slice A3_l1 x3_l1.length c3_l1), (5, .int .i64 x5_l2), (7, .int .i64 (l0.length : Int)), (8, .int .i64 x8_l1)]) (by kernel_rfl) ?_
      exact hn0 _ hS
theorem colophonref12_Back.l1_ok {Q} (w0 : World) (A0 : Option Addr) (c0 : Nat) (l0 : List Int) (R0 : rdS (r0 (.int .i64)) 1 (hp w0) A0 c0 l0) (out : (List Int)) (hn0 : ∀ (A3_q : Option Addr) (c3_q : Nat) (w : World), Sat w (rf w0) [osl 3 (r0 (.int .i64)) 1 A3_q c3_q out] → At Q (.exit 0) 34 [(3, .slice A3_q out.length c3_q)] w) :
    ∀ (k : Nat) (x3_l1 : List Int) (x8_l1 : Int) (A3_l1 : Option Addr) (c3_l1 : Nat) (w : World), Sat w (rf w0) [osl 3 (r0 (.int .i64)) 1 A3_l1 c3_l1 x3_l1] → colophonref12_Back.l1 l0 k x3_l1 x8_l1 = some out → WL Try.prog (cbody (cbody (cr (cl (cr (cr C17)))))) Q 34 [(0, .slice A0 l0.length c0), (3, .slice A3_l1 x3_l1.length c3_l1), (7, .int .i64 (l0.length : Int)), (8, .int .i64 x8_l1)] w := by
  intro k
  induction k with
  | zero => intro x3_l1 x8_l1 A3_l1 c3_l1 w hS H; exact absurd (show none = some out from H) (by simp)
  | succ k ih =>
    intro x3_l1 x8_l1 A3_l1 c3_l1 w hS H
    unfold colophonref12_Back.l1 at H
    refine WL.round ?_
    refine WC.seq (by kernel_rfl) ?_
    refine WC.reg [0] (by kernel_rfl) (by kernel_rfl) ?_
    refine WR.runk [0] [] [0, 3, 7, 8, 9] (L' := [(0, .slice A0 l0.length c0), (3, .slice A3_l1 x3_l1.length c3_l1), (7, .int .i64 (l0.length : Int)), (8, .int .i64 x8_l1), (9, .bool (decide (x8_l1 < (l0.length : Int))))]) (w' := w) (by kernel_rfl) ?_
    refine WR.nil ?_
    refine At.go ?_
    refine WC.seq (by kernel_rfl) ?_
    refine WC.cond (by kernel_rfl) (decide (x8_l1 < (l0.length : Int))) (by kernel_rfl) (by kernel_rfl) (fun hb1 => ?_) (fun hb1 => ?_)
    · replace H := ite_t H hb1
      refine WC.skip (by kernel_rfl) ?_
      refine At.go ?_
      refine WC.seq (by kernel_rfl) ?_
      refine WC.block (by kernel_rfl) ?_
      refine WC.seq (by kernel_rfl) ?_
      refine WC.reg [0, 1] (by kernel_rfl) (by kernel_rfl) ?_
      refine WR.runk [0, 1] [] [0, 3, 4, 7, 8] (L' := [(0, .slice A0 l0.length c0), (3, .slice A3_l1 x3_l1.length c3_l1), (4, .int .i64 x8_l1), (7, .int .i64 (l0.length : Int)), (8, .int .i64 x8_l1)]) (w' := w) (by kernel_rfl) ?_
      refine WR.nil ?_
      refine At.go ?_
      refine WC.seq (by kernel_rfl) ?_
      refine WC.reg [0, 1, 2] (by kernel_rfl) (by kernel_rfl) ?_
      refine WR.runk [0, 1, 2] [] [0, 3, 4, 5, 7, 8] (L' := [(0, .slice A0 l0.length c0), (3, .slice A3_l1 x3_l1.length c3_l1), (4, .int .i64 x8_l1), (5, .int .i64 (wi (x8_l1 - 1))), (7, .int .i64 (l0.length : Int)), (8, .int .i64 x8_l1)]) (w' := w) (by kernel_rfl) ?_
      refine WR.nil ?_
      refine At.go ?_
      refine WC.seq (by kernel_rfl) ?_
      refine WC.block (by kernel_rfl) ?_
      have hS : Sat w (rf w0) [osl 3 (r0 (.int .i64)) 1 A3_l1 c3_l1 x3_l1] := hS.sel [0] (by kernel_rfl)
      obtain ⟨o10, e11, H⟩ := bind_ex H
      refine WC.loop (by kernel_rfl) ?_
      refine WL.weaken [0, 3, 4, 5, 7, 8] (L' := [(0, .slice A0 l0.length c0), (3, .slice A3_l1 x3_l1.length c3_l1), (4, .int .i64 x8_l1), (5, .int .i64 (wi (x8_l1 - 1))), (7, .int .i64 (l0.length : Int)), (8, .int .i64 x8_l1)]) (by kernel_rfl) ?_
      refine colophonref12_Back.l2_ok w0 A0 c0 l0 A3_l1 c3_l1 x3_l1 x8_l1 R0 o10 (fun w13 hS => ?_) FU (wi (x8_l1 - 1)) _ hS e11
      refine At.hit ?_
      refine At.go ?_
      refine WC.reg [0, 1, 2, 3, 4] (by kernel_rfl) (by kernel_rfl) ?_
      refine WR.runk [0, 1] [2, 3, 4] [0, 3, 7, 8, 28, 29] (L' := [(0, .slice A0 l0.length c0), (3, .slice A3_l1 x3_l1.length c3_l1), (7, .int .i64 (l0.length : Int)), (8, .int .i64 x8_l1), (28, .slice A3_l1 x3_l1.length c3_l1), (29, .int .i64 o10)]) (w' := w13) (by kernel_rfl) ?_
      refine WR.st (St.box hS (by kernel_rfl) (.cells #[.int .i64 o10] 3) (fun b15 => .slice (some ⟨b15, 0, none⟩) 1 1) (fun _ => by kernel_rfl) (fun b15 w16 hS => ?_))
      refine WR.runk [] [3, 4] [0, 3, 7, 8, 28, 30] (L' := [(0, .slice A0 l0.length c0), (3, .slice A3_l1 x3_l1.length c3_l1), (7, .int .i64 (l0.length : Int)), (8, .int .i64 x8_l1), (28, .slice A3_l1 x3_l1.length c3_l1), (30, .slice (some ⟨b15, 0, none⟩) 1 1)]) (w' := w16) (by kernel_rfl) ?_
      have hS : Sat w16 (rf w0) [osl 3 (r0 (.int .i64)) 1 A3_l1 c3_l1 x3_l1, pts b15 (.cells #[.int .i64 o10] 3 (0, 0))] := hS.sel [1, 0] (by kernel_rfl)
      obtain ⟨y18, e17, H⟩ := bind_ex H
      refine WR.st (St.append' (.tmp 28) (.tmp 30) (by kernel_rfl) (by kernel_rfl) E23 (r0_one _) hS (by kernel_rfl) (by kernel_rfl) (Sat.ptsAt 1 (r0 (.int .i64)) 1 ([o10] : List Int) hS rfl rfl (rdL.cons1 rfl (rdL.nil _ _))) 17592186044416 (by kernel_rfl) (by kernel_rfl) e17 (fun A19 c20 w21 hS => ?_))
      refine WR.runk [4] [] [0, 3, 7, 8] (L' := [(0, .slice A0 l0.length c0), (3, .slice A19 y18.length c20), (7, .int .i64 (l0.length : Int)), (8, .int .i64 x8_l1)]) (w' := w21) (by kernel_rfl) ?_
      refine WR.nil ?_
      refine At.blockNormal ?_
      refine At.go ?_
      refine WC.reg [0, 1] (by kernel_rfl) (by kernel_rfl) ?_
      refine WR.runk [0, 1] [] [0, 3, 7, 8] (L' := [(0, .slice A0 l0.length c0), (3, .slice A19 y18.length c20), (7, .int .i64 (l0.length : Int)), (8, .int .i64 (wi (x8_l1 + 1)))]) (w' := w21) (by kernel_rfl) ?_
      refine WR.nil ?_
      have hS : Sat w21 (rf w0) [osl 3 (r0 (.int .i64)) 1 A19 c20 y18] := hS.sel [0] (by kernel_rfl)
      refine At.again ?_
      refine WL.weaken [0, 3, 7, 8] (L' := [(0, .slice A0 l0.length c0), (3, .slice A19 y18.length c20), (7, .int .i64 (l0.length : Int)), (8, .int .i64 (wi (x8_l1 + 1)))]) (by kernel_rfl) ?_
      exact ih y18 (wi (x8_l1 + 1)) A19 c20 _ hS H
    · replace H := ite_f H hb1
      refine WC.exit (by kernel_rfl) ?_
      refine At.thenExit ?_
      refine At.thenExit ?_
      obtain rfl := Option.some.inj H
      have hS : Sat w (rf w0) [osl 3 (r0 (.int .i64)) 1 A3_l1 c3_l1 x3_l1] := hS.sel [0] (by kernel_rfl)
      refine At.weaken [3] (L' := [(3, .slice A3_l1 x3_l1.length c3_l1)]) (by kernel_rfl) ?_
      exact hn0 A3_l1 c3_l1 _ hS
theorem colophonref12_Back.calls (w0 : World) (A0 : Option Addr) (c0 : Nat) (l0 : List Int) (R0 : rdS (r0 (.int .i64)) 1 (hp w0) A0 c0 l0) (r : (List Int)) (H : colophonref12_Back.f l0 = some r) :
    Calls Try.prog 17 #[.slice A0 l0.length c0] w0 (fun e w' => ∃ v, e = .returned v ∧ colophonref12_Back.post w0 r v w') := by
  have hS : Sat w0 (rf w0) [] := Sat.start w0
  unfold colophonref12_Back.f at H
  refine calls_of_WC (vs := [.slice A0 l0.length c0]) Try.func17 (c := C17) (n := 34) (by kernel_rfl) (by kernel_rfl) (by kernel_rfl) ?_
  refine WC.seq (by kernel_rfl) ?_
  refine WC.reg [0] (by kernel_rfl) (by kernel_rfl) ?_
  refine WR.runk [0] [] [0] (L' := [(0, .slice A0 l0.length c0)]) (w' := w0) (by kernel_rfl) ?_
  refine WR.nil ?_
  refine At.go ?_
  refine WC.seq (by kernel_rfl) ?_
  refine WC.reg [0] (by kernel_rfl) (by kernel_rfl) ?_
  refine WR.runk [0] [] [0, 3] (L' := [(0, .slice A0 l0.length c0), (3, .slice none 0 0)]) (w' := w0) (by kernel_rfl) ?_
  refine WR.nil ?_
  refine At.go ?_
  refine WC.seq (by kernel_rfl) ?_
  refine WC.seq (by kernel_rfl) ?_
  refine WC.reg [0, 1, 2] (by kernel_rfl) (by kernel_rfl) ?_
  refine WR.runk [0, 1, 2] [] [0, 3, 7, 8] (L' := [(0, .slice A0 l0.length c0), (3, .slice none 0 0), (7, .int .i64 (l0.length : Int)), (8, .int .i64 0)]) (w' := w0) (by kernel_rfl) ?_
  refine WR.nil ?_
  refine At.go ?_
  refine WC.block (by kernel_rfl) ?_
  have hS := hS.addNil (α := Int) 3 (r0 (.int .i64)) 1
  have hS : Sat w0 (rf w0) [osl 3 (r0 (.int .i64)) 1 none 0 ([] : List Int)] := hS.sel [0] (by kernel_rfl)
  obtain ⟨o22, e23, H⟩ := bind_ex H
  refine WC.loop (by kernel_rfl) ?_
  refine WL.weaken [0, 3, 7, 8] (L' := [(0, .slice A0 l0.length c0), (3, .slice none 0 0), (7, .int .i64 (l0.length : Int)), (8, .int .i64 0)]) (by kernel_rfl) ?_
  refine colophonref12_Back.l1_ok w0 A0 c0 l0 R0 o22 (fun A3_q24 c3_q24 w25 hS => ?_) FU ([] : List Int) 0 none 0 _ hS e23
  refine At.hit ?_
  refine At.go ?_
  refine WC.seq (by kernel_rfl) ?_
  refine WC.reg [0, 1] (by kernel_rfl) (by kernel_rfl) ?_
  refine WR.runk [0, 1] [] [2] (L' := [(2, .slice A3_q24 o22.length c3_q24)]) (w' := w25) (by kernel_rfl) ?_
  refine WR.nil ?_
  refine At.go ?_
  refine WC.ret (by kernel_rfl) ?_
  obtain rfl := Option.some.inj H
  have hS : Sat w25 (rf w0) [osl 3 (r0 (.int .i64)) 1 A3_q24 c3_q24 o22] := hS.sel [0] (by kernel_rfl)
  exact At.body [.slice A3_q24 o22.length c3_q24] (by kernel_rfl) ⟨_, rfl, _, _, rfl, hS⟩
/-! ### 18 colophon/colophonref12.Ahead -/
def colophonref12_Ahead.l2 (l0 : List Int) (x8_l1 : Int) : Nat → Int → Option Int
  | 0, _ => none
  | k + 1, x5_l2 => (if decide (x5_l2 < (l0.length : Int)) then ((at? l0 x5_l2).bind fun v5 => ((at? l0 x8_l1).bind fun v7 => (if (v5 != v7) then colophonref12_Ahead.l2 l0 x8_l1 k (wi (x5_l2 + 1)) else some x5_l2))) else some x5_l2)
def colophonref12_Ahead.l1 (l0 : List Int) : Nat → (List Int) → Int → Option (List Int)
  | 0, _, _ => none
  | k + 1, x3_l1, x8_l1 => (if decide (x8_l1 < (l0.length : Int)) then ((colophonref12_Ahead.l2 l0 x8_l1 FU (wi (x8_l1 + 1))).bind fun o10 => ((app? 17592186044416 x3_l1 ([o10] : List Int)).bind fun y18 => colophonref12_Ahead.l1 l0 k y18 (wi (x8_l1 + 1)))) else some x3_l1)
def colophonref12_Ahead.f (l0 : List Int) : Option (List Int) := ((colophonref12_Ahead.l1 l0 FU ([] : List Int) 0).bind fun o22 => some o22)
def colophonref12_Ahead.post (w : World) (r : (List Int)) (v : Value) (w' : World) : Prop := ∃ (A0' : Option Addr) (c0' : Nat), v = (.slice A0' r.length c0' : Value) ∧ Sat w' (rf w) [osl 3 (r0 (.int .i64)) 1 A0' c0' r]
theorem colophonref12_Ahead.l2_ok {Q} (w0 : World) (A0 : Option Addr) (c0 : Nat) (l0 : List Int) (A3_l1 : Option Addr) (c3_l1 : Nat) (x3_l1 : List Int) (x8_l1 : Int) (R0 : rdS (r0 (.int .i64)) 1 (hp w0) A0 c0 l0) (out : Int) (hn0 : ∀ (w : World), Sat w (rf w0) [osl 3 (r0 (.int .i64)) 1 A3_l1 c3_l1 x3_l1] → At Q (.exit 2) 36 [(0, .slice A0 l0.length c0), (3, .slice A3_l1 x3_l1.length c3_l1), (5, .int .i64 out), (7, .int .i64 (l0.length : Int)), (8, .int .i64 x8_l1)] w) :
    ∀ (k : Nat) (x5_l2 : Int) (w : World), Sat w (rf w0) [osl 3 (r0 (.int .i64)) 1 A3_l1 c3_l1 x3_l1] → colophonref12_Ahead.l2 l0 x8_l1 k x5_l2 = some out → WL Try.prog (cbody (cbody (cl (cr (cr (cbody (cl (cr (cr (cbody (cbody (cr (cl (cr (cr C18))))))))))))))) Q 36 [(0, .slice A0 l0.length c0), (3, .slice A3_l1 x3_l1.length c3_l1), (4, .int .i64 x8_l1), (5, .int .i64 x5_l2), (7, .int .i64 (l0.length : Int)), (8, .int .i64 x8_l1)] w := by
  intro k
  induction k with
  | zero => intro x5_l2 w hS H; exact absurd (show none = some out from H) (by simp)
  | succ k ih =>
    intro x5_l2 w hS H
    unfold colophonref12_Ahead.l2 at H
    refine WL.round ?_
    refine WC.seq (by kernel_rfl) ?_
    refine WC.seq (by kernel_rfl) ?_
    refine WC.drawn (by kernel_rfl) (by kernel_rfl) 15 (by kernel_rfl) (fun w2 hw3 => ?_)
    have hS := hS.heap hw3.1 hw3.2
    refine WD.weaken [0, 3, 4, 5, 7, 8] (L' := [(0, .slice A0 l0.length c0), (3, .slice A3_l1 x3_l1.length c3_l1), (4, .int .i64 x8_l1), (5, .int .i64 x5_l2), (7, .int .i64 (l0.length : Int)), (8, .int .i64 x8_l1)]) (by kernel_rfl) ?_
    refine WD.pure (i := 0) (v := .int .i64 x5_l2) (by kernel_rfl) (by kernel_rfl) (fun _ => by kernel_rfl) ?_
    refine WD.weaken [0, 3, 4, 5, 7, 8, 13] (L' := [(0, .slice A0 l0.length c0), (3, .slice A3_l1 x3_l1.length c3_l1), (4, .int .i64 x8_l1), (5, .int .i64 x5_l2), (7, .int .i64 (l0.length : Int)), (8, .int .i64 x8_l1), (13, .int .i64 x5_l2)]) (by kernel_rfl) ?_
    refine WD.pure (i := 1) (v := .slice A0 l0.length c0) (by kernel_rfl) (by kernel_rfl) (fun _ => by kernel_rfl) ?_
    refine WD.weaken [0, 3, 4, 5, 7, 8, 13, 14] (L' := [(0, .slice A0 l0.length c0), (3, .slice A3_l1 x3_l1.length c3_l1), (4, .int .i64 x8_l1), (5, .int .i64 x5_l2), (7, .int .i64 (l0.length : Int)), (8, .int .i64 x8_l1), (13, .int .i64 x5_l2), (14, .slice A0 l0.length c0)]) (by kernel_rfl) ?_
    refine WD.pure (i := 2) (v := .int .i64 (l0.length : Int)) (by kernel_rfl) (by kernel_rfl) (fun _ => by kernel_rfl) ?_
    refine WD.weaken [0, 3, 4, 5, 7, 8, 13, 15] (L' := [(0, .slice A0 l0.length c0), (3, .slice A3_l1 x3_l1.length c3_l1), (4, .int .i64 x8_l1), (5, .int .i64 x5_l2), (7, .int .i64 (l0.length : Int)), (8, .int .i64 x8_l1), (13, .int .i64 x5_l2), (15, .int .i64 (l0.length : Int))]) (by kernel_rfl) ?_
    refine WD.pure (i := 3) (v := .bool (decide (x5_l2 < (l0.length : Int)))) (by kernel_rfl) (by kernel_rfl) (fun _ => by kernel_rfl) ?_
    refine WD.weaken [0, 3, 4, 5, 7, 8, 16] (L' := [(0, .slice A0 l0.length c0), (3, .slice A3_l1 x3_l1.length c3_l1), (4, .int .i64 x8_l1), (5, .int .i64 x5_l2), (7, .int .i64 (l0.length : Int)), (8, .int .i64 x8_l1), (16, .bool (decide (x5_l2 < (l0.length : Int))))]) (by kernel_rfl) ?_
    refine WD.pure (i := 4) (v := .bool (decide (x5_l2 < (l0.length : Int)))) (by kernel_rfl) (by kernel_rfl) (fun _ => by kernel_rfl) ?_
    refine WD.weaken [0, 3, 4, 5, 7, 8, 17] (L' := [(0, .slice A0 l0.length c0), (3, .slice A3_l1 x3_l1.length c3_l1), (4, .int .i64 x8_l1), (5, .int .i64 x5_l2), (7, .int .i64 (l0.length : Int)), (8, .int .i64 x8_l1), (17, .bool (decide (x5_l2 < (l0.length : Int))))]) (by kernel_rfl) ?_
    refine WD.split 17 (b := decide (x5_l2 < (l0.length : Int))) (by kernel_rfl) (fun hb4 => ?_) (fun hb4 => ?_)
    · replace H := ite_t H hb4
      refine WD.weaken [0, 3, 4, 5, 7, 8, 17] (L' := [(0, .slice A0 l0.length c0), (3, .slice A3_l1 x3_l1.length c3_l1), (4, .int .i64 x8_l1), (5, .int .i64 x5_l2), (7, .int .i64 (l0.length : Int)), (8, .int .i64 x8_l1), (17, .bool true)]) (by kernel_rfl) ?_
      refine WD.pure (i := 5) (v := .slice A0 l0.length c0) (by kernel_rfl) (by kernel_rfl) (fun _ => by kernel_rfl) ?_
      refine WD.weaken [0, 3, 4, 5, 7, 8, 17, 18] (L' := [(0, .slice A0 l0.length c0), (3, .slice A3_l1 x3_l1.length c3_l1), (4, .int .i64 x8_l1), (5, .int .i64 x5_l2), (7, .int .i64 (l0.length : Int)), (8, .int .i64 x8_l1), (17, .bool true), (18, .slice A0 l0.length c0)]) (by kernel_rfl) ?_
      refine WD.pure (i := 6) (v := .int .i64 x5_l2) (by kernel_rfl) (by kernel_rfl) (fun _ => by kernel_rfl) ?_
      refine WD.weaken [0, 3, 4, 5, 7, 8, 17, 18, 19] (L' := [(0, .slice A0 l0.length c0), (3, .slice A3_l1 x3_l1.length c3_l1), (4, .int .i64 x8_l1), (5, .int .i64 x5_l2), (7, .int .i64 (l0.length : Int)), (8, .int .i64 x8_l1), (17, .bool true), (18, .slice A0 l0.length c0), (19, .int .i64 x5_l2)]) (by kernel_rfl) ?_
      obtain ⟨v5, e6, H⟩ := bind_ex H
      refine WD.ofP (i := 7) (by kernel_rfl) (PSt.idx (k := .i64) (.tmp 18) (.tmp 19) (by kernel_rfl) (by kernel_rfl) E23 (by kernel_rfl) (by kernel_rfl) (rdS.up R0 hS.sub0) e6 ?_)
      refine WD.weaken [0, 3, 4, 5, 7, 8, 17, 18, 19, 20] (L' := [(0, .slice A0 l0.length c0), (3, .slice A3_l1 x3_l1.length c3_l1), (4, .int .i64 x8_l1), (5, .int .i64 x5_l2), (7, .int .i64 (l0.length : Int)), (8, .int .i64 x8_l1), (17, .bool true), (18, .slice A0 l0.length c0), (19, .int .i64 x5_l2), (20, .pointer (some (adr A0 x5_l2.toNat 1)))]) (by kernel_rfl) ?_
      refine WD.ofR (i := 8) (by kernel_rfl) (RSt.loadInt (t := 3) (.tmp 20) (by kernel_rfl) (by kernel_rfl) (by kernel_rfl) (by kernel_rfl) (rdS.up R0 hS.sub0) e6 ?_)
      refine WD.weaken [0, 3, 4, 5, 7, 8, 17, 18, 19, 20, 21] (L' := [(0, .slice A0 l0.length c0), (3, .slice A3_l1 x3_l1.length c3_l1), (4, .int .i64 x8_l1), (5, .int .i64 x5_l2), (7, .int .i64 (l0.length : Int)), (8, .int .i64 x8_l1), (17, .bool true), (18, .slice A0 l0.length c0), (19, .int .i64 x5_l2), (20, .pointer (some (adr A0 x5_l2.toNat 1))), (21, .int .i64 v5)]) (by kernel_rfl) ?_
      refine WD.pure (i := 9) (v := .slice A0 l0.length c0) (by kernel_rfl) (by kernel_rfl) (fun _ => by kernel_rfl) ?_
      refine WD.weaken [0, 3, 4, 5, 7, 8, 17, 18, 19, 20, 21, 22] (L' := [(0, .slice A0 l0.length c0), (3, .slice A3_l1 x3_l1.length c3_l1), (4, .int .i64 x8_l1), (5, .int .i64 x5_l2), (7, .int .i64 (l0.length : Int)), (8, .int .i64 x8_l1), (17, .bool true), (18, .slice A0 l0.length c0), (19, .int .i64 x5_l2), (20, .pointer (some (adr A0 x5_l2.toNat 1))), (21, .int .i64 v5), (22, .slice A0 l0.length c0)]) (by kernel_rfl) ?_
      refine WD.pure (i := 10) (v := .int .i64 x8_l1) (by kernel_rfl) (by kernel_rfl) (fun _ => by kernel_rfl) ?_
      refine WD.weaken [0, 3, 4, 5, 7, 8, 17, 18, 19, 20, 21, 22, 23] (L' := [(0, .slice A0 l0.length c0), (3, .slice A3_l1 x3_l1.length c3_l1), (4, .int .i64 x8_l1), (5, .int .i64 x5_l2), (7, .int .i64 (l0.length : Int)), (8, .int .i64 x8_l1), (17, .bool true), (18, .slice A0 l0.length c0), (19, .int .i64 x5_l2), (20, .pointer (some (adr A0 x5_l2.toNat 1))), (21, .int .i64 v5), (22, .slice A0 l0.length c0), (23, .int .i64 x8_l1)]) (by kernel_rfl) ?_
      obtain ⟨v7, e8, H⟩ := bind_ex H
      refine WD.ofP (i := 11) (by kernel_rfl) (PSt.idx (k := .i64) (.tmp 22) (.tmp 23) (by kernel_rfl) (by kernel_rfl) E23 (by kernel_rfl) (by kernel_rfl) (rdS.up R0 hS.sub0) e8 ?_)
      refine WD.weaken [0, 3, 4, 5, 7, 8, 17, 18, 19, 20, 21, 22, 23, 24] (L' := [(0, .slice A0 l0.length c0), (3, .slice A3_l1 x3_l1.length c3_l1), (4, .int .i64 x8_l1), (5, .int .i64 x5_l2), (7, .int .i64 (l0.length : Int)), (8, .int .i64 x8_l1), (17, .bool true), (18, .slice A0 l0.length c0), (19, .int .i64 x5_l2), (20, .pointer (some (adr A0 x5_l2.toNat 1))), (21, .int .i64 v5), (22, .slice A0 l0.length c0), (23, .int .i64 x8_l1), (24, .pointer (some (adr A0 x8_l1.toNat 1)))]) (by kernel_rfl) ?_
      refine WD.ofR (i := 12) (by kernel_rfl) (RSt.loadInt (t := 3) (.tmp 24) (by kernel_rfl) (by kernel_rfl) (by kernel_rfl) (by kernel_rfl) (rdS.up R0 hS.sub0) e8 ?_)
      refine WD.weaken [0, 3, 4, 5, 7, 8, 17, 18, 19, 20, 21, 22, 23, 24, 25] (L' := [(0, .slice A0 l0.length c0), (3, .slice A3_l1 x3_l1.length c3_l1), (4, .int .i64 x8_l1), (5, .int .i64 x5_l2), (7, .int .i64 (l0.length : Int)), (8, .int .i64 x8_l1), (17, .bool true), (18, .slice A0 l0.length c0), (19, .int .i64 x5_l2), (20, .pointer (some (adr A0 x5_l2.toNat 1))), (21, .int .i64 v5), (22, .slice A0 l0.length c0), (23, .int .i64 x8_l1), (24, .pointer (some (adr A0 x8_l1.toNat 1))), (25, .int .i64 v7)]) (by kernel_rfl) ?_
      refine WD.pure (i := 13) (v := .bool (v5 != v7)) (by kernel_rfl) (by kernel_rfl) (fun _ => by kernel_rfl) ?_
      refine WD.weaken [0, 3, 4, 5, 7, 8, 17, 18, 19, 20, 21, 22, 23, 24, 25, 26] (L' := [(0, .slice A0 l0.length c0), (3, .slice A3_l1 x3_l1.length c3_l1), (4, .int .i64 x8_l1), (5, .int .i64 x5_l2), (7, .int .i64 (l0.length : Int)), (8, .int .i64 x8_l1), (17, .bool true), (18, .slice A0 l0.length c0), (19, .int .i64 x5_l2), (20, .pointer (some (adr A0 x5_l2.toNat 1))), (21, .int .i64 v5), (22, .slice A0 l0.length c0), (23, .int .i64 x8_l1), (24, .pointer (some (adr A0 x8_l1.toNat 1))), (25, .int .i64 v7), (26, .bool (v5 != v7))]) (by kernel_rfl) ?_
      refine WD.pure (i := 14) (v := .bool (v5 != v7)) (by kernel_rfl) (by kernel_rfl) (fun _ => by kernel_rfl) ?_
      refine WD.weaken [0, 3, 4, 5, 7, 8, 18, 19, 20, 21, 22, 23, 24, 25, 26, 27] (L' := [(0, .slice A0 l0.length c0), (3, .slice A3_l1 x3_l1.length c3_l1), (4, .int .i64 x8_l1), (5, .int .i64 x5_l2), (7, .int .i64 (l0.length : Int)), (8, .int .i64 x8_l1), (18, .slice A0 l0.length c0), (19, .int .i64 x5_l2), (20, .pointer (some (adr A0 x5_l2.toNat 1))), (21, .int .i64 v5), (22, .slice A0 l0.length c0), (23, .int .i64 x8_l1), (24, .pointer (some (adr A0 x8_l1.toNat 1))), (25, .int .i64 v7), (26, .bool (v5 != v7)), (27, .bool (v5 != v7))]) (by kernel_rfl) ?_
      refine WD.nil (by kernel_rfl) ?_
      refine At.go ?_
      refine WC.cond (by kernel_rfl) (v5 != v7) (by kernel_rfl) (by kernel_rfl) (fun hb9 => ?_) (fun hb9 => ?_)
      · replace H := ite_t H hb9
        refine WC.skip (by kernel_rfl) ?_
        refine At.go ?_
        refine WC.block (by kernel_rfl) ?_
        refine WC.reg [0, 1, 2] (by kernel_rfl) (by kernel_rfl) ?_
        refine WR.runk [0, 1, 2] [] [0, 3, 4, 5, 7, 8, 18, 19, 20, 21, 22, 23, 24, 25] (L' := [(0, .slice A0 l0.length c0), (3, .slice A3_l1 x3_l1.length c3_l1), (4, .int .i64 x8_l1), (5, .int .i64 (wi (x5_l2 + 1))), (7, .int .i64 (l0.length : Int)), (8, .int .i64 x8_l1), (18, .slice A0 l0.length c0), (19, .int .i64 x5_l2), (20, .pointer (some (adr A0 x5_l2.toNat 1))), (21, .int .i64 v5), (22, .slice A0 l0.length c0), (23, .int .i64 x8_l1), (24, .pointer (some (adr A0 x8_l1.toNat 1))), (25, .int .i64 v7)]) (w' := w2) (by kernel_rfl) ?_
        refine WR.nil ?_
        refine At.blockNormal ?_
        have hS : Sat w2 (rf w0) [osl 3 (r0 (.int .i64)) 1 A3_l1 c3_l1 x3_l1] := hS.sel [0] (by kernel_rfl)
        refine At.again ?_
        refine WL.weaken [0, 3, 4, 5, 7, 8] (L' := [(0, .slice A0 l0.length c0), (3, .slice A3_l1 x3_l1.length c3_l1), (4, .int .i64 x8_l1), (5, .int .i64 (wi (x5_l2 + 1))), (7, .int .i64 (l0.length : Int)), (8, .int .i64 x8_l1)]) (by kernel_rfl) ?_
        exact ih (wi (x5_l2 + 1)) _ hS H
      · replace H := ite_f H hb9
        refine WC.exit (by kernel_rfl) ?_
        refine At.thenExit ?_
        refine At.thenExit ?_
        obtain rfl := Option.some.inj H
        have hS : Sat w2 (rf w0) [osl 3 (r0 (.int .i64)) 1 A3_l1 c3_l1 x3_l1] := hS.sel [0] (by kernel_rfl)
        refine At.weaken [0, 3, 5, 7, 8] (L' := [(0, .slice A0 l0.length c0), (3, .slice A3_l1 x3_l1.length c3_l1), (5, .int .i64 x5_l2), (7, .int .i64 (l0.length : Int)), (8, .int .i64 x8_l1)]) (by kernel_rfl) ?_
        exact hn0 _ hS
    · replace H := ite_f H hb4
      refine WD.weaken [0, 3, 4, 5, 7, 8, 17] (L' := [(0, .slice A0 l0.length c0), (3, .slice A3_l1 x3_l1.length c3_l1), (4, .int .i64 x8_l1), (5, .int .i64 x5_l2), (7, .int .i64 (l0.length : Int)), (8, .int .i64 x8_l1), (17, .bool false)]) (by kernel_rfl) ?_
      refine WD.skip (i := 5) (by kernel_rfl) (by kernel_rfl) ?_
      refine WD.weaken [0, 3, 4, 5, 7, 8, 17, 18] (L' := [(0, .slice A0 l0.length c0), (3, .slice A3_l1 x3_l1.length c3_l1), (4, .int .i64 x8_l1), (5, .int .i64 x5_l2), (7, .int .i64 (l0.length : Int)), (8, .int .i64 x8_l1), (17, .bool false), (18, undef)]) (by kernel_rfl) ?_
      refine WD.skip (i := 6) (by kernel_rfl) (by kernel_rfl) ?_
      refine WD.weaken [0, 3, 4, 5, 7, 8, 17, 18, 19] (L' := [(0, .slice A0 l0.length c0), (3, .slice A3_l1 x3_l1.length c3_l1), (4, .int .i64 x8_l1), (5, .int .i64 x5_l2), (7, .int .i64 (l0.length : Int)), (8, .int .i64 x8_l1), (17, .bool false), (18, undef), (19, undef)]) (by kernel_rfl) ?_
      refine WD.skip (i := 7) (by kernel_rfl) (by kernel_rfl) ?_
      refine WD.weaken [0, 3, 4, 5, 7, 8, 17, 18, 19, 20] (L' := [(0, .slice A0 l0.length c0), (3, .slice A3_l1 x3_l1.length c3_l1), (4, .int .i64 x8_l1), (5, .int .i64 x5_l2), (7, .int .i64 (l0.length : Int)), (8, .int .i64 x8_l1), (17, .bool false), (18, undef), (19, undef), (20, undef)]) (by kernel_rfl) ?_
      refine WD.skip (i := 8) (by kernel_rfl) (by kernel_rfl) ?_
      refine WD.weaken [0, 3, 4, 5, 7, 8, 17, 18, 19, 20, 21] (L' := [(0, .slice A0 l0.length c0), (3, .slice A3_l1 x3_l1.length c3_l1), (4, .int .i64 x8_l1), (5, .int .i64 x5_l2), (7, .int .i64 (l0.length : Int)), (8, .int .i64 x8_l1), (17, .bool false), (18, undef), (19, undef), (20, undef), (21, undef)]) (by kernel_rfl) ?_
      refine WD.skip (i := 9) (by kernel_rfl) (by kernel_rfl) ?_
      refine WD.weaken [0, 3, 4, 5, 7, 8, 17, 18, 19, 20, 21, 22] (L' := [(0, .slice A0 l0.length c0), (3, .slice A3_l1 x3_l1.length c3_l1), (4, .int .i64 x8_l1), (5, .int .i64 x5_l2), (7, .int .i64 (l0.length : Int)), (8, .int .i64 x8_l1), (17, .bool false), (18, undef), (19, undef), (20, undef), (21, undef), (22, undef)]) (by kernel_rfl) ?_
      refine WD.skip (i := 10) (by kernel_rfl) (by kernel_rfl) ?_
      refine WD.weaken [0, 3, 4, 5, 7, 8, 17, 18, 19, 20, 21, 22, 23] (L' := [(0, .slice A0 l0.length c0), (3, .slice A3_l1 x3_l1.length c3_l1), (4, .int .i64 x8_l1), (5, .int .i64 x5_l2), (7, .int .i64 (l0.length : Int)), (8, .int .i64 x8_l1), (17, .bool false), (18, undef), (19, undef), (20, undef), (21, undef), (22, undef), (23, undef)]) (by kernel_rfl) ?_
      refine WD.skip (i := 11) (by kernel_rfl) (by kernel_rfl) ?_
      refine WD.weaken [0, 3, 4, 5, 7, 8, 17, 18, 19, 20, 21, 22, 23, 24] (L' := [(0, .slice A0 l0.length c0), (3, .slice A3_l1 x3_l1.length c3_l1), (4, .int .i64 x8_l1), (5, .int .i64 x5_l2), (7, .int .i64 (l0.length : Int)), (8, .int .i64 x8_l1), (17, .bool false), (18, undef), (19, undef), (20, undef), (21, undef), (22, undef), (23, undef), (24, undef)]) (by kernel_rfl) ?_
      refine WD.skip (i := 12) (by kernel_rfl) (by kernel_rfl) ?_
      refine WD.weaken [0, 3, 4, 5, 7, 8, 17, 18, 19, 20, 21, 22, 23, 24, 25] (L' := [(0, .slice A0 l0.length c0), (3, .slice A3_l1 x3_l1.length c3_l1), (4, .int .i64 x8_l1), (5, .int .i64 x5_l2), (7, .int .i64 (l0.length : Int)), (8, .int .i64 x8_l1), (17, .bool false), (18, undef), (19, undef), (20, undef), (21, undef), (22, undef), (23, undef), (24, undef), (25, undef)]) (by kernel_rfl) ?_
      refine WD.skip (i := 13) (by kernel_rfl) (by kernel_rfl) ?_
      refine WD.weaken [0, 3, 4, 5, 7, 8, 17, 18, 19, 20, 21, 22, 23, 24, 25, 26] (L' := [(0, .slice A0 l0.length c0), (3, .slice A3_l1 x3_l1.length c3_l1), (4, .int .i64 x8_l1), (5, .int .i64 x5_l2), (7, .int .i64 (l0.length : Int)), (8, .int .i64 x8_l1), (17, .bool false), (18, undef), (19, undef), (20, undef), (21, undef), (22, undef), (23, undef), (24, undef), (25, undef), (26, undef)]) (by kernel_rfl) ?_
      refine WD.pure (i := 14) (v := .bool false) (by kernel_rfl) (by kernel_rfl) (fun _ => by kernel_rfl) ?_
      refine WD.weaken [0, 3, 4, 5, 7, 8, 18, 19, 20, 21, 22, 23, 24, 25, 26, 27] (L' := [(0, .slice A0 l0.length c0), (3, .slice A3_l1 x3_l1.length c3_l1), (4, .int .i64 x8_l1), (5, .int .i64 x5_l2), (7, .int .i64 (l0.length : Int)), (8, .int .i64 x8_l1), (18, undef), (19, undef), (20, undef), (21, undef), (22, undef), (23, undef), (24, undef), (25, undef), (26, undef), (27, .bool false)]) (by kernel_rfl) ?_
      refine WD.nil (by kernel_rfl) ?_
      refine At.go ?_
      refine WC.condF (by kernel_rfl) (by kernel_rfl) (by kernel_rfl) ?_
      refine WC.exit (by kernel_rfl) ?_
      refine At.thenExit ?_
      refine At.thenExit ?_
      obtain rfl := Option.some.inj H
      have hS : Sat w2 (rf w0) [osl 3 (r0 (.int .i64)) 1 A3_l1 c3_l1 x3_l1] := hS.sel [0] (by kernel_rfl)
      refine At.weaken [0, 3, 5, 7, 8] (L' := [(0, .slice A0 l0.length c0), (3, .slice A3_l1 x3_l1.length c3_l1), (5, .int .i64 x5_l2), (7, .int .i64 (l0.length : Int)), (8, .int .i64 x8_l1)]) (by kernel_rfl) ?_
      exact hn0 _ hS
theorem colophonref12_Ahead.l1_ok {Q} (w0 : World) (A0 : Option Addr) (c0 : Nat) (l0 : List Int) (R0 : rdS (r0 (.int .i64)) 1 (hp w0) A0 c0 l0) (out : (List Int)) (hn0 : ∀ (A3_q : Option Addr) (c3_q : Nat) (w : World), Sat w (rf w0) [osl 3 (r0 (.int .i64)) 1 A3_q c3_q out] → At Q (.exit 0) 36 [(3, .slice A3_q out.length c3_q)] w) :
    ∀ (k : Nat) (x3_l1 : List Int) (x8_l1 : Int) (A3_l1 : Option Addr) (c3_l1 : Nat) (w : World), Sat w (rf w0) [osl 3 (r0 (.int .i64)) 1 A3_l1 c3_l1 x3_l1] → colophonref12_Ahead.l1 l0 k x3_l1 x8_l1 = some out → WL Try.prog (cbody (cbody (cr (cl (cr (cr C18)))))) Q 36 [(0, .slice A0 l0.length c0), (3, .slice A3_l1 x3_l1.length c3_l1), (7, .int .i64 (l0.length : Int)), (8, .int .i64 x8_l1)] w := by
  intro k
  induction k with
  | zero => intro x3_l1 x8_l1 A3_l1 c3_l1 w hS H; exact absurd (show none = some out from H) (by simp)
  | succ k ih =>
    intro x3_l1 x8_l1 A3_l1 c3_l1 w hS H
    unfold colophonref12_Ahead.l1 at H
    refine WL.round ?_
    refine WC.seq (by kernel_rfl) ?_
    refine WC.reg [0] (by kernel_rfl) (by kernel_rfl) ?_
    refine WR.runk [0] [] [0, 3, 7, 8, 9] (L' := [(0, .slice A0 l0.length c0), (3, .slice A3_l1 x3_l1.length c3_l1), (7, .int .i64 (l0.length : Int)), (8, .int .i64 x8_l1), (9, .bool (decide (x8_l1 < (l0.length : Int))))]) (w' := w) (by kernel_rfl) ?_
    refine WR.nil ?_
    refine At.go ?_
    refine WC.seq (by kernel_rfl) ?_
    refine WC.cond (by kernel_rfl) (decide (x8_l1 < (l0.length : Int))) (by kernel_rfl) (by kernel_rfl) (fun hb1 => ?_) (fun hb1 => ?_)
    · replace H := ite_t H hb1
      refine WC.skip (by kernel_rfl) ?_
      refine At.go ?_
      refine WC.seq (by kernel_rfl) ?_
      refine WC.block (by kernel_rfl) ?_
      refine WC.seq (by kernel_rfl) ?_
      refine WC.reg [0, 1] (by kernel_rfl) (by kernel_rfl) ?_
      refine WR.runk [0, 1] [] [0, 3, 4, 7, 8] (L' := [(0, .slice A0 l0.length c0), (3, .slice A3_l1 x3_l1.length c3_l1), (4, .int .i64 x8_l1), (7, .int .i64 (l0.length : Int)), (8, .int .i64 x8_l1)]) (w' := w) (by kernel_rfl) ?_
      refine WR.nil ?_
      refine At.go ?_
      refine WC.seq (by kernel_rfl) ?_
      refine WC.reg [0, 1, 2] (by kernel_rfl) (by kernel_rfl) ?_
      refine WR.runk [0, 1, 2] [] [0, 3, 4, 5, 7, 8] (L' := [(0, .slice A0 l0.length c0), (3, .slice A3_l1 x3_l1.length c3_l1), (4, .int .i64 x8_l1), (5, .int .i64 (wi (x8_l1 + 1))), (7, .int .i64 (l0.length : Int)), (8, .int .i64 x8_l1)]) (w' := w) (by kernel_rfl) ?_
      refine WR.nil ?_
      refine At.go ?_
      refine WC.seq (by kernel_rfl) ?_
      refine WC.block (by kernel_rfl) ?_
      have hS : Sat w (rf w0) [osl 3 (r0 (.int .i64)) 1 A3_l1 c3_l1 x3_l1] := hS.sel [0] (by kernel_rfl)
      obtain ⟨o10, e11, H⟩ := bind_ex H
      refine WC.loop (by kernel_rfl) ?_
      refine WL.weaken [0, 3, 4, 5, 7, 8] (L' := [(0, .slice A0 l0.length c0), (3, .slice A3_l1 x3_l1.length c3_l1), (4, .int .i64 x8_l1), (5, .int .i64 (wi (x8_l1 + 1))), (7, .int .i64 (l0.length : Int)), (8, .int .i64 x8_l1)]) (by kernel_rfl) ?_
      refine colophonref12_Ahead.l2_ok w0 A0 c0 l0 A3_l1 c3_l1 x3_l1 x8_l1 R0 o10 (fun w13 hS => ?_) FU (wi (x8_l1 + 1)) _ hS e11
      refine At.hit ?_
      refine At.go ?_
      refine WC.reg [0, 1, 2, 3, 4] (by kernel_rfl) (by kernel_rfl) ?_
      refine WR.runk [0, 1] [2, 3, 4] [0, 3, 7, 8, 30, 31] (L' := [(0, .slice A0 l0.length c0), (3, .slice A3_l1 x3_l1.length c3_l1), (7, .int .i64 (l0.length : Int)), (8, .int .i64 x8_l1), (30, .slice A3_l1 x3_l1.length c3_l1), (31, .int .i64 o10)]) (w' := w13) (by kernel_rfl) ?_
      refine WR.st (St.box hS (by kernel_rfl) (.cells #[.int .i64 o10] 3) (fun b15 => .slice (some ⟨b15, 0, none⟩) 1 1) (fun _ => by kernel_rfl) (fun b15 w16 hS => ?_))
      refine WR.runk [] [3, 4] [0, 3, 7, 8, 30, 32] (L' := [(0, .slice A0 l0.length c0), (3, .slice A3_l1 x3_l1.length c3_l1), (7, .int .i64 (l0.length : Int)), (8, .int .i64 x8_l1), (30, .slice A3_l1 x3_l1.length c3_l1), (32, .slice (some ⟨b15, 0, none⟩) 1 1)]) (w' := w16) (by kernel_rfl) ?_
      have hS : Sat w16 (rf w0) [osl 3 (r0 (.int .i64)) 1 A3_l1 c3_l1 x3_l1, pts b15 (.cells #[.int .i64 o10] 3 (0, 0))] := hS.sel [1, 0] (by kernel_rfl)
      obtain ⟨y18, e17, H⟩ := bind_ex H
      refine WR.st (St.append' (.tmp 30) (.tmp 32) (by kernel_rfl) (by kernel_rfl) E23 (r0_one _) hS (by kernel_rfl) (by kernel_rfl) (Sat.ptsAt 1 (r0 (.int .i64)) 1 ([o10] : List Int) hS rfl rfl (rdL.cons1 rfl (rdL.nil _ _))) 17592186044416 (by kernel_rfl) (by kernel_rfl) e17 (fun A19 c20 w21 hS => ?_))
      refine WR.runk [4] [] [0, 3, 7, 8] (L' := [(0, .slice A0 l0.length c0), (3, .slice A19 y18.length c20), (7, .int .i64 (l0.length : Int)), (8, .int .i64 x8_l1)]) (w' := w21) (by kernel_rfl) ?_
      refine WR.nil ?_
      refine At.blockNormal ?_
      refine At.go ?_
      refine WC.reg [0, 1] (by kernel_rfl) (by kernel_rfl) ?_
      refine WR.runk [0, 1] [] [0, 3, 7, 8] (L' := [(0, .slice A0 l0.length c0), (3, .slice A19 y18.length c20), (7, .int .i64 (l0.length : Int)), (8, .int .i64 (wi (x8_l1 + 1)))]) (w' := w21) (by kernel_rfl) ?_
      refine WR.nil ?_
      have hS : Sat w21 (rf w0) [osl 3 (r0 (.int .i64)) 1 A19 c20 y18] := hS.sel [0] (by kernel_rfl)
      refine At.again ?_
      refine WL.weaken [0, 3, 7, 8] (L' := [(0, .slice A0 l0.length c0), (3, .slice A19 y18.length c20), (7, .int .i64 (l0.length : Int)), (8, .int .i64 (wi (x8_l1 + 1)))]) (by kernel_rfl) ?_
      exact ih y18 (wi (x8_l1 + 1)) A19 c20 _ hS H
    · replace H := ite_f H hb1
      refine WC.exit (by kernel_rfl) ?_
      refine At.thenExit ?_
      refine At.thenExit ?_
      obtain rfl := Option.some.inj H
      have hS : Sat w (rf w0) [osl 3 (r0 (.int .i64)) 1 A3_l1 c3_l1 x3_l1] := hS.sel [0] (by kernel_rfl)
      refine At.weaken [3] (L' := [(3, .slice A3_l1 x3_l1.length c3_l1)]) (by kernel_rfl) ?_
      exact hn0 A3_l1 c3_l1 _ hS
theorem colophonref12_Ahead.calls (w0 : World) (A0 : Option Addr) (c0 : Nat) (l0 : List Int) (R0 : rdS (r0 (.int .i64)) 1 (hp w0) A0 c0 l0) (r : (List Int)) (H : colophonref12_Ahead.f l0 = some r) :
    Calls Try.prog 18 #[.slice A0 l0.length c0] w0 (fun e w' => ∃ v, e = .returned v ∧ colophonref12_Ahead.post w0 r v w') := by
  have hS : Sat w0 (rf w0) [] := Sat.start w0
  unfold colophonref12_Ahead.f at H
  refine calls_of_WC (vs := [.slice A0 l0.length c0]) Try.func18 (c := C18) (n := 36) (by kernel_rfl) (by kernel_rfl) (by kernel_rfl) ?_
  refine WC.seq (by kernel_rfl) ?_
  refine WC.reg [0] (by kernel_rfl) (by kernel_rfl) ?_
  refine WR.runk [0] [] [0] (L' := [(0, .slice A0 l0.length c0)]) (w' := w0) (by kernel_rfl) ?_
  refine WR.nil ?_
  refine At.go ?_
  refine WC.seq (by kernel_rfl) ?_
  refine WC.reg [0] (by kernel_rfl) (by kernel_rfl) ?_
  refine WR.runk [0] [] [0, 3] (L' := [(0, .slice A0 l0.length c0), (3, .slice none 0 0)]) (w' := w0) (by kernel_rfl) ?_
  refine WR.nil ?_
  refine At.go ?_
  refine WC.seq (by kernel_rfl) ?_
  refine WC.seq (by kernel_rfl) ?_
  refine WC.reg [0, 1, 2] (by kernel_rfl) (by kernel_rfl) ?_
  refine WR.runk [0, 1, 2] [] [0, 3, 7, 8] (L' := [(0, .slice A0 l0.length c0), (3, .slice none 0 0), (7, .int .i64 (l0.length : Int)), (8, .int .i64 0)]) (w' := w0) (by kernel_rfl) ?_
  refine WR.nil ?_
  refine At.go ?_
  refine WC.block (by kernel_rfl) ?_
  have hS := hS.addNil (α := Int) 3 (r0 (.int .i64)) 1
  have hS : Sat w0 (rf w0) [osl 3 (r0 (.int .i64)) 1 none 0 ([] : List Int)] := hS.sel [0] (by kernel_rfl)
  obtain ⟨o22, e23, H⟩ := bind_ex H
  refine WC.loop (by kernel_rfl) ?_
  refine WL.weaken [0, 3, 7, 8] (L' := [(0, .slice A0 l0.length c0), (3, .slice none 0 0), (7, .int .i64 (l0.length : Int)), (8, .int .i64 0)]) (by kernel_rfl) ?_
  refine colophonref12_Ahead.l1_ok w0 A0 c0 l0 R0 o22 (fun A3_q24 c3_q24 w25 hS => ?_) FU ([] : List Int) 0 none 0 _ hS e23
  refine At.hit ?_
  refine At.go ?_
  refine WC.seq (by kernel_rfl) ?_
  refine WC.reg [0, 1] (by kernel_rfl) (by kernel_rfl) ?_
  refine WR.runk [0, 1] [] [2] (L' := [(2, .slice A3_q24 o22.length c3_q24)]) (w' := w25) (by kernel_rfl) ?_
  refine WR.nil ?_
  refine At.go ?_
  refine WC.ret (by kernel_rfl) ?_
  obtain rfl := Option.some.inj H
  have hS : Sat w25 (rf w0) [osl 3 (r0 (.int .i64)) 1 A3_q24 c3_q24 o22] := hS.sel [0] (by kernel_rfl)
  exact At.body [.slice A3_q24 o22.length c3_q24] (by kernel_rfl) ⟨_, rfl, _, _, rfl, hS⟩
/-! ### 20 colophon/colophonref12.Count -/
def colophonref12_Count.l1 (l0 : List Int) (a1 : Int) (a2 : Int) (a3 : Int) : Nat → Int → Int → Option Int
  | 0, _, _ => none
  | k + 1, x9_l1, x14_l1 => (if decide (x14_l1 < (l0.length : Int)) then ((at? l0 x14_l1).bind fun v2 => (if (v2 == a1) then (if decide (x14_l1 ≥ a2) then (if decide (x14_l1 < a3) then colophonref12_Count.l1 l0 a1 a2 a3 k (wi (x9_l1 + 1)) (wi (x14_l1 + 1)) else colophonref12_Count.l1 l0 a1 a2 a3 k x9_l1 (wi (x14_l1 + 1))) else colophonref12_Count.l1 l0 a1 a2 a3 k x9_l1 (wi (x14_l1 + 1))) else colophonref12_Count.l1 l0 a1 a2 a3 k x9_l1 (wi (x14_l1 + 1)))) else some x9_l1)
def colophonref12_Count.f (l0 : List Int) (a1 : Int) (a2 : Int) (a3 : Int) : Option Int := ((colophonref12_Count.l1 l0 a1 a2 a3 FU 0 0).bind fun o7 => some o7)
def colophonref12_Count.post (w : World) (r : Int) (v : Value) (w' : World) : Prop := v = (.int .i64 r : Value) ∧ Sat w' (rf w) []
theorem colophonref12_Count.l1_ok {Q} (w0 : World) (A0 : Option Addr) (c0 : Nat) (l0 : List Int) (a1 : Int) (a2 : Int) (a3 : Int) (R0 : rdS (r0 (.int .i64)) 1 (hp w0) A0 c0 l0) (out : Int) (hn0 : ∀ (w : World), Sat w (rf w0) [] → At Q (.exit 0) 36 [(9, .int .i64 out)] w) :
    ∀ (k : Nat) (x9_l1 : Int) (x14_l1 : Int) (w : World), Sat w (rf w0) [] → colophonref12_Count.l1 l0 a1 a2 a3 k x9_l1 x14_l1 = some out → WL Try.prog (cbody (cbody (cr (cl (cr (cr C20)))))) Q 36 [(1, .int .i64 a1), (2, .int .i64 a2), (3, .int .i64 a3), (9, .int .i64 x9_l1), (12, .slice A0 l0.length c0), (13, .int .i64 (l0.length : Int)), (14, .int .i64 x14_l1)] w := by
  intro k
  induction k with
  | zero => intro x9_l1 x14_l1 w hS H; exact absurd (show none = some out from H) (by simp)
  | succ k ih =>
    intro x9_l1 x14_l1 w hS H
    unfold colophonref12_Count.l1 at H
    refine WL.round ?_
    refine WC.seq (by kernel_rfl) ?_
    refine WC.reg [0] (by kernel_rfl) (by kernel_rfl) ?_
    refine WR.runk [0] [] [1, 2, 3, 9, 12, 13, 14, 15] (L' := [(1, .int .i64 a1), (2, .int .i64 a2), (3, .int .i64 a3), (9, .int .i64 x9_l1), (12, .slice A0 l0.length c0), (13, .int .i64 (l0.length : Int)), (14, .int .i64 x14_l1), (15, .bool (decide (x14_l1 < (l0.length : Int))))]) (w' := w) (by kernel_rfl) ?_
    refine WR.nil ?_
    refine At.go ?_
    refine WC.seq (by kernel_rfl) ?_
    refine WC.cond (by kernel_rfl) (decide (x14_l1 < (l0.length : Int))) (by kernel_rfl) (by kernel_rfl) (fun hb1 => ?_) (fun hb1 => ?_)
    · replace H := ite_t H hb1
      refine WC.skip (by kernel_rfl) ?_
      refine At.go ?_
      refine WC.seq (by kernel_rfl) ?_
      refine WC.block (by kernel_rfl) ?_
      refine WC.seq (by kernel_rfl) ?_
      refine WC.reg [0, 1, 2, 3, 4] (by kernel_rfl) (by kernel_rfl) ?_
      refine WR.runk [0] [1, 2, 3, 4] [1, 2, 3, 9, 12, 13, 14, 16] (L' := [(1, .int .i64 a1), (2, .int .i64 a2), (3, .int .i64 a3), (9, .int .i64 x9_l1), (12, .slice A0 l0.length c0), (13, .int .i64 (l0.length : Int)), (14, .int .i64 x14_l1), (16, .int .i64 x14_l1)]) (w' := w) (by kernel_rfl) ?_
      obtain ⟨v2, e3, H⟩ := bind_ex H
      refine WR.st (St.ofP (PSt.idx (k := .i64) (.tmp 12) (.tmp 14) (by kernel_rfl) (by kernel_rfl) E23 (by kernel_rfl) (by kernel_rfl) (rdS.up R0 hS.sub0) e3 ?_))
      refine WR.runk [] [2, 3, 4] [1, 2, 3, 9, 12, 13, 14, 16, 17] (L' := [(1, .int .i64 a1), (2, .int .i64 a2), (3, .int .i64 a3), (9, .int .i64 x9_l1), (12, .slice A0 l0.length c0), (13, .int .i64 (l0.length : Int)), (14, .int .i64 x14_l1), (16, .int .i64 x14_l1), (17, .pointer (some (adr A0 x14_l1.toNat 1)))]) (w' := w) (by kernel_rfl) ?_
      refine WR.st (St.ofR (RSt.loadInt (t := 3) (.tmp 17) (by kernel_rfl) (by kernel_rfl) (by kernel_rfl) (by kernel_rfl) (rdS.up R0 hS.sub0) e3 ?_))
      refine WR.runk [3, 4] [] [1, 2, 3, 9, 10, 11, 12, 13, 14] (L' := [(1, .int .i64 a1), (2, .int .i64 a2), (3, .int .i64 a3), (9, .int .i64 x9_l1), (10, .int .i64 x14_l1), (11, .int .i64 v2), (12, .slice A0 l0.length c0), (13, .int .i64 (l0.length : Int)), (14, .int .i64 x14_l1)]) (w' := w) (by kernel_rfl) ?_
      refine WR.nil ?_
      refine At.go ?_
      refine WC.seq (by kernel_rfl) ?_
      refine WC.reg [0, 1, 2, 3, 4, 5, 6, 7, 8, 9, 10, 11, 12] (by kernel_rfl) (by kernel_rfl) ?_
      refine WR.runk [0, 1, 2, 3] [4, 5, 6, 7, 8, 9, 10, 11, 12] [1, 2, 3, 9, 10, 12, 13, 14, 22] (L' := [(1, .int .i64 a1), (2, .int .i64 a2), (3, .int .i64 a3), (9, .int .i64 x9_l1), (10, .int .i64 x14_l1), (12, .slice A0 l0.length c0), (13, .int .i64 (l0.length : Int)), (14, .int .i64 x14_l1), (22, .bool (v2 == a1))]) (w' := w) (by kernel_rfl) ?_
      refine WR.split 22 (b := (v2 == a1)) (by kernel_rfl) (fun hb4 => ?_) (fun hb4 => ?_)
      · replace H := ite_t H hb4
        refine WR.runk [4, 5, 6, 7, 8] [9, 10, 11, 12] [1, 2, 3, 9, 10, 12, 13, 14, 23, 24, 25, 27] (L' := [(1, .int .i64 a1), (2, .int .i64 a2), (3, .int .i64 a3), (9, .int .i64 x9_l1), (10, .int .i64 x14_l1), (12, .slice A0 l0.length c0), (13, .int .i64 (l0.length : Int)), (14, .int .i64 x14_l1), (23, .int .i64 x14_l1), (24, .int .i64 a2), (25, .bool (decide (x14_l1 ≥ a2))), (27, .bool (decide (x14_l1 ≥ a2)))]) (w' := w) (by kernel_rfl) ?_
        refine WR.split 27 (b := decide (x14_l1 ≥ a2)) (by kernel_rfl) (fun hb5 => ?_) (fun hb5 => ?_)
        · replace H := ite_t H hb5
          refine WR.runk [9, 10, 11, 12] [] [1, 2, 3, 9, 12, 13, 14, 23, 24, 25, 28, 29, 30, 31] (L' := [(1, .int .i64 a1), (2, .int .i64 a2), (3, .int .i64 a3), (9, .int .i64 x9_l1), (12, .slice A0 l0.length c0), (13, .int .i64 (l0.length : Int)), (14, .int .i64 x14_l1), (23, .int .i64 x14_l1), (24, .int .i64 a2), (25, .bool (decide (x14_l1 ≥ a2))), (28, .int .i64 x14_l1), (29, .int .i64 a3), (30, .bool (decide (x14_l1 < a3))), (31, .bool (decide (x14_l1 < a3)))]) (w' := w) (by kernel_rfl) ?_
          refine WR.nil ?_
          refine At.go ?_
          refine WC.cond (by kernel_rfl) (decide (x14_l1 < a3)) (by kernel_rfl) (by kernel_rfl) (fun hb6 => ?_) (fun hb6 => ?_)
          · replace H := ite_t H hb6
            refine WC.reg [0, 1, 2] (by kernel_rfl) (by kernel_rfl) ?_
            refine WR.runk [0, 1, 2] [] [1, 2, 3, 9, 12, 13, 14, 23, 24, 25, 28, 29] (L' := [(1, .int .i64 a1), (2, .int .i64 a2), (3, .int .i64 a3), (9, .int .i64 (wi (x9_l1 + 1))), (12, .slice A0 l0.length c0), (13, .int .i64 (l0.length : Int)), (14, .int .i64 x14_l1), (23, .int .i64 x14_l1), (24, .int .i64 a2), (25, .bool (decide (x14_l1 ≥ a2))), (28, .int .i64 x14_l1), (29, .int .i64 a3)]) (w' := w) (by kernel_rfl) ?_
            refine WR.nil ?_
            refine At.blockNormal ?_
            refine At.go ?_
            refine WC.reg [0, 1] (by kernel_rfl) (by kernel_rfl) ?_
            refine WR.runk [0, 1] [] [1, 2, 3, 9, 12, 13, 14, 23, 24, 25, 28, 29] (L' := [(1, .int .i64 a1), (2, .int .i64 a2), (3, .int .i64 a3), (9, .int .i64 (wi (x9_l1 + 1))), (12, .slice A0 l0.length c0), (13, .int .i64 (l0.length : Int)), (14, .int .i64 (wi (x14_l1 + 1))), (23, .int .i64 x14_l1), (24, .int .i64 a2), (25, .bool (decide (x14_l1 ≥ a2))), (28, .int .i64 x14_l1), (29, .int .i64 a3)]) (w' := w) (by kernel_rfl) ?_
            refine WR.nil ?_
            have hS : Sat w (rf w0) [] := hS.sel [] (by kernel_rfl)
            refine At.again ?_
            refine WL.weaken [1, 2, 3, 9, 12, 13, 14] (L' := [(1, .int .i64 a1), (2, .int .i64 a2), (3, .int .i64 a3), (9, .int .i64 (wi (x9_l1 + 1))), (12, .slice A0 l0.length c0), (13, .int .i64 (l0.length : Int)), (14, .int .i64 (wi (x14_l1 + 1)))]) (by kernel_rfl) ?_
            exact ih (wi (x9_l1 + 1)) (wi (x14_l1 + 1)) _ hS H
          · replace H := ite_f H hb6
            refine WC.skip (by kernel_rfl) ?_
            refine At.blockNormal ?_
            refine At.go ?_
            refine WC.reg [0, 1] (by kernel_rfl) (by kernel_rfl) ?_
            refine WR.runk [0, 1] [] [1, 2, 3, 9, 12, 13, 14, 23, 24, 25, 28, 29] (L' := [(1, .int .i64 a1), (2, .int .i64 a2), (3, .int .i64 a3), (9, .int .i64 x9_l1), (12, .slice A0 l0.length c0), (13, .int .i64 (l0.length : Int)), (14, .int .i64 (wi (x14_l1 + 1))), (23, .int .i64 x14_l1), (24, .int .i64 a2), (25, .bool (decide (x14_l1 ≥ a2))), (28, .int .i64 x14_l1), (29, .int .i64 a3)]) (w' := w) (by kernel_rfl) ?_
            refine WR.nil ?_
            have hS : Sat w (rf w0) [] := hS.sel [] (by kernel_rfl)
            refine At.again ?_
            refine WL.weaken [1, 2, 3, 9, 12, 13, 14] (L' := [(1, .int .i64 a1), (2, .int .i64 a2), (3, .int .i64 a3), (9, .int .i64 x9_l1), (12, .slice A0 l0.length c0), (13, .int .i64 (l0.length : Int)), (14, .int .i64 (wi (x14_l1 + 1)))]) (by kernel_rfl) ?_
            exact ih x9_l1 (wi (x14_l1 + 1)) _ hS H
        · replace H := ite_f H hb5
          refine WR.runk [9, 10, 11, 12] [] [1, 2, 3, 9, 12, 13, 14, 23, 24, 25, 28, 29, 30, 31] (L' := [(1, .int .i64 a1), (2, .int .i64 a2), (3, .int .i64 a3), (9, .int .i64 x9_l1), (12, .slice A0 l0.length c0), (13, .int .i64 (l0.length : Int)), (14, .int .i64 x14_l1), (23, .int .i64 x14_l1), (24, .int .i64 a2), (25, .bool (decide (x14_l1 ≥ a2))), (28, undef), (29, undef), (30, undef), (31, .bool false)]) (w' := w) (by kernel_rfl) ?_
          refine WR.nil ?_
          refine At.go ?_
          refine WC.condF (by kernel_rfl) (by kernel_rfl) (by kernel_rfl) ?_
          refine WC.skip (by kernel_rfl) ?_
          refine At.blockNormal ?_
          refine At.go ?_
          refine WC.reg [0, 1] (by kernel_rfl) (by kernel_rfl) ?_
          refine WR.runk [0, 1] [] [1, 2, 3, 9, 12, 13, 14, 23, 24, 25, 28, 29, 30] (L' := [(1, .int .i64 a1), (2, .int .i64 a2), (3, .int .i64 a3), (9, .int .i64 x9_l1), (12, .slice A0 l0.length c0), (13, .int .i64 (l0.length : Int)), (14, .int .i64 (wi (x14_l1 + 1))), (23, .int .i64 x14_l1), (24, .int .i64 a2), (25, .bool (decide (x14_l1 ≥ a2))), (28, undef), (29, undef), (30, undef)]) (w' := w) (by kernel_rfl) ?_
          refine WR.nil ?_
          have hS : Sat w (rf w0) [] := hS.sel [] (by kernel_rfl)
          refine At.again ?_
          refine WL.weaken [1, 2, 3, 9, 12, 13, 14] (L' := [(1, .int .i64 a1), (2, .int .i64 a2), (3, .int .i64 a3), (9, .int .i64 x9_l1), (12, .slice A0 l0.length c0), (13, .int .i64 (l0.length : Int)), (14, .int .i64 (wi (x14_l1 + 1)))]) (by kernel_rfl) ?_
          exact ih x9_l1 (wi (x14_l1 + 1)) _ hS H
      · replace H := ite_f H hb4
        refine WR.runk [4, 5, 6, 7, 8, 9, 10, 11, 12] [] [1, 2, 3, 9, 12, 13, 14, 23, 24, 25, 28, 29, 30, 31] (L' := [(1, .int .i64 a1), (2, .int .i64 a2), (3, .int .i64 a3), (9, .int .i64 x9_l1), (12, .slice A0 l0.length c0), (13, .int .i64 (l0.length : Int)), (14, .int .i64 x14_l1), (23, undef), (24, undef), (25, undef), (28, undef), (29, undef), (30, undef), (31, .bool false)]) (w' := w) (by kernel_rfl) ?_
        refine WR.nil ?_
        refine At.go ?_
        refine WC.condF (by kernel_rfl) (by kernel_rfl) (by kernel_rfl) ?_
        refine WC.skip (by kernel_rfl) ?_
        refine At.blockNormal ?_
        refine At.go ?_
        refine WC.reg [0, 1] (by kernel_rfl) (by kernel_rfl) ?_
        refine WR.runk [0, 1] [] [1, 2, 3, 9, 12, 13, 14, 23, 24, 25, 28, 29, 30] (L' := [(1, .int .i64 a1), (2, .int .i64 a2), (3, .int .i64 a3), (9, .int .i64 x9_l1), (12, .slice A0 l0.length c0), (13, .int .i64 (l0.length : Int)), (14, .int .i64 (wi (x14_l1 + 1))), (23, undef), (24, undef), (25, undef), (28, undef), (29, undef), (30, undef)]) (w' := w) (by kernel_rfl) ?_
        refine WR.nil ?_
        have hS : Sat w (rf w0) [] := hS.sel [] (by kernel_rfl)
        refine At.again ?_
        refine WL.weaken [1, 2, 3, 9, 12, 13, 14] (L' := [(1, .int .i64 a1), (2, .int .i64 a2), (3, .int .i64 a3), (9, .int .i64 x9_l1), (12, .slice A0 l0.length c0), (13, .int .i64 (l0.length : Int)), (14, .int .i64 (wi (x14_l1 + 1)))]) (by kernel_rfl) ?_
        exact ih x9_l1 (wi (x14_l1 + 1)) _ hS H
    · replace H := ite_f H hb1
      refine WC.exit (by kernel_rfl) ?_
      refine At.thenExit ?_
      refine At.thenExit ?_
      obtain rfl := Option.some.inj H
      have hS : Sat w (rf w0) [] := hS.sel [] (by kernel_rfl)
      refine At.weaken [9] (L' := [(9, .int .i64 x9_l1)]) (by kernel_rfl) ?_
      exact hn0 _ hS
theorem colophonref12_Count.calls (w0 : World) (A0 : Option Addr) (c0 : Nat) (l0 : List Int) (R0 : rdS (r0 (.int .i64)) 1 (hp w0) A0 c0 l0) (a1 : Int) (a2 : Int) (a3 : Int) (r : Int) (H : colophonref12_Count.f l0 a1 a2 a3 = some r) :
    Calls Try.prog 20 #[.slice A0 l0.length c0, .int .i64 a1, .int .i64 a2, .int .i64 a3] w0 (fun e w' => ∃ v, e = .returned v ∧ colophonref12_Count.post w0 r v w') := by
  have hS : Sat w0 (rf w0) [] := Sat.start w0
  unfold colophonref12_Count.f at H
  refine calls_of_WC (vs := [.slice A0 l0.length c0, .int .i64 a1, .int .i64 a2, .int .i64 a3]) Try.func20 (c := C20) (n := 36) (by kernel_rfl) (by kernel_rfl) (by kernel_rfl) ?_
  refine WC.seq (by kernel_rfl) ?_
  refine WC.reg [0] (by kernel_rfl) (by kernel_rfl) ?_
  refine WR.runk [0] [] [0, 1, 2, 3] (L' := [(0, .slice A0 l0.length c0), (1, .int .i64 a1), (2, .int .i64 a2), (3, .int .i64 a3)]) (w' := w0) (by kernel_rfl) ?_
  refine WR.nil ?_
  refine At.go ?_
  refine WC.seq (by kernel_rfl) ?_
  refine WC.reg [0] (by kernel_rfl) (by kernel_rfl) ?_
  refine WR.runk [0] [] [0, 1, 2, 3, 9] (L' := [(0, .slice A0 l0.length c0), (1, .int .i64 a1), (2, .int .i64 a2), (3, .int .i64 a3), (9, .int .i64 0)]) (w' := w0) (by kernel_rfl) ?_
  refine WR.nil ?_
  refine At.go ?_
  refine WC.seq (by kernel_rfl) ?_
  refine WC.seq (by kernel_rfl) ?_
  refine WC.reg [0, 1, 2] (by kernel_rfl) (by kernel_rfl) ?_
  refine WR.runk [0, 1, 2] [] [1, 2, 3, 9, 12, 13, 14] (L' := [(1, .int .i64 a1), (2, .int .i64 a2), (3, .int .i64 a3), (9, .int .i64 0), (12, .slice A0 l0.length c0), (13, .int .i64 (l0.length : Int)), (14, .int .i64 0)]) (w' := w0) (by kernel_rfl) ?_
  refine WR.nil ?_
  refine At.go ?_
  refine WC.block (by kernel_rfl) ?_
  have hS : Sat w0 (rf w0) [] := hS.sel [] (by kernel_rfl)
  obtain ⟨o7, e8, H⟩ := bind_ex H
  refine WC.loop (by kernel_rfl) ?_
  refine WL.weaken [1, 2, 3, 9, 12, 13, 14] (L' := [(1, .int .i64 a1), (2, .int .i64 a2), (3, .int .i64 a3), (9, .int .i64 0), (12, .slice A0 l0.length c0), (13, .int .i64 (l0.length : Int)), (14, .int .i64 0)]) (by kernel_rfl) ?_
  refine colophonref12_Count.l1_ok w0 A0 c0 l0 a1 a2 a3 R0 o7 (fun w10 hS => ?_) FU 0 0 _ hS e8
  refine At.hit ?_
  refine At.go ?_
  refine WC.seq (by kernel_rfl) ?_
  refine WC.reg [0, 1] (by kernel_rfl) (by kernel_rfl) ?_
  refine WR.runk [0, 1] [] [8] (L' := [(8, .int .i64 o7)]) (w' := w10) (by kernel_rfl) ?_
  refine WR.nil ?_
  refine At.go ?_
  refine WC.ret (by kernel_rfl) ?_
  obtain rfl := Option.some.inj H
  have hS : Sat w10 (rf w0) [] := hS.sel [] (by kernel_rfl)
  exact At.body [.int .i64 o7] (by kernel_rfl) ⟨_, rfl, rfl, hS⟩
end Go.Proofs.Ythnlihpmpmhidaa
