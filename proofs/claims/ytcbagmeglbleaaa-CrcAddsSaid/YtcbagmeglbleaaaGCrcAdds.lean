/-
  Printed by gen.py (my own tool): for each Go function a plain Lean function and the proof that a call of it does what that function says.
-/
import Derived.Test.YtcbagmeglbleaaaGP1
import Derived.Test.YtcbagmeglbleaaaGN
set_option linter.unusedVariables false
set_option linter.unusedSimpArgs false
set_option maxRecDepth 100000
namespace Go.Proofs.Ytcbagmeglbleaaa
open Go Go.Gol
/-! ### 6 colophon/colophonlaw04.CrcAdds -/
def colophonlaw04_CrcAdds.l1 (l0 : List Int) (l1 : List Int) (l2 : List Int) : Nat → (List Int) → Int → Option (List Int)
  | 0, _, _ => none
  | k + 1, x8_l1, x20_l1 => (if decide (x20_l1 < imin (imin (imin (l0.length : Int) (l1.length : Int)) (l2.length : Int)) 500) then ((at? l0 x20_l1).bind fun v14 => ((at? l1 x20_l1).bind fun v16 => ((at? l2 x20_l1).bind fun v18 => ((app? 140737488355328 x8_l1 ([ixor .u8 (ixor .u8 v14 v16) v18] : List Int)).bind fun y23 => colophonlaw04_CrcAdds.l1 l0 l1 l2 k y23 (wi (x20_l1 + 1)))))) else some x8_l1)
def colophonlaw04_CrcAdds.f (l0 : List Int) (l1 : List Int) (l2 : List Int) : Option Bool := (colophonlaw04_first.f.bind fun r1 => (if (!r1) then some false else ((colophonlaw04_CrcAdds.l1 l0 l1 l2 FU ([] : List Int) 0).bind fun o27 => ((sub? l0 0 (imin (imin (imin (l0.length : Int) (l1.length : Int)) (l2.length : Int)) 500)).bind fun y34 => ((sub? l1 0 (imin (imin (imin (l0.length : Int) (l1.length : Int)) (l2.length : Int)) 500)).bind fun y39 => ((sub? l2 0 (imin (imin (imin (l0.length : Int) (l1.length : Int)) (l2.length : Int)) 500)).bind fun y44 => ((crc_Sum.f ([y34] : List (List Int))).bind fun r51 => ((crc_Sum.f ([y39] : List (List Int))).bind fun r62 => ((crc_Sum.f ([y44] : List (List Int))).bind fun r73 => ((crc_Sum.f ([o27] : List (List Int))).bind fun r84 => some ((ixor .u32 (ixor .u32 r51 r62) r73) == r84)))))))))))
def colophonlaw04_CrcAdds.post (w : World) (r : Bool) (v : Value) (w' : World) : Prop := v = (.bool r : Value) ∧ Sat w' (rf w) []
theorem colophonlaw04_CrcAdds.l1_ok {Q} (w0 : World) (A0 : Option Addr) (c0 : Nat) (l0 : List Int) (A1 : Option Addr) (c1 : Nat) (l1 : List Int) (A2 : Option Addr) (c2 : Nat) (l2 : List Int) (R0 : rdS (r0 (.int .u8)) 1 (hp w0) A0 c0 l0) (R1 : rdS (r0 (.int .u8)) 1 (hp w0) A1 c1 l1) (R2 : rdS (r0 (.int .u8)) 1 (hp w0) A2 c2 l2) (out : (List Int)) (hn0 : ∀ (A8_q : Option Addr) (c8_q : Nat) (w : World), Sat w (rf w0) [osl 5 (r0 (.int .u8)) 1 A8_q c8_q out] → At Q (.exit 0) 62 [(0, .slice A0 l0.length c0), (1, .slice A1 l1.length c1), (2, .slice A2 l2.length c2), (7, .int .i64 (imin (imin (imin (l0.length : Int) (l1.length : Int)) (l2.length : Int)) 500)), (8, .slice A8_q out.length c8_q)] w) :
    ∀ (k : Nat) (x8_l1 : List Int) (x20_l1 : Int) (A8_l1 : Option Addr) (c8_l1 : Nat) (w : World), Sat w (rf w0) [osl 5 (r0 (.int .u8)) 1 A8_l1 c8_l1 x8_l1] → colophonlaw04_CrcAdds.l1 l0 l1 l2 k x8_l1 x20_l1 = some out → WL Try.prog (cbody (cbody (cr (cl (cr (cr (cr (cr C6)))))))) Q 62 [(0, .slice A0 l0.length c0), (1, .slice A1 l1.length c1), (2, .slice A2 l2.length c2), (7, .int .i64 (imin (imin (imin (l0.length : Int) (l1.length : Int)) (l2.length : Int)) 500)), (8, .slice A8_l1 x8_l1.length c8_l1), (19, .int .i64 (imin (imin (imin (l0.length : Int) (l1.length : Int)) (l2.length : Int)) 500)), (20, .int .i64 x20_l1)] w := by
  intro k
  induction k with
  | zero => intro x8_l1 x20_l1 A8_l1 c8_l1 w hS H; exact absurd (show none = some out from H) (by simp)
  | succ k ih =>
    intro x8_l1 x20_l1 A8_l1 c8_l1 w hS H
    unfold colophonlaw04_CrcAdds.l1 at H
    refine WL.round ?_
    refine WC.seq (by kernel_rfl) ?_
    refine WC.reg [0] (by kernel_rfl) (by kernel_rfl) ?_
    refine WR.runk [0] [] [0, 1, 2, 7, 8, 19, 20, 21] (L' := [(0, .slice A0 l0.length c0), (1, .slice A1 l1.length c1), (2, .slice A2 l2.length c2), (7, .int .i64 (imin (imin (imin (l0.length : Int) (l1.length : Int)) (l2.length : Int)) 500)), (8, .slice A8_l1 x8_l1.length c8_l1), (19, .int .i64 (imin (imin (imin (l0.length : Int) (l1.length : Int)) (l2.length : Int)) 500)), (20, .int .i64 x20_l1), (21, .bool (decide (x20_l1 < imin (imin (imin (l0.length : Int) (l1.length : Int)) (l2.length : Int)) 500)))]) (w' := w) (by kernel_rfl) ?_
    refine WR.nil ?_
    refine At.go ?_
    refine WC.seq (by kernel_rfl) ?_
    refine WC.cond (by kernel_rfl) (decide (x20_l1 < imin (imin (imin (l0.length : Int) (l1.length : Int)) (l2.length : Int)) 500)) (by kernel_rfl) (by kernel_rfl) (fun hb11 => ?_) (fun hb11 => ?_)
    · replace H := ite_t H hb11
      refine WC.skip (by kernel_rfl) ?_
      refine At.go ?_
      refine WC.seq (by kernel_rfl) ?_
      refine WC.block (by kernel_rfl) ?_
      refine WC.seq (by kernel_rfl) ?_
      refine WC.reg [0, 1] (by kernel_rfl) (by kernel_rfl) ?_
      refine WR.runk [0, 1] [] [0, 1, 2, 7, 8, 9, 19, 20] (L' := [(0, .slice A0 l0.length c0), (1, .slice A1 l1.length c1), (2, .slice A2 l2.length c2), (7, .int .i64 (imin (imin (imin (l0.length : Int) (l1.length : Int)) (l2.length : Int)) 500)), (8, .slice A8_l1 x8_l1.length c8_l1), (9, .int .i64 x20_l1), (19, .int .i64 (imin (imin (imin (l0.length : Int) (l1.length : Int)) (l2.length : Int)) 500)), (20, .int .i64 x20_l1)]) (w' := w) (by kernel_rfl) ?_
      refine WR.nil ?_
      refine At.go ?_
      refine WC.drawn (by kernel_rfl) (by kernel_rfl) 18 (by kernel_rfl) (fun w12 hw13 => ?_)
      have hS := hS.heap hw13.1 hw13.2
      refine WD.weaken [0, 1, 2, 7, 8, 9, 19, 20] (L' := [(0, .slice A0 l0.length c0), (1, .slice A1 l1.length c1), (2, .slice A2 l2.length c2), (7, .int .i64 (imin (imin (imin (l0.length : Int) (l1.length : Int)) (l2.length : Int)) 500)), (8, .slice A8_l1 x8_l1.length c8_l1), (9, .int .i64 x20_l1), (19, .int .i64 (imin (imin (imin (l0.length : Int) (l1.length : Int)) (l2.length : Int)) 500)), (20, .int .i64 x20_l1)]) (by kernel_rfl) ?_
      refine WD.pure (i := 0) (v := .slice A8_l1 x8_l1.length c8_l1) (by kernel_rfl) (by kernel_rfl) (fun _ => by kernel_rfl) ?_
      refine WD.weaken [0, 1, 2, 7, 8, 9, 19, 20, 23] (L' := [(0, .slice A0 l0.length c0), (1, .slice A1 l1.length c1), (2, .slice A2 l2.length c2), (7, .int .i64 (imin (imin (imin (l0.length : Int) (l1.length : Int)) (l2.length : Int)) 500)), (8, .slice A8_l1 x8_l1.length c8_l1), (9, .int .i64 x20_l1), (19, .int .i64 (imin (imin (imin (l0.length : Int) (l1.length : Int)) (l2.length : Int)) 500)), (20, .int .i64 x20_l1), (23, .slice A8_l1 x8_l1.length c8_l1)]) (by kernel_rfl) ?_
      refine WD.pure (i := 1) (v := .slice A0 l0.length c0) (by kernel_rfl) (by kernel_rfl) (fun _ => by kernel_rfl) ?_
      refine WD.weaken [0, 1, 2, 7, 8, 9, 19, 20, 23, 24] (L' := [(0, .slice A0 l0.length c0), (1, .slice A1 l1.length c1), (2, .slice A2 l2.length c2), (7, .int .i64 (imin (imin (imin (l0.length : Int) (l1.length : Int)) (l2.length : Int)) 500)), (8, .slice A8_l1 x8_l1.length c8_l1), (9, .int .i64 x20_l1), (19, .int .i64 (imin (imin (imin (l0.length : Int) (l1.length : Int)) (l2.length : Int)) 500)), (20, .int .i64 x20_l1), (23, .slice A8_l1 x8_l1.length c8_l1), (24, .slice A0 l0.length c0)]) (by kernel_rfl) ?_
      refine WD.pure (i := 2) (v := .int .i64 x20_l1) (by kernel_rfl) (by kernel_rfl) (fun _ => by kernel_rfl) ?_
      refine WD.weaken [0, 1, 2, 7, 8, 9, 19, 20, 23, 24, 25] (L' := [(0, .slice A0 l0.length c0), (1, .slice A1 l1.length c1), (2, .slice A2 l2.length c2), (7, .int .i64 (imin (imin (imin (l0.length : Int) (l1.length : Int)) (l2.length : Int)) 500)), (8, .slice A8_l1 x8_l1.length c8_l1), (9, .int .i64 x20_l1), (19, .int .i64 (imin (imin (imin (l0.length : Int) (l1.length : Int)) (l2.length : Int)) 500)), (20, .int .i64 x20_l1), (23, .slice A8_l1 x8_l1.length c8_l1), (24, .slice A0 l0.length c0), (25, .int .i64 x20_l1)]) (by kernel_rfl) ?_
      obtain ⟨v14, e15, H⟩ := bind_ex H
      refine WD.ofP (i := 3) (by kernel_rfl) (PSt.idx (k := .i64) (.tmp 24) (.tmp 25) (by kernel_rfl) (by kernel_rfl) E22 (by kernel_rfl) (by kernel_rfl) (rdS.up R0 hS.sub0) e15 ?_)
      refine WD.weaken [0, 1, 2, 7, 8, 9, 19, 20, 23, 26] (L' := [(0, .slice A0 l0.length c0), (1, .slice A1 l1.length c1), (2, .slice A2 l2.length c2), (7, .int .i64 (imin (imin (imin (l0.length : Int) (l1.length : Int)) (l2.length : Int)) 500)), (8, .slice A8_l1 x8_l1.length c8_l1), (9, .int .i64 x20_l1), (19, .int .i64 (imin (imin (imin (l0.length : Int) (l1.length : Int)) (l2.length : Int)) 500)), (20, .int .i64 x20_l1), (23, .slice A8_l1 x8_l1.length c8_l1), (26, .pointer (some (adr A0 x20_l1.toNat 1)))]) (by kernel_rfl) ?_
      refine WD.ofR (i := 4) (by kernel_rfl) (RSt.loadInt (t := 5) (.tmp 26) (by kernel_rfl) (by kernel_rfl) (by kernel_rfl) (by kernel_rfl) (rdS.up R0 hS.sub0) e15 ?_)
      refine WD.weaken [0, 1, 2, 7, 8, 9, 19, 20, 23, 27] (L' := [(0, .slice A0 l0.length c0), (1, .slice A1 l1.length c1), (2, .slice A2 l2.length c2), (7, .int .i64 (imin (imin (imin (l0.length : Int) (l1.length : Int)) (l2.length : Int)) 500)), (8, .slice A8_l1 x8_l1.length c8_l1), (9, .int .i64 x20_l1), (19, .int .i64 (imin (imin (imin (l0.length : Int) (l1.length : Int)) (l2.length : Int)) 500)), (20, .int .i64 x20_l1), (23, .slice A8_l1 x8_l1.length c8_l1), (27, .int .u8 v14)]) (by kernel_rfl) ?_
      refine WD.pure (i := 5) (v := .slice A1 l1.length c1) (by kernel_rfl) (by kernel_rfl) (fun _ => by kernel_rfl) ?_
      refine WD.weaken [0, 1, 2, 7, 8, 9, 19, 20, 23, 27, 28] (L' := [(0, .slice A0 l0.length c0), (1, .slice A1 l1.length c1), (2, .slice A2 l2.length c2), (7, .int .i64 (imin (imin (imin (l0.length : Int) (l1.length : Int)) (l2.length : Int)) 500)), (8, .slice A8_l1 x8_l1.length c8_l1), (9, .int .i64 x20_l1), (19, .int .i64 (imin (imin (imin (l0.length : Int) (l1.length : Int)) (l2.length : Int)) 500)), (20, .int .i64 x20_l1), (23, .slice A8_l1 x8_l1.length c8_l1), (27, .int .u8 v14), (28, .slice A1 l1.length c1)]) (by kernel_rfl) ?_
      refine WD.pure (i := 6) (v := .int .i64 x20_l1) (by kernel_rfl) (by kernel_rfl) (fun _ => by kernel_rfl) ?_
      refine WD.weaken [0, 1, 2, 7, 8, 9, 19, 20, 23, 27, 28, 29] (L' := [(0, .slice A0 l0.length c0), (1, .slice A1 l1.length c1), (2, .slice A2 l2.length c2), (7, .int .i64 (imin (imin (imin (l0.length : Int) (l1.length : Int)) (l2.length : Int)) 500)), (8, .slice A8_l1 x8_l1.length c8_l1), (9, .int .i64 x20_l1), (19, .int .i64 (imin (imin (imin (l0.length : Int) (l1.length : Int)) (l2.length : Int)) 500)), (20, .int .i64 x20_l1), (23, .slice A8_l1 x8_l1.length c8_l1), (27, .int .u8 v14), (28, .slice A1 l1.length c1), (29, .int .i64 x20_l1)]) (by kernel_rfl) ?_
      obtain ⟨v16, e17, H⟩ := bind_ex H
      refine WD.ofP (i := 7) (by kernel_rfl) (PSt.idx (k := .i64) (.tmp 28) (.tmp 29) (by kernel_rfl) (by kernel_rfl) E22 (by kernel_rfl) (by kernel_rfl) (rdS.up R1 hS.sub0) e17 ?_)
      refine WD.weaken [0, 1, 2, 7, 8, 9, 19, 20, 23, 27, 30] (L' := [(0, .slice A0 l0.length c0), (1, .slice A1 l1.length c1), (2, .slice A2 l2.length c2), (7, .int .i64 (imin (imin (imin (l0.length : Int) (l1.length : Int)) (l2.length : Int)) 500)), (8, .slice A8_l1 x8_l1.length c8_l1), (9, .int .i64 x20_l1), (19, .int .i64 (imin (imin (imin (l0.length : Int) (l1.length : Int)) (l2.length : Int)) 500)), (20, .int .i64 x20_l1), (23, .slice A8_l1 x8_l1.length c8_l1), (27, .int .u8 v14), (30, .pointer (some (adr A1 x20_l1.toNat 1)))]) (by kernel_rfl) ?_
      refine WD.ofR (i := 8) (by kernel_rfl) (RSt.loadInt (t := 5) (.tmp 30) (by kernel_rfl) (by kernel_rfl) (by kernel_rfl) (by kernel_rfl) (rdS.up R1 hS.sub0) e17 ?_)
      refine WD.weaken [0, 1, 2, 7, 8, 9, 19, 20, 23, 27, 31] (L' := [(0, .slice A0 l0.length c0), (1, .slice A1 l1.length c1), (2, .slice A2 l2.length c2), (7, .int .i64 (imin (imin (imin (l0.length : Int) (l1.length : Int)) (l2.length : Int)) 500)), (8, .slice A8_l1 x8_l1.length c8_l1), (9, .int .i64 x20_l1), (19, .int .i64 (imin (imin (imin (l0.length : Int) (l1.length : Int)) (l2.length : Int)) 500)), (20, .int .i64 x20_l1), (23, .slice A8_l1 x8_l1.length c8_l1), (27, .int .u8 v14), (31, .int .u8 v16)]) (by kernel_rfl) ?_
      refine WD.pure (i := 9) (v := .int .u8 (ixor .u8 v14 v16)) (by kernel_rfl) (by kernel_rfl) (fun _ => by kernel_rfl) ?_
      refine WD.weaken [0, 1, 2, 7, 8, 9, 19, 20, 23, 32] (L' := [(0, .slice A0 l0.length c0), (1, .slice A1 l1.length c1), (2, .slice A2 l2.length c2), (7, .int .i64 (imin (imin (imin (l0.length : Int) (l1.length : Int)) (l2.length : Int)) 500)), (8, .slice A8_l1 x8_l1.length c8_l1), (9, .int .i64 x20_l1), (19, .int .i64 (imin (imin (imin (l0.length : Int) (l1.length : Int)) (l2.length : Int)) 500)), (20, .int .i64 x20_l1), (23, .slice A8_l1 x8_l1.length c8_l1), (32, .int .u8 (ixor .u8 v14 v16))]) (by kernel_rfl) ?_
      refine WD.pure (i := 10) (v := .slice A2 l2.length c2) (by kernel_rfl) (by kernel_rfl) (fun _ => by kernel_rfl) ?_
      refine WD.weaken [0, 1, 2, 7, 8, 9, 19, 20, 23, 32, 33] (L' := [(0, .slice A0 l0.length c0), (1, .slice A1 l1.length c1), (2, .slice A2 l2.length c2), (7, .int .i64 (imin (imin (imin (l0.length : Int) (l1.length : Int)) (l2.length : Int)) 500)), (8, .slice A8_l1 x8_l1.length c8_l1), (9, .int .i64 x20_l1), (19, .int .i64 (imin (imin (imin (l0.length : Int) (l1.length : Int)) (l2.length : Int)) 500)), (20, .int .i64 x20_l1), (23, .slice A8_l1 x8_l1.length c8_l1), (32, .int .u8 (ixor .u8 v14 v16)), (33, .slice A2 l2.length c2)]) (by kernel_rfl) ?_
      refine WD.pure (i := 11) (v := .int .i64 x20_l1) (by kernel_rfl) (by kernel_rfl) (fun _ => by kernel_rfl) ?_
      refine WD.weaken [0, 1, 2, 7, 8, 19, 20, 23, 32, 33, 34] (L' := [(0, .slice A0 l0.length c0), (1, .slice A1 l1.length c1), (2, .slice A2 l2.length c2), (7, .int .i64 (imin (imin (imin (l0.length : Int) (l1.length : Int)) (l2.length : Int)) 500)), (8, .slice A8_l1 x8_l1.length c8_l1), (19, .int .i64 (imin (imin (imin (l0.length : Int) (l1.length : Int)) (l2.length : Int)) 500)), (20, .int .i64 x20_l1), (23, .slice A8_l1 x8_l1.length c8_l1), (32, .int .u8 (ixor .u8 v14 v16)), (33, .slice A2 l2.length c2), (34, .int .i64 x20_l1)]) (by kernel_rfl) ?_
      obtain ⟨v18, e19, H⟩ := bind_ex H
      refine WD.ofP (i := 12) (by kernel_rfl) (PSt.idx (k := .i64) (.tmp 33) (.tmp 34) (by kernel_rfl) (by kernel_rfl) E22 (by kernel_rfl) (by kernel_rfl) (rdS.up R2 hS.sub0) e19 ?_)
      refine WD.weaken [0, 1, 2, 7, 8, 19, 20, 23, 32, 35] (L' := [(0, .slice A0 l0.length c0), (1, .slice A1 l1.length c1), (2, .slice A2 l2.length c2), (7, .int .i64 (imin (imin (imin (l0.length : Int) (l1.length : Int)) (l2.length : Int)) 500)), (8, .slice A8_l1 x8_l1.length c8_l1), (19, .int .i64 (imin (imin (imin (l0.length : Int) (l1.length : Int)) (l2.length : Int)) 500)), (20, .int .i64 x20_l1), (23, .slice A8_l1 x8_l1.length c8_l1), (32, .int .u8 (ixor .u8 v14 v16)), (35, .pointer (some (adr A2 x20_l1.toNat 1)))]) (by kernel_rfl) ?_
      refine WD.ofR (i := 13) (by kernel_rfl) (RSt.loadInt (t := 5) (.tmp 35) (by kernel_rfl) (by kernel_rfl) (by kernel_rfl) (by kernel_rfl) (rdS.up R2 hS.sub0) e19 ?_)
      refine WD.weaken [0, 1, 2, 7, 8, 19, 20, 23, 32, 36] (L' := [(0, .slice A0 l0.length c0), (1, .slice A1 l1.length c1), (2, .slice A2 l2.length c2), (7, .int .i64 (imin (imin (imin (l0.length : Int) (l1.length : Int)) (l2.length : Int)) 500)), (8, .slice A8_l1 x8_l1.length c8_l1), (19, .int .i64 (imin (imin (imin (l0.length : Int) (l1.length : Int)) (l2.length : Int)) 500)), (20, .int .i64 x20_l1), (23, .slice A8_l1 x8_l1.length c8_l1), (32, .int .u8 (ixor .u8 v14 v16)), (36, .int .u8 v18)]) (by kernel_rfl) ?_
      refine WD.pure (i := 14) (v := .int .u8 (ixor .u8 (ixor .u8 v14 v16) v18)) (by kernel_rfl) (by kernel_rfl) (fun _ => by kernel_rfl) ?_
      refine WD.weaken [0, 1, 2, 7, 8, 19, 20, 23, 37] (L' := [(0, .slice A0 l0.length c0), (1, .slice A1 l1.length c1), (2, .slice A2 l2.length c2), (7, .int .i64 (imin (imin (imin (l0.length : Int) (l1.length : Int)) (l2.length : Int)) 500)), (8, .slice A8_l1 x8_l1.length c8_l1), (19, .int .i64 (imin (imin (imin (l0.length : Int) (l1.length : Int)) (l2.length : Int)) 500)), (20, .int .i64 x20_l1), (23, .slice A8_l1 x8_l1.length c8_l1), (37, .int .u8 (ixor .u8 (ixor .u8 v14 v16) v18))]) (by kernel_rfl) ?_
      refine WD.act (i := 15) (by kernel_rfl) (St.box hS (by kernel_rfl) (.cells #[.int .u8 (ixor .u8 (ixor .u8 v14 v16) v18)] 5) (fun b20 => .slice (some ⟨b20, 0, none⟩) 1 1) (fun _ => by kernel_rfl) (fun b20 w21 hS => ?_))
      refine ⟨(asked.anc (by kernel_rfl) (asked.anc (by kernel_rfl) (asked.anc (by kernel_rfl) (asked.nil _ _)))), ?_⟩
      refine WD.weaken [0, 1, 2, 7, 8, 19, 20, 23, 38] (L' := [(0, .slice A0 l0.length c0), (1, .slice A1 l1.length c1), (2, .slice A2 l2.length c2), (7, .int .i64 (imin (imin (imin (l0.length : Int) (l1.length : Int)) (l2.length : Int)) 500)), (8, .slice A8_l1 x8_l1.length c8_l1), (19, .int .i64 (imin (imin (imin (l0.length : Int) (l1.length : Int)) (l2.length : Int)) 500)), (20, .int .i64 x20_l1), (23, .slice A8_l1 x8_l1.length c8_l1), (38, .slice (some ⟨b20, 0, none⟩) 1 1)]) (by kernel_rfl) ?_
      have hS : Sat w21 (rf w0) [osl 5 (r0 (.int .u8)) 1 A8_l1 c8_l1 x8_l1, pts b20 (.cells #[.int .u8 (ixor .u8 (ixor .u8 v14 v16) v18)] 5 (0, 0))] := hS.sel [1, 0] (by kernel_rfl)
      obtain ⟨y23, e22, H⟩ := bind_ex H
      refine WD.act (i := 16) (by kernel_rfl) (St.append' (.tmp 23) (.tmp 38) (by kernel_rfl) (by kernel_rfl) E22 (r0_one _) hS (by kernel_rfl) (by kernel_rfl) (Sat.ptsAt 1 (r0 (.int .u8)) 1 ([ixor .u8 (ixor .u8 v14 v16) v18] : List Int) hS rfl rfl (rdL.cons1 rfl (rdL.nil _ _))) 140737488355328 (by kernel_rfl) (by kernel_rfl) e22 (fun A24 c25 w26 hS => ?_))
      refine ⟨(asked.anc (by kernel_rfl) (asked.anc (by kernel_rfl) (asked.anc (by kernel_rfl) (asked.nil _ _)))), ?_⟩
      refine WD.weaken [0, 1, 2, 7, 19, 20, 39] (L' := [(0, .slice A0 l0.length c0), (1, .slice A1 l1.length c1), (2, .slice A2 l2.length c2), (7, .int .i64 (imin (imin (imin (l0.length : Int) (l1.length : Int)) (l2.length : Int)) 500)), (19, .int .i64 (imin (imin (imin (l0.length : Int) (l1.length : Int)) (l2.length : Int)) 500)), (20, .int .i64 x20_l1), (39, .slice A24 y23.length c25)]) (by kernel_rfl) ?_
      refine WD.pure (i := 17) (v := .slice A24 y23.length c25) (by kernel_rfl) (by kernel_rfl) (fun _ => by kernel_rfl) ?_
      refine WD.weaken [0, 1, 2, 7, 8, 19, 20] (L' := [(0, .slice A0 l0.length c0), (1, .slice A1 l1.length c1), (2, .slice A2 l2.length c2), (7, .int .i64 (imin (imin (imin (l0.length : Int) (l1.length : Int)) (l2.length : Int)) 500)), (8, .slice A24 y23.length c25), (19, .int .i64 (imin (imin (imin (l0.length : Int) (l1.length : Int)) (l2.length : Int)) 500)), (20, .int .i64 x20_l1)]) (by kernel_rfl) ?_
      refine WD.nil (by kernel_rfl) ?_
      refine At.blockNormal ?_
      refine At.go ?_
      refine WC.reg [0, 1] (by kernel_rfl) (by kernel_rfl) ?_
      refine WR.runk [0, 1] [] [0, 1, 2, 7, 8, 19, 20] (L' := [(0, .slice A0 l0.length c0), (1, .slice A1 l1.length c1), (2, .slice A2 l2.length c2), (7, .int .i64 (imin (imin (imin (l0.length : Int) (l1.length : Int)) (l2.length : Int)) 500)), (8, .slice A24 y23.length c25), (19, .int .i64 (imin (imin (imin (l0.length : Int) (l1.length : Int)) (l2.length : Int)) 500)), (20, .int .i64 (wi (x20_l1 + 1)))]) (w' := w26) (by kernel_rfl) ?_
      refine WR.nil ?_
      have hS : Sat w26 (rf w0) [osl 5 (r0 (.int .u8)) 1 A24 c25 y23] := hS.sel [0] (by kernel_rfl)
      refine At.again ?_
      refine WL.weaken [0, 1, 2, 7, 8, 19, 20] (L' := [(0, .slice A0 l0.length c0), (1, .slice A1 l1.length c1), (2, .slice A2 l2.length c2), (7, .int .i64 (imin (imin (imin (l0.length : Int) (l1.length : Int)) (l2.length : Int)) 500)), (8, .slice A24 y23.length c25), (19, .int .i64 (imin (imin (imin (l0.length : Int) (l1.length : Int)) (l2.length : Int)) 500)), (20, .int .i64 (wi (x20_l1 + 1)))]) (by kernel_rfl) ?_
      exact ih y23 (wi (x20_l1 + 1)) A24 c25 _ hS H
    · replace H := ite_f H hb11
      refine WC.exit (by kernel_rfl) ?_
      refine At.thenExit ?_
      refine At.thenExit ?_
      obtain rfl := Option.some.inj H
      have hS : Sat w (rf w0) [osl 5 (r0 (.int .u8)) 1 A8_l1 c8_l1 x8_l1] := hS.sel [0] (by kernel_rfl)
      refine At.weaken [0, 1, 2, 7, 8] (L' := [(0, .slice A0 l0.length c0), (1, .slice A1 l1.length c1), (2, .slice A2 l2.length c2), (7, .int .i64 (imin (imin (imin (l0.length : Int) (l1.length : Int)) (l2.length : Int)) 500)), (8, .slice A8_l1 x8_l1.length c8_l1)]) (by kernel_rfl) ?_
      exact hn0 A8_l1 c8_l1 _ hS
theorem WD.perm {P : Program} {ops : Array Oper} {Q : Exit → Act → World → Prop} {n : Nat} {S : Fl} {f : Nat} {done done' : List Nat} {L : SL} {w : World} (e : lsB ops.size done = lsB ops.size done') (h : WD P ops Q n S f done' L w) : WD P ops Q n S f done L w := fun T hT => by
  rw [e]; exact h T hT
theorem crcadds_3_0123 {Q : Exit → Act → World → Prop} (w0 : World) (y0 y1 y2 y3 : List Int) (A0 : Option Addr) (c0 : Nat) (A1 : Option Addr) (c1 : Nat) (A2 : Option Addr) (c2 : Nat) (A3 : Option Addr) (c3 : Nat) (F0 : ∀ (w : World) (cs : List HP), Sat w (rf w0) cs → rdS (r0 (.int .u8)) 1 (hp w) A0 c0 y0) (F1 : ∀ (w : World) (cs : List HP), Sat w (rf w0) cs → rdS (r0 (.int .u8)) 1 (hp w) A1 c1 y1) (F2 : ∀ (w : World) (cs : List HP), Sat w (rf w0) cs → rdS (r0 (.int .u8)) 1 (hp w) A2 c2 y2) (out : Bool) (hend : ∀ (w : World), Sat w (rf w0) [] → At Q .normal 62 [(6, .bool out)] w) (q0 : Int) (q1 : Int) (q2 : Int) (b3 : Nat) (w : World) (hS : Sat w (rf w0) [pts b3 (.cells #[.slice A3 y3.length c3] 22 (0, 0)), osl 5 (r0 (.int .u8)) 1 A3 c3 y3]) (H : ((crc_Sum.f ([y3] : List (List Int))).bind fun q3 => some ((ixor .u32 (ixor .u32 q0 q1) q2) == q3)) = some out) :
    WD Try.prog (cops (cl (cr (cr (cr (cr (cr C6))))))) Q 62 [] 3 [0, 1, 2, 5, 6, 7, 11, 12, 13, 17, 3, 8, 14, 18, 4, 9, 15, 10, 16] [(57, .int .u32 (ixor .u32 (ixor .u32 q0 q1) q2)), (59, .slice (some ⟨b3, 0, none⟩) 1 1)] w := by
  obtain ⟨q3, e, H⟩ := bind_ex H
  refine WD.act (i := 19) (by kernel_rfl) (St.call (by kernel_rfl) (f := 10) (args := #[.slice (some ⟨b3, 0, none⟩) 1 1]) (by kernel_rfl) (crc_Sum.calls w (some ⟨b3, 0, none⟩) 1 ([y3] : List (List Int)) (Sat.ptsAt 0 (rd (hp w) (.slice 5 (.int .u8))) 1 ([y3] : List (List Int)) hS rfl rfl (rdL.cons1 ⟨_, _, rfl, (rdS.r0up (Sat.rdAt 1 hS rfl))⟩ (rdL.nil _ _))) q3 e) ?_)
  rintro _ w1 ⟨rfl, hS1⟩
  have hS : Sat w1 (rf w0) [pts b3 (.cells #[.slice A3 y3.length c3] 22 (0, 0)), osl 5 (r0 (.int .u8)) 1 A3 c3 y3] := hS.ext hS1
  refine ⟨(asked.nil _ _), ?_⟩
  refine WD.pure (i := 20) (v := .bool ((ixor .u32 (ixor .u32 q0 q1) q2) == q3)) (by kernel_rfl) (by kernel_rfl) (fun _ => by kernel_rfl) ?_
  refine WD.pure (i := 21) (v := .bool ((ixor .u32 (ixor .u32 q0 q1) q2) == q3)) (by kernel_rfl) (by kernel_rfl) (fun _ => by kernel_rfl) ?_
  refine WD.weaken [6] (L' := [(6, .bool ((ixor .u32 (ixor .u32 q0 q1) q2) == q3))]) (by kernel_rfl) ?_
  refine WD.nil (by kernel_rfl) ?_
  obtain rfl := Option.some.inj H
  exact hend _ (hS.sel [] (by kernel_rfl))
theorem crcadds_3_012 {Q : Exit → Act → World → Prop} (w0 : World) (y0 y1 y2 y3 : List Int) (A0 : Option Addr) (c0 : Nat) (A1 : Option Addr) (c1 : Nat) (A2 : Option Addr) (c2 : Nat) (A3 : Option Addr) (c3 : Nat) (F0 : ∀ (w : World) (cs : List HP), Sat w (rf w0) cs → rdS (r0 (.int .u8)) 1 (hp w) A0 c0 y0) (F1 : ∀ (w : World) (cs : List HP), Sat w (rf w0) cs → rdS (r0 (.int .u8)) 1 (hp w) A1 c1 y1) (F2 : ∀ (w : World) (cs : List HP), Sat w (rf w0) cs → rdS (r0 (.int .u8)) 1 (hp w) A2 c2 y2) (out : Bool) (hend : ∀ (w : World), Sat w (rf w0) [] → At Q .normal 62 [(6, .bool out)] w) (q0 : Int) (q1 : Int) (q2 : Int) (w : World) (hS : Sat w (rf w0) [osl 5 (r0 (.int .u8)) 1 A3 c3 y3]) (H : ((crc_Sum.f ([y3] : List (List Int))).bind fun q3 => some ((ixor .u32 (ixor .u32 q0 q1) q2) == q3)) = some out) :
    WD Try.prog (cops (cl (cr (cr (cr (cr (cr C6))))))) Q 62 [] 4 [0, 1, 2, 5, 6, 7, 11, 12, 13, 17, 3, 8, 14, 4, 9, 15, 10, 16] [(57, .int .u32 (ixor .u32 (ixor .u32 q0 q1) q2)), (58, .slice A3 y3.length c3)] w := by
  refine WD.act (i := 18) (by kernel_rfl) (St.box hS (by kernel_rfl) (.cells #[.slice A3 y3.length c3] 22) (fun b3 => .slice (some ⟨b3, 0, none⟩) 1 1) (fun _ => by kernel_rfl) (fun b3 w1 hS => ?_))
  refine ⟨(asked.nil _ _), ?_⟩
  have hS : Sat w1 (rf w0) [pts b3 (.cells #[.slice A3 y3.length c3] 22 (0, 0)), osl 5 (r0 (.int .u8)) 1 A3 c3 y3] := hS.sel [0, 1] (by kernel_rfl)
  refine WD.weaken [57, 59] (L' := [(57, .int .u32 (ixor .u32 (ixor .u32 q0 q1) q2)), (59, .slice (some ⟨b3, 0, none⟩) 1 1)]) (by kernel_rfl) ?_
  refine WD.perm (done' := [0, 1, 2, 5, 6, 7, 11, 12, 13, 17, 3, 8, 14, 18, 4, 9, 15, 10, 16]) (by kernel_rfl) ?_
  exact crcadds_3_0123 w0 y0 y1 y2 y3 A0 c0 A1 c1 A2 c2 A3 c3 F0 F1 F2 out hend q0 q1 q2 b3 w1 hS H
theorem crcadds_2_0123 {Q : Exit → Act → World → Prop} (w0 : World) (y0 y1 y2 y3 : List Int) (A0 : Option Addr) (c0 : Nat) (A1 : Option Addr) (c1 : Nat) (A2 : Option Addr) (c2 : Nat) (A3 : Option Addr) (c3 : Nat) (F0 : ∀ (w : World) (cs : List HP), Sat w (rf w0) cs → rdS (r0 (.int .u8)) 1 (hp w) A0 c0 y0) (F1 : ∀ (w : World) (cs : List HP), Sat w (rf w0) cs → rdS (r0 (.int .u8)) 1 (hp w) A1 c1 y1) (F2 : ∀ (w : World) (cs : List HP), Sat w (rf w0) cs → rdS (r0 (.int .u8)) 1 (hp w) A2 c2 y2) (out : Bool) (hend : ∀ (w : World), Sat w (rf w0) [] → At Q .normal 62 [(6, .bool out)] w) (q0 : Int) (q1 : Int) (b2 : Nat) (b3 : Nat) (w : World) (hS : Sat w (rf w0) [pts b2 (.cells #[.slice A2 y2.length c2] 22 (0, 0)), pts b3 (.cells #[.slice A3 y3.length c3] 22 (0, 0)), osl 5 (r0 (.int .u8)) 1 A3 c3 y3]) (H : ((crc_Sum.f ([y2] : List (List Int))).bind fun q2 => ((crc_Sum.f ([y3] : List (List Int))).bind fun q3 => some ((ixor .u32 (ixor .u32 q0 q1) q2) == q3))) = some out) :
    WD Try.prog (cops (cl (cr (cr (cr (cr (cr C6))))))) Q 62 [] 5 [0, 1, 2, 5, 6, 7, 11, 12, 13, 17, 3, 8, 14, 18, 4, 9, 10] [(51, .int .u32 (ixor .u32 q0 q1)), (55, .slice (some ⟨b2, 0, none⟩) 1 1), (59, .slice (some ⟨b3, 0, none⟩) 1 1)] w := by
  obtain ⟨q2, e, H⟩ := bind_ex H
  refine WD.act (i := 15) (by kernel_rfl) (St.call (by kernel_rfl) (f := 10) (args := #[.slice (some ⟨b2, 0, none⟩) 1 1]) (by kernel_rfl) (crc_Sum.calls w (some ⟨b2, 0, none⟩) 1 ([y2] : List (List Int)) (Sat.ptsAt 0 (rd (hp w) (.slice 5 (.int .u8))) 1 ([y2] : List (List Int)) hS rfl rfl (rdL.cons1 ⟨_, _, rfl, (rdS.r0up (F2 _ _ hS))⟩ (rdL.nil _ _))) q2 e) ?_)
  rintro _ w1 ⟨rfl, hS1⟩
  have hS : Sat w1 (rf w0) [pts b2 (.cells #[.slice A2 y2.length c2] 22 (0, 0)), pts b3 (.cells #[.slice A3 y3.length c3] 22 (0, 0)), osl 5 (r0 (.int .u8)) 1 A3 c3 y3] := hS.ext hS1
  refine ⟨(asked.nil _ _), ?_⟩
  have hS : Sat w1 (rf w0) [pts b3 (.cells #[.slice A3 y3.length c3] 22 (0, 0)), osl 5 (r0 (.int .u8)) 1 A3 c3 y3] := hS.sel [1, 2] (by kernel_rfl)
  refine WD.pure (i := 16) (v := .int .u32 (ixor .u32 (ixor .u32 q0 q1) q2)) (by kernel_rfl) (by kernel_rfl) (fun _ => by kernel_rfl) ?_
  refine WD.weaken [57, 59] (L' := [(57, .int .u32 (ixor .u32 (ixor .u32 q0 q1) q2)), (59, .slice (some ⟨b3, 0, none⟩) 1 1)]) (by kernel_rfl) ?_
  refine WD.perm (done' := [0, 1, 2, 5, 6, 7, 11, 12, 13, 17, 3, 8, 14, 18, 4, 9, 15, 10, 16]) (by kernel_rfl) ?_
  exact crcadds_3_0123 w0 y0 y1 y2 y3 A0 c0 A1 c1 A2 c2 A3 c3 F0 F1 F2 out hend q0 q1 q2 b3 w1 hS H
theorem crcadds_2_012 {Q : Exit → Act → World → Prop} (w0 : World) (y0 y1 y2 y3 : List Int) (A0 : Option Addr) (c0 : Nat) (A1 : Option Addr) (c1 : Nat) (A2 : Option Addr) (c2 : Nat) (A3 : Option Addr) (c3 : Nat) (F0 : ∀ (w : World) (cs : List HP), Sat w (rf w0) cs → rdS (r0 (.int .u8)) 1 (hp w) A0 c0 y0) (F1 : ∀ (w : World) (cs : List HP), Sat w (rf w0) cs → rdS (r0 (.int .u8)) 1 (hp w) A1 c1 y1) (F2 : ∀ (w : World) (cs : List HP), Sat w (rf w0) cs → rdS (r0 (.int .u8)) 1 (hp w) A2 c2 y2) (out : Bool) (hend : ∀ (w : World), Sat w (rf w0) [] → At Q .normal 62 [(6, .bool out)] w) (q0 : Int) (q1 : Int) (b2 : Nat) (w : World) (hS : Sat w (rf w0) [pts b2 (.cells #[.slice A2 y2.length c2] 22 (0, 0)), osl 5 (r0 (.int .u8)) 1 A3 c3 y3]) (H : ((crc_Sum.f ([y2] : List (List Int))).bind fun q2 => ((crc_Sum.f ([y3] : List (List Int))).bind fun q3 => some ((ixor .u32 (ixor .u32 q0 q1) q2) == q3))) = some out) :
    WD Try.prog (cops (cl (cr (cr (cr (cr (cr C6))))))) Q 62 [] 6 [0, 1, 2, 5, 6, 7, 11, 12, 13, 17, 3, 8, 14, 4, 9, 10] [(51, .int .u32 (ixor .u32 q0 q1)), (55, .slice (some ⟨b2, 0, none⟩) 1 1), (58, .slice A3 y3.length c3)] w := by
  refine WD.many (is := [15, 18]) (by kernel_rfl) rfl ⟨?_, ?_, trivial⟩
  · obtain ⟨q2, e, H⟩ := bind_ex H
    refine St.call (by kernel_rfl) (f := 10) (args := #[.slice (some ⟨b2, 0, none⟩) 1 1]) (by kernel_rfl) (crc_Sum.calls w (some ⟨b2, 0, none⟩) 1 ([y2] : List (List Int)) (Sat.ptsAt 0 (rd (hp w) (.slice 5 (.int .u8))) 1 ([y2] : List (List Int)) hS rfl rfl (rdL.cons1 ⟨_, _, rfl, (rdS.r0up (F2 _ _ hS))⟩ (rdL.nil _ _))) q2 e) ?_
    rintro _ w1 ⟨rfl, hS1⟩
    have hS : Sat w1 (rf w0) [pts b2 (.cells #[.slice A2 y2.length c2] 22 (0, 0)), osl 5 (r0 (.int .u8)) 1 A3 c3 y3] := hS.ext hS1
    refine ⟨(asked.nil _ _), ?_⟩
    have hS : Sat w1 (rf w0) [osl 5 (r0 (.int .u8)) 1 A3 c3 y3] := hS.sel [1] (by kernel_rfl)
    refine WD.pure (i := 16) (v := .int .u32 (ixor .u32 (ixor .u32 q0 q1) q2)) (by kernel_rfl) (by kernel_rfl) (fun _ => by kernel_rfl) ?_
    refine WD.weaken [57, 58] (L' := [(57, .int .u32 (ixor .u32 (ixor .u32 q0 q1) q2)), (58, .slice A3 y3.length c3)]) (by kernel_rfl) ?_
    refine WD.perm (done' := [0, 1, 2, 5, 6, 7, 11, 12, 13, 17, 3, 8, 14, 4, 9, 15, 10, 16]) (by kernel_rfl) ?_
    exact crcadds_3_012 w0 y0 y1 y2 y3 A0 c0 A1 c1 A2 c2 A3 c3 F0 F1 F2 out hend q0 q1 q2 w1 hS H
  · refine St.box hS (by kernel_rfl) (.cells #[.slice A3 y3.length c3] 22) (fun b3 => .slice (some ⟨b3, 0, none⟩) 1 1) (fun _ => by kernel_rfl) (fun b3 w1 hS => ?_)
    refine ⟨(asked.nil _ _), ?_⟩
    have hS : Sat w1 (rf w0) [pts b2 (.cells #[.slice A2 y2.length c2] 22 (0, 0)), pts b3 (.cells #[.slice A3 y3.length c3] 22 (0, 0)), osl 5 (r0 (.int .u8)) 1 A3 c3 y3] := hS.sel [1, 0, 2] (by kernel_rfl)
    refine WD.weaken [51, 55, 59] (L' := [(51, .int .u32 (ixor .u32 q0 q1)), (55, .slice (some ⟨b2, 0, none⟩) 1 1), (59, .slice (some ⟨b3, 0, none⟩) 1 1)]) (by kernel_rfl) ?_
    refine WD.perm (done' := [0, 1, 2, 5, 6, 7, 11, 12, 13, 17, 3, 8, 14, 18, 4, 9, 10]) (by kernel_rfl) ?_
    exact crcadds_2_0123 w0 y0 y1 y2 y3 A0 c0 A1 c1 A2 c2 A3 c3 F0 F1 F2 out hend q0 q1 b2 b3 w1 hS H
theorem crcadds_2_013 {Q : Exit → Act → World → Prop} (w0 : World) (y0 y1 y2 y3 : List Int) (A0 : Option Addr) (c0 : Nat) (A1 : Option Addr) (c1 : Nat) (A2 : Option Addr) (c2 : Nat) (A3 : Option Addr) (c3 : Nat) (F0 : ∀ (w : World) (cs : List HP), Sat w (rf w0) cs → rdS (r0 (.int .u8)) 1 (hp w) A0 c0 y0) (F1 : ∀ (w : World) (cs : List HP), Sat w (rf w0) cs → rdS (r0 (.int .u8)) 1 (hp w) A1 c1 y1) (F2 : ∀ (w : World) (cs : List HP), Sat w (rf w0) cs → rdS (r0 (.int .u8)) 1 (hp w) A2 c2 y2) (out : Bool) (hend : ∀ (w : World), Sat w (rf w0) [] → At Q .normal 62 [(6, .bool out)] w) (q0 : Int) (q1 : Int) (b3 : Nat) (w : World) (hS : Sat w (rf w0) [pts b3 (.cells #[.slice A3 y3.length c3] 22 (0, 0)), osl 5 (r0 (.int .u8)) 1 A3 c3 y3]) (H : ((crc_Sum.f ([y2] : List (List Int))).bind fun q2 => ((crc_Sum.f ([y3] : List (List Int))).bind fun q3 => some ((ixor .u32 (ixor .u32 q0 q1) q2) == q3))) = some out) :
    WD Try.prog (cops (cl (cr (cr (cr (cr (cr C6))))))) Q 62 [] 6 [0, 1, 2, 5, 6, 7, 11, 12, 13, 17, 3, 8, 18, 4, 9, 10] [(51, .int .u32 (ixor .u32 q0 q1)), (54, .slice A2 y2.length c2), (59, .slice (some ⟨b3, 0, none⟩) 1 1)] w := by
  refine WD.act (i := 14) (by kernel_rfl) (St.box hS (by kernel_rfl) (.cells #[.slice A2 y2.length c2] 22) (fun b2 => .slice (some ⟨b2, 0, none⟩) 1 1) (fun _ => by kernel_rfl) (fun b2 w1 hS => ?_))
  refine ⟨(asked.nil _ _), ?_⟩
  have hS : Sat w1 (rf w0) [pts b2 (.cells #[.slice A2 y2.length c2] 22 (0, 0)), pts b3 (.cells #[.slice A3 y3.length c3] 22 (0, 0)), osl 5 (r0 (.int .u8)) 1 A3 c3 y3] := hS.sel [0, 1, 2] (by kernel_rfl)
  refine WD.weaken [51, 55, 59] (L' := [(51, .int .u32 (ixor .u32 q0 q1)), (55, .slice (some ⟨b2, 0, none⟩) 1 1), (59, .slice (some ⟨b3, 0, none⟩) 1 1)]) (by kernel_rfl) ?_
  refine WD.perm (done' := [0, 1, 2, 5, 6, 7, 11, 12, 13, 17, 3, 8, 14, 18, 4, 9, 10]) (by kernel_rfl) ?_
  exact crcadds_2_0123 w0 y0 y1 y2 y3 A0 c0 A1 c1 A2 c2 A3 c3 F0 F1 F2 out hend q0 q1 b2 b3 w1 hS H
theorem crcadds_2_01 {Q : Exit → Act → World → Prop} (w0 : World) (y0 y1 y2 y3 : List Int) (A0 : Option Addr) (c0 : Nat) (A1 : Option Addr) (c1 : Nat) (A2 : Option Addr) (c2 : Nat) (A3 : Option Addr) (c3 : Nat) (F0 : ∀ (w : World) (cs : List HP), Sat w (rf w0) cs → rdS (r0 (.int .u8)) 1 (hp w) A0 c0 y0) (F1 : ∀ (w : World) (cs : List HP), Sat w (rf w0) cs → rdS (r0 (.int .u8)) 1 (hp w) A1 c1 y1) (F2 : ∀ (w : World) (cs : List HP), Sat w (rf w0) cs → rdS (r0 (.int .u8)) 1 (hp w) A2 c2 y2) (out : Bool) (hend : ∀ (w : World), Sat w (rf w0) [] → At Q .normal 62 [(6, .bool out)] w) (q0 : Int) (q1 : Int) (w : World) (hS : Sat w (rf w0) [osl 5 (r0 (.int .u8)) 1 A3 c3 y3]) (H : ((crc_Sum.f ([y2] : List (List Int))).bind fun q2 => ((crc_Sum.f ([y3] : List (List Int))).bind fun q3 => some ((ixor .u32 (ixor .u32 q0 q1) q2) == q3))) = some out) :
    WD Try.prog (cops (cl (cr (cr (cr (cr (cr C6))))))) Q 62 [] 7 [0, 1, 2, 5, 6, 7, 11, 12, 13, 17, 3, 8, 4, 9, 10] [(51, .int .u32 (ixor .u32 q0 q1)), (54, .slice A2 y2.length c2), (58, .slice A3 y3.length c3)] w := by
  refine WD.many (is := [14, 18]) (by kernel_rfl) rfl ⟨?_, ?_, trivial⟩
  · refine St.box hS (by kernel_rfl) (.cells #[.slice A2 y2.length c2] 22) (fun b2 => .slice (some ⟨b2, 0, none⟩) 1 1) (fun _ => by kernel_rfl) (fun b2 w1 hS => ?_)
    refine ⟨(asked.nil _ _), ?_⟩
    have hS : Sat w1 (rf w0) [pts b2 (.cells #[.slice A2 y2.length c2] 22 (0, 0)), osl 5 (r0 (.int .u8)) 1 A3 c3 y3] := hS.sel [0, 1] (by kernel_rfl)
    refine WD.weaken [51, 55, 58] (L' := [(51, .int .u32 (ixor .u32 q0 q1)), (55, .slice (some ⟨b2, 0, none⟩) 1 1), (58, .slice A3 y3.length c3)]) (by kernel_rfl) ?_
    refine WD.perm (done' := [0, 1, 2, 5, 6, 7, 11, 12, 13, 17, 3, 8, 14, 4, 9, 10]) (by kernel_rfl) ?_
    exact crcadds_2_012 w0 y0 y1 y2 y3 A0 c0 A1 c1 A2 c2 A3 c3 F0 F1 F2 out hend q0 q1 b2 w1 hS H
  · refine St.box hS (by kernel_rfl) (.cells #[.slice A3 y3.length c3] 22) (fun b3 => .slice (some ⟨b3, 0, none⟩) 1 1) (fun _ => by kernel_rfl) (fun b3 w1 hS => ?_)
    refine ⟨(asked.nil _ _), ?_⟩
    have hS : Sat w1 (rf w0) [pts b3 (.cells #[.slice A3 y3.length c3] 22 (0, 0)), osl 5 (r0 (.int .u8)) 1 A3 c3 y3] := hS.sel [0, 1] (by kernel_rfl)
    refine WD.weaken [51, 54, 59] (L' := [(51, .int .u32 (ixor .u32 q0 q1)), (54, .slice A2 y2.length c2), (59, .slice (some ⟨b3, 0, none⟩) 1 1)]) (by kernel_rfl) ?_
    refine WD.perm (done' := [0, 1, 2, 5, 6, 7, 11, 12, 13, 17, 3, 8, 18, 4, 9, 10]) (by kernel_rfl) ?_
    exact crcadds_2_013 w0 y0 y1 y2 y3 A0 c0 A1 c1 A2 c2 A3 c3 F0 F1 F2 out hend q0 q1 b3 w1 hS H
theorem crcadds_1_0123 {Q : Exit → Act → World → Prop} (w0 : World) (y0 y1 y2 y3 : List Int) (A0 : Option Addr) (c0 : Nat) (A1 : Option Addr) (c1 : Nat) (A2 : Option Addr) (c2 : Nat) (A3 : Option Addr) (c3 : Nat) (F0 : ∀ (w : World) (cs : List HP), Sat w (rf w0) cs → rdS (r0 (.int .u8)) 1 (hp w) A0 c0 y0) (F1 : ∀ (w : World) (cs : List HP), Sat w (rf w0) cs → rdS (r0 (.int .u8)) 1 (hp w) A1 c1 y1) (F2 : ∀ (w : World) (cs : List HP), Sat w (rf w0) cs → rdS (r0 (.int .u8)) 1 (hp w) A2 c2 y2) (out : Bool) (hend : ∀ (w : World), Sat w (rf w0) [] → At Q .normal 62 [(6, .bool out)] w) (q0 : Int) (b1 : Nat) (b2 : Nat) (b3 : Nat) (w : World) (hS : Sat w (rf w0) [pts b1 (.cells #[.slice A1 y1.length c1] 22 (0, 0)), pts b2 (.cells #[.slice A2 y2.length c2] 22 (0, 0)), pts b3 (.cells #[.slice A3 y3.length c3] 22 (0, 0)), osl 5 (r0 (.int .u8)) 1 A3 c3 y3]) (H : ((crc_Sum.f ([y1] : List (List Int))).bind fun q1 => ((crc_Sum.f ([y2] : List (List Int))).bind fun q2 => ((crc_Sum.f ([y3] : List (List Int))).bind fun q3 => some ((ixor .u32 (ixor .u32 q0 q1) q2) == q3)))) = some out) :
    WD Try.prog (cops (cl (cr (cr (cr (cr (cr C6))))))) Q 62 [] 7 [0, 1, 2, 5, 6, 7, 11, 12, 13, 17, 3, 8, 14, 18, 4] [(45, .int .u32 q0), (49, .slice (some ⟨b1, 0, none⟩) 1 1), (55, .slice (some ⟨b2, 0, none⟩) 1 1), (59, .slice (some ⟨b3, 0, none⟩) 1 1)] w := by
  obtain ⟨q1, e, H⟩ := bind_ex H
  refine WD.act (i := 9) (by kernel_rfl) (St.call (by kernel_rfl) (f := 10) (args := #[.slice (some ⟨b1, 0, none⟩) 1 1]) (by kernel_rfl) (crc_Sum.calls w (some ⟨b1, 0, none⟩) 1 ([y1] : List (List Int)) (Sat.ptsAt 0 (rd (hp w) (.slice 5 (.int .u8))) 1 ([y1] : List (List Int)) hS rfl rfl (rdL.cons1 ⟨_, _, rfl, (rdS.r0up (F1 _ _ hS))⟩ (rdL.nil _ _))) q1 e) ?_)
  rintro _ w1 ⟨rfl, hS1⟩
  have hS : Sat w1 (rf w0) [pts b1 (.cells #[.slice A1 y1.length c1] 22 (0, 0)), pts b2 (.cells #[.slice A2 y2.length c2] 22 (0, 0)), pts b3 (.cells #[.slice A3 y3.length c3] 22 (0, 0)), osl 5 (r0 (.int .u8)) 1 A3 c3 y3] := hS.ext hS1
  refine ⟨(asked.nil _ _), ?_⟩
  have hS : Sat w1 (rf w0) [pts b2 (.cells #[.slice A2 y2.length c2] 22 (0, 0)), pts b3 (.cells #[.slice A3 y3.length c3] 22 (0, 0)), osl 5 (r0 (.int .u8)) 1 A3 c3 y3] := hS.sel [1, 2, 3] (by kernel_rfl)
  refine WD.pure (i := 10) (v := .int .u32 (ixor .u32 q0 q1)) (by kernel_rfl) (by kernel_rfl) (fun _ => by kernel_rfl) ?_
  refine WD.weaken [51, 55, 59] (L' := [(51, .int .u32 (ixor .u32 q0 q1)), (55, .slice (some ⟨b2, 0, none⟩) 1 1), (59, .slice (some ⟨b3, 0, none⟩) 1 1)]) (by kernel_rfl) ?_
  refine WD.perm (done' := [0, 1, 2, 5, 6, 7, 11, 12, 13, 17, 3, 8, 14, 18, 4, 9, 10]) (by kernel_rfl) ?_
  exact crcadds_2_0123 w0 y0 y1 y2 y3 A0 c0 A1 c1 A2 c2 A3 c3 F0 F1 F2 out hend q0 q1 b2 b3 w1 hS H
theorem crcadds_1_012 {Q : Exit → Act → World → Prop} (w0 : World) (y0 y1 y2 y3 : List Int) (A0 : Option Addr) (c0 : Nat) (A1 : Option Addr) (c1 : Nat) (A2 : Option Addr) (c2 : Nat) (A3 : Option Addr) (c3 : Nat) (F0 : ∀ (w : World) (cs : List HP), Sat w (rf w0) cs → rdS (r0 (.int .u8)) 1 (hp w) A0 c0 y0) (F1 : ∀ (w : World) (cs : List HP), Sat w (rf w0) cs → rdS (r0 (.int .u8)) 1 (hp w) A1 c1 y1) (F2 : ∀ (w : World) (cs : List HP), Sat w (rf w0) cs → rdS (r0 (.int .u8)) 1 (hp w) A2 c2 y2) (out : Bool) (hend : ∀ (w : World), Sat w (rf w0) [] → At Q .normal 62 [(6, .bool out)] w) (q0 : Int) (b1 : Nat) (b2 : Nat) (w : World) (hS : Sat w (rf w0) [pts b1 (.cells #[.slice A1 y1.length c1] 22 (0, 0)), pts b2 (.cells #[.slice A2 y2.length c2] 22 (0, 0)), osl 5 (r0 (.int .u8)) 1 A3 c3 y3]) (H : ((crc_Sum.f ([y1] : List (List Int))).bind fun q1 => ((crc_Sum.f ([y2] : List (List Int))).bind fun q2 => ((crc_Sum.f ([y3] : List (List Int))).bind fun q3 => some ((ixor .u32 (ixor .u32 q0 q1) q2) == q3)))) = some out) :
    WD Try.prog (cops (cl (cr (cr (cr (cr (cr C6))))))) Q 62 [] 8 [0, 1, 2, 5, 6, 7, 11, 12, 13, 17, 3, 8, 14, 4] [(45, .int .u32 q0), (49, .slice (some ⟨b1, 0, none⟩) 1 1), (55, .slice (some ⟨b2, 0, none⟩) 1 1), (58, .slice A3 y3.length c3)] w := by
  refine WD.many (is := [9, 18]) (by kernel_rfl) rfl ⟨?_, ?_, trivial⟩
  · obtain ⟨q1, e, H⟩ := bind_ex H
    refine St.call (by kernel_rfl) (f := 10) (args := #[.slice (some ⟨b1, 0, none⟩) 1 1]) (by kernel_rfl) (crc_Sum.calls w (some ⟨b1, 0, none⟩) 1 ([y1] : List (List Int)) (Sat.ptsAt 0 (rd (hp w) (.slice 5 (.int .u8))) 1 ([y1] : List (List Int)) hS rfl rfl (rdL.cons1 ⟨_, _, rfl, (rdS.r0up (F1 _ _ hS))⟩ (rdL.nil _ _))) q1 e) ?_
    rintro _ w1 ⟨rfl, hS1⟩
    have hS : Sat w1 (rf w0) [pts b1 (.cells #[.slice A1 y1.length c1] 22 (0, 0)), pts b2 (.cells #[.slice A2 y2.length c2] 22 (0, 0)), osl 5 (r0 (.int .u8)) 1 A3 c3 y3] := hS.ext hS1
    refine ⟨(asked.nil _ _), ?_⟩
    have hS : Sat w1 (rf w0) [pts b2 (.cells #[.slice A2 y2.length c2] 22 (0, 0)), osl 5 (r0 (.int .u8)) 1 A3 c3 y3] := hS.sel [1, 2] (by kernel_rfl)
    refine WD.pure (i := 10) (v := .int .u32 (ixor .u32 q0 q1)) (by kernel_rfl) (by kernel_rfl) (fun _ => by kernel_rfl) ?_
    refine WD.weaken [51, 55, 58] (L' := [(51, .int .u32 (ixor .u32 q0 q1)), (55, .slice (some ⟨b2, 0, none⟩) 1 1), (58, .slice A3 y3.length c3)]) (by kernel_rfl) ?_
    refine WD.perm (done' := [0, 1, 2, 5, 6, 7, 11, 12, 13, 17, 3, 8, 14, 4, 9, 10]) (by kernel_rfl) ?_
    exact crcadds_2_012 w0 y0 y1 y2 y3 A0 c0 A1 c1 A2 c2 A3 c3 F0 F1 F2 out hend q0 q1 b2 w1 hS H
  · refine St.box hS (by kernel_rfl) (.cells #[.slice A3 y3.length c3] 22) (fun b3 => .slice (some ⟨b3, 0, none⟩) 1 1) (fun _ => by kernel_rfl) (fun b3 w1 hS => ?_)
    refine ⟨(asked.nil _ _), ?_⟩
    have hS : Sat w1 (rf w0) [pts b1 (.cells #[.slice A1 y1.length c1] 22 (0, 0)), pts b2 (.cells #[.slice A2 y2.length c2] 22 (0, 0)), pts b3 (.cells #[.slice A3 y3.length c3] 22 (0, 0)), osl 5 (r0 (.int .u8)) 1 A3 c3 y3] := hS.sel [1, 2, 0, 3] (by kernel_rfl)
    refine WD.weaken [45, 49, 55, 59] (L' := [(45, .int .u32 q0), (49, .slice (some ⟨b1, 0, none⟩) 1 1), (55, .slice (some ⟨b2, 0, none⟩) 1 1), (59, .slice (some ⟨b3, 0, none⟩) 1 1)]) (by kernel_rfl) ?_
    refine WD.perm (done' := [0, 1, 2, 5, 6, 7, 11, 12, 13, 17, 3, 8, 14, 18, 4]) (by kernel_rfl) ?_
    exact crcadds_1_0123 w0 y0 y1 y2 y3 A0 c0 A1 c1 A2 c2 A3 c3 F0 F1 F2 out hend q0 b1 b2 b3 w1 hS H
theorem crcadds_1_013 {Q : Exit → Act → World → Prop} (w0 : World) (y0 y1 y2 y3 : List Int) (A0 : Option Addr) (c0 : Nat) (A1 : Option Addr) (c1 : Nat) (A2 : Option Addr) (c2 : Nat) (A3 : Option Addr) (c3 : Nat) (F0 : ∀ (w : World) (cs : List HP), Sat w (rf w0) cs → rdS (r0 (.int .u8)) 1 (hp w) A0 c0 y0) (F1 : ∀ (w : World) (cs : List HP), Sat w (rf w0) cs → rdS (r0 (.int .u8)) 1 (hp w) A1 c1 y1) (F2 : ∀ (w : World) (cs : List HP), Sat w (rf w0) cs → rdS (r0 (.int .u8)) 1 (hp w) A2 c2 y2) (out : Bool) (hend : ∀ (w : World), Sat w (rf w0) [] → At Q .normal 62 [(6, .bool out)] w) (q0 : Int) (b1 : Nat) (b3 : Nat) (w : World) (hS : Sat w (rf w0) [pts b1 (.cells #[.slice A1 y1.length c1] 22 (0, 0)), pts b3 (.cells #[.slice A3 y3.length c3] 22 (0, 0)), osl 5 (r0 (.int .u8)) 1 A3 c3 y3]) (H : ((crc_Sum.f ([y1] : List (List Int))).bind fun q1 => ((crc_Sum.f ([y2] : List (List Int))).bind fun q2 => ((crc_Sum.f ([y3] : List (List Int))).bind fun q3 => some ((ixor .u32 (ixor .u32 q0 q1) q2) == q3)))) = some out) :
    WD Try.prog (cops (cl (cr (cr (cr (cr (cr C6))))))) Q 62 [] 8 [0, 1, 2, 5, 6, 7, 11, 12, 13, 17, 3, 8, 18, 4] [(45, .int .u32 q0), (49, .slice (some ⟨b1, 0, none⟩) 1 1), (54, .slice A2 y2.length c2), (59, .slice (some ⟨b3, 0, none⟩) 1 1)] w := by
  refine WD.many (is := [9, 14]) (by kernel_rfl) rfl ⟨?_, ?_, trivial⟩
  · obtain ⟨q1, e, H⟩ := bind_ex H
    refine St.call (by kernel_rfl) (f := 10) (args := #[.slice (some ⟨b1, 0, none⟩) 1 1]) (by kernel_rfl) (crc_Sum.calls w (some ⟨b1, 0, none⟩) 1 ([y1] : List (List Int)) (Sat.ptsAt 0 (rd (hp w) (.slice 5 (.int .u8))) 1 ([y1] : List (List Int)) hS rfl rfl (rdL.cons1 ⟨_, _, rfl, (rdS.r0up (F1 _ _ hS))⟩ (rdL.nil _ _))) q1 e) ?_
    rintro _ w1 ⟨rfl, hS1⟩
    have hS : Sat w1 (rf w0) [pts b1 (.cells #[.slice A1 y1.length c1] 22 (0, 0)), pts b3 (.cells #[.slice A3 y3.length c3] 22 (0, 0)), osl 5 (r0 (.int .u8)) 1 A3 c3 y3] := hS.ext hS1
    refine ⟨(asked.nil _ _), ?_⟩
    have hS : Sat w1 (rf w0) [pts b3 (.cells #[.slice A3 y3.length c3] 22 (0, 0)), osl 5 (r0 (.int .u8)) 1 A3 c3 y3] := hS.sel [1, 2] (by kernel_rfl)
    refine WD.pure (i := 10) (v := .int .u32 (ixor .u32 q0 q1)) (by kernel_rfl) (by kernel_rfl) (fun _ => by kernel_rfl) ?_
    refine WD.weaken [51, 54, 59] (L' := [(51, .int .u32 (ixor .u32 q0 q1)), (54, .slice A2 y2.length c2), (59, .slice (some ⟨b3, 0, none⟩) 1 1)]) (by kernel_rfl) ?_
    refine WD.perm (done' := [0, 1, 2, 5, 6, 7, 11, 12, 13, 17, 3, 8, 18, 4, 9, 10]) (by kernel_rfl) ?_
    exact crcadds_2_013 w0 y0 y1 y2 y3 A0 c0 A1 c1 A2 c2 A3 c3 F0 F1 F2 out hend q0 q1 b3 w1 hS H
  · refine St.box hS (by kernel_rfl) (.cells #[.slice A2 y2.length c2] 22) (fun b2 => .slice (some ⟨b2, 0, none⟩) 1 1) (fun _ => by kernel_rfl) (fun b2 w1 hS => ?_)
    refine ⟨(asked.nil _ _), ?_⟩
    have hS : Sat w1 (rf w0) [pts b1 (.cells #[.slice A1 y1.length c1] 22 (0, 0)), pts b2 (.cells #[.slice A2 y2.length c2] 22 (0, 0)), pts b3 (.cells #[.slice A3 y3.length c3] 22 (0, 0)), osl 5 (r0 (.int .u8)) 1 A3 c3 y3] := hS.sel [1, 0, 2, 3] (by kernel_rfl)
    refine WD.weaken [45, 49, 55, 59] (L' := [(45, .int .u32 q0), (49, .slice (some ⟨b1, 0, none⟩) 1 1), (55, .slice (some ⟨b2, 0, none⟩) 1 1), (59, .slice (some ⟨b3, 0, none⟩) 1 1)]) (by kernel_rfl) ?_
    refine WD.perm (done' := [0, 1, 2, 5, 6, 7, 11, 12, 13, 17, 3, 8, 14, 18, 4]) (by kernel_rfl) ?_
    exact crcadds_1_0123 w0 y0 y1 y2 y3 A0 c0 A1 c1 A2 c2 A3 c3 F0 F1 F2 out hend q0 b1 b2 b3 w1 hS H
theorem crcadds_1_023 {Q : Exit → Act → World → Prop} (w0 : World) (y0 y1 y2 y3 : List Int) (A0 : Option Addr) (c0 : Nat) (A1 : Option Addr) (c1 : Nat) (A2 : Option Addr) (c2 : Nat) (A3 : Option Addr) (c3 : Nat) (F0 : ∀ (w : World) (cs : List HP), Sat w (rf w0) cs → rdS (r0 (.int .u8)) 1 (hp w) A0 c0 y0) (F1 : ∀ (w : World) (cs : List HP), Sat w (rf w0) cs → rdS (r0 (.int .u8)) 1 (hp w) A1 c1 y1) (F2 : ∀ (w : World) (cs : List HP), Sat w (rf w0) cs → rdS (r0 (.int .u8)) 1 (hp w) A2 c2 y2) (out : Bool) (hend : ∀ (w : World), Sat w (rf w0) [] → At Q .normal 62 [(6, .bool out)] w) (q0 : Int) (b2 : Nat) (b3 : Nat) (w : World) (hS : Sat w (rf w0) [pts b2 (.cells #[.slice A2 y2.length c2] 22 (0, 0)), pts b3 (.cells #[.slice A3 y3.length c3] 22 (0, 0)), osl 5 (r0 (.int .u8)) 1 A3 c3 y3]) (H : ((crc_Sum.f ([y1] : List (List Int))).bind fun q1 => ((crc_Sum.f ([y2] : List (List Int))).bind fun q2 => ((crc_Sum.f ([y3] : List (List Int))).bind fun q3 => some ((ixor .u32 (ixor .u32 q0 q1) q2) == q3)))) = some out) :
    WD Try.prog (cops (cl (cr (cr (cr (cr (cr C6))))))) Q 62 [] 8 [0, 1, 2, 5, 6, 7, 11, 12, 13, 17, 3, 14, 18, 4] [(45, .int .u32 q0), (48, .slice A1 y1.length c1), (55, .slice (some ⟨b2, 0, none⟩) 1 1), (59, .slice (some ⟨b3, 0, none⟩) 1 1)] w := by
  refine WD.act (i := 8) (by kernel_rfl) (St.box hS (by kernel_rfl) (.cells #[.slice A1 y1.length c1] 22) (fun b1 => .slice (some ⟨b1, 0, none⟩) 1 1) (fun _ => by kernel_rfl) (fun b1 w1 hS => ?_))
  refine ⟨(asked.nil _ _), ?_⟩
  have hS : Sat w1 (rf w0) [pts b1 (.cells #[.slice A1 y1.length c1] 22 (0, 0)), pts b2 (.cells #[.slice A2 y2.length c2] 22 (0, 0)), pts b3 (.cells #[.slice A3 y3.length c3] 22 (0, 0)), osl 5 (r0 (.int .u8)) 1 A3 c3 y3] := hS.sel [0, 1, 2, 3] (by kernel_rfl)
  refine WD.weaken [45, 49, 55, 59] (L' := [(45, .int .u32 q0), (49, .slice (some ⟨b1, 0, none⟩) 1 1), (55, .slice (some ⟨b2, 0, none⟩) 1 1), (59, .slice (some ⟨b3, 0, none⟩) 1 1)]) (by kernel_rfl) ?_
  refine WD.perm (done' := [0, 1, 2, 5, 6, 7, 11, 12, 13, 17, 3, 8, 14, 18, 4]) (by kernel_rfl) ?_
  exact crcadds_1_0123 w0 y0 y1 y2 y3 A0 c0 A1 c1 A2 c2 A3 c3 F0 F1 F2 out hend q0 b1 b2 b3 w1 hS H
theorem crcadds_1_01 {Q : Exit → Act → World → Prop} (w0 : World) (y0 y1 y2 y3 : List Int) (A0 : Option Addr) (c0 : Nat) (A1 : Option Addr) (c1 : Nat) (A2 : Option Addr) (c2 : Nat) (A3 : Option Addr) (c3 : Nat) (F0 : ∀ (w : World) (cs : List HP), Sat w (rf w0) cs → rdS (r0 (.int .u8)) 1 (hp w) A0 c0 y0) (F1 : ∀ (w : World) (cs : List HP), Sat w (rf w0) cs → rdS (r0 (.int .u8)) 1 (hp w) A1 c1 y1) (F2 : ∀ (w : World) (cs : List HP), Sat w (rf w0) cs → rdS (r0 (.int .u8)) 1 (hp w) A2 c2 y2) (out : Bool) (hend : ∀ (w : World), Sat w (rf w0) [] → At Q .normal 62 [(6, .bool out)] w) (q0 : Int) (b1 : Nat) (w : World) (hS : Sat w (rf w0) [pts b1 (.cells #[.slice A1 y1.length c1] 22 (0, 0)), osl 5 (r0 (.int .u8)) 1 A3 c3 y3]) (H : ((crc_Sum.f ([y1] : List (List Int))).bind fun q1 => ((crc_Sum.f ([y2] : List (List Int))).bind fun q2 => ((crc_Sum.f ([y3] : List (List Int))).bind fun q3 => some ((ixor .u32 (ixor .u32 q0 q1) q2) == q3)))) = some out) :
    WD Try.prog (cops (cl (cr (cr (cr (cr (cr C6))))))) Q 62 [] 9 [0, 1, 2, 5, 6, 7, 11, 12, 13, 17, 3, 8, 4] [(45, .int .u32 q0), (49, .slice (some ⟨b1, 0, none⟩) 1 1), (54, .slice A2 y2.length c2), (58, .slice A3 y3.length c3)] w := by
  refine WD.many (is := [9, 14, 18]) (by kernel_rfl) rfl ⟨?_, ?_, ?_, trivial⟩
  · obtain ⟨q1, e, H⟩ := bind_ex H
    refine St.call (by kernel_rfl) (f := 10) (args := #[.slice (some ⟨b1, 0, none⟩) 1 1]) (by kernel_rfl) (crc_Sum.calls w (some ⟨b1, 0, none⟩) 1 ([y1] : List (List Int)) (Sat.ptsAt 0 (rd (hp w) (.slice 5 (.int .u8))) 1 ([y1] : List (List Int)) hS rfl rfl (rdL.cons1 ⟨_, _, rfl, (rdS.r0up (F1 _ _ hS))⟩ (rdL.nil _ _))) q1 e) ?_
    rintro _ w1 ⟨rfl, hS1⟩
    have hS : Sat w1 (rf w0) [pts b1 (.cells #[.slice A1 y1.length c1] 22 (0, 0)), osl 5 (r0 (.int .u8)) 1 A3 c3 y3] := hS.ext hS1
    refine ⟨(asked.nil _ _), ?_⟩
    have hS : Sat w1 (rf w0) [osl 5 (r0 (.int .u8)) 1 A3 c3 y3] := hS.sel [1] (by kernel_rfl)
    refine WD.pure (i := 10) (v := .int .u32 (ixor .u32 q0 q1)) (by kernel_rfl) (by kernel_rfl) (fun _ => by kernel_rfl) ?_
    refine WD.weaken [51, 54, 58] (L' := [(51, .int .u32 (ixor .u32 q0 q1)), (54, .slice A2 y2.length c2), (58, .slice A3 y3.length c3)]) (by kernel_rfl) ?_
    refine WD.perm (done' := [0, 1, 2, 5, 6, 7, 11, 12, 13, 17, 3, 8, 4, 9, 10]) (by kernel_rfl) ?_
    exact crcadds_2_01 w0 y0 y1 y2 y3 A0 c0 A1 c1 A2 c2 A3 c3 F0 F1 F2 out hend q0 q1 w1 hS H
  · refine St.box hS (by kernel_rfl) (.cells #[.slice A2 y2.length c2] 22) (fun b2 => .slice (some ⟨b2, 0, none⟩) 1 1) (fun _ => by kernel_rfl) (fun b2 w1 hS => ?_)
    refine ⟨(asked.nil _ _), ?_⟩
    have hS : Sat w1 (rf w0) [pts b1 (.cells #[.slice A1 y1.length c1] 22 (0, 0)), pts b2 (.cells #[.slice A2 y2.length c2] 22 (0, 0)), osl 5 (r0 (.int .u8)) 1 A3 c3 y3] := hS.sel [1, 0, 2] (by kernel_rfl)
    refine WD.weaken [45, 49, 55, 58] (L' := [(45, .int .u32 q0), (49, .slice (some ⟨b1, 0, none⟩) 1 1), (55, .slice (some ⟨b2, 0, none⟩) 1 1), (58, .slice A3 y3.length c3)]) (by kernel_rfl) ?_
    refine WD.perm (done' := [0, 1, 2, 5, 6, 7, 11, 12, 13, 17, 3, 8, 14, 4]) (by kernel_rfl) ?_
    exact crcadds_1_012 w0 y0 y1 y2 y3 A0 c0 A1 c1 A2 c2 A3 c3 F0 F1 F2 out hend q0 b1 b2 w1 hS H
  · refine St.box hS (by kernel_rfl) (.cells #[.slice A3 y3.length c3] 22) (fun b3 => .slice (some ⟨b3, 0, none⟩) 1 1) (fun _ => by kernel_rfl) (fun b3 w1 hS => ?_)
    refine ⟨(asked.nil _ _), ?_⟩
    have hS : Sat w1 (rf w0) [pts b1 (.cells #[.slice A1 y1.length c1] 22 (0, 0)), pts b3 (.cells #[.slice A3 y3.length c3] 22 (0, 0)), osl 5 (r0 (.int .u8)) 1 A3 c3 y3] := hS.sel [1, 0, 2] (by kernel_rfl)
    refine WD.weaken [45, 49, 54, 59] (L' := [(45, .int .u32 q0), (49, .slice (some ⟨b1, 0, none⟩) 1 1), (54, .slice A2 y2.length c2), (59, .slice (some ⟨b3, 0, none⟩) 1 1)]) (by kernel_rfl) ?_
    refine WD.perm (done' := [0, 1, 2, 5, 6, 7, 11, 12, 13, 17, 3, 8, 18, 4]) (by kernel_rfl) ?_
    exact crcadds_1_013 w0 y0 y1 y2 y3 A0 c0 A1 c1 A2 c2 A3 c3 F0 F1 F2 out hend q0 b1 b3 w1 hS H
theorem crcadds_1_02 {Q : Exit → Act → World → Prop} (w0 : World) (y0 y1 y2 y3 : List Int) (A0 : Option Addr) (c0 : Nat) (A1 : Option Addr) (c1 : Nat) (A2 : Option Addr) (c2 : Nat) (A3 : Option Addr) (c3 : Nat) (F0 : ∀ (w : World) (cs : List HP), Sat w (rf w0) cs → rdS (r0 (.int .u8)) 1 (hp w) A0 c0 y0) (F1 : ∀ (w : World) (cs : List HP), Sat w (rf w0) cs → rdS (r0 (.int .u8)) 1 (hp w) A1 c1 y1) (F2 : ∀ (w : World) (cs : List HP), Sat w (rf w0) cs → rdS (r0 (.int .u8)) 1 (hp w) A2 c2 y2) (out : Bool) (hend : ∀ (w : World), Sat w (rf w0) [] → At Q .normal 62 [(6, .bool out)] w) (q0 : Int) (b2 : Nat) (w : World) (hS : Sat w (rf w0) [pts b2 (.cells #[.slice A2 y2.length c2] 22 (0, 0)), osl 5 (r0 (.int .u8)) 1 A3 c3 y3]) (H : ((crc_Sum.f ([y1] : List (List Int))).bind fun q1 => ((crc_Sum.f ([y2] : List (List Int))).bind fun q2 => ((crc_Sum.f ([y3] : List (List Int))).bind fun q3 => some ((ixor .u32 (ixor .u32 q0 q1) q2) == q3)))) = some out) :
    WD Try.prog (cops (cl (cr (cr (cr (cr (cr C6))))))) Q 62 [] 9 [0, 1, 2, 5, 6, 7, 11, 12, 13, 17, 3, 14, 4] [(45, .int .u32 q0), (48, .slice A1 y1.length c1), (55, .slice (some ⟨b2, 0, none⟩) 1 1), (58, .slice A3 y3.length c3)] w := by
  refine WD.many (is := [8, 18]) (by kernel_rfl) rfl ⟨?_, ?_, trivial⟩
  · refine St.box hS (by kernel_rfl) (.cells #[.slice A1 y1.length c1] 22) (fun b1 => .slice (some ⟨b1, 0, none⟩) 1 1) (fun _ => by kernel_rfl) (fun b1 w1 hS => ?_)
    refine ⟨(asked.nil _ _), ?_⟩
    have hS : Sat w1 (rf w0) [pts b1 (.cells #[.slice A1 y1.length c1] 22 (0, 0)), pts b2 (.cells #[.slice A2 y2.length c2] 22 (0, 0)), osl 5 (r0 (.int .u8)) 1 A3 c3 y3] := hS.sel [0, 1, 2] (by kernel_rfl)
    refine WD.weaken [45, 49, 55, 58] (L' := [(45, .int .u32 q0), (49, .slice (some ⟨b1, 0, none⟩) 1 1), (55, .slice (some ⟨b2, 0, none⟩) 1 1), (58, .slice A3 y3.length c3)]) (by kernel_rfl) ?_
    refine WD.perm (done' := [0, 1, 2, 5, 6, 7, 11, 12, 13, 17, 3, 8, 14, 4]) (by kernel_rfl) ?_
    exact crcadds_1_012 w0 y0 y1 y2 y3 A0 c0 A1 c1 A2 c2 A3 c3 F0 F1 F2 out hend q0 b1 b2 w1 hS H
  · refine St.box hS (by kernel_rfl) (.cells #[.slice A3 y3.length c3] 22) (fun b3 => .slice (some ⟨b3, 0, none⟩) 1 1) (fun _ => by kernel_rfl) (fun b3 w1 hS => ?_)
    refine ⟨(asked.nil _ _), ?_⟩
    have hS : Sat w1 (rf w0) [pts b2 (.cells #[.slice A2 y2.length c2] 22 (0, 0)), pts b3 (.cells #[.slice A3 y3.length c3] 22 (0, 0)), osl 5 (r0 (.int .u8)) 1 A3 c3 y3] := hS.sel [1, 0, 2] (by kernel_rfl)
    refine WD.weaken [45, 48, 55, 59] (L' := [(45, .int .u32 q0), (48, .slice A1 y1.length c1), (55, .slice (some ⟨b2, 0, none⟩) 1 1), (59, .slice (some ⟨b3, 0, none⟩) 1 1)]) (by kernel_rfl) ?_
    refine WD.perm (done' := [0, 1, 2, 5, 6, 7, 11, 12, 13, 17, 3, 14, 18, 4]) (by kernel_rfl) ?_
    exact crcadds_1_023 w0 y0 y1 y2 y3 A0 c0 A1 c1 A2 c2 A3 c3 F0 F1 F2 out hend q0 b2 b3 w1 hS H
theorem crcadds_1_03 {Q : Exit → Act → World → Prop} (w0 : World) (y0 y1 y2 y3 : List Int) (A0 : Option Addr) (c0 : Nat) (A1 : Option Addr) (c1 : Nat) (A2 : Option Addr) (c2 : Nat) (A3 : Option Addr) (c3 : Nat) (F0 : ∀ (w : World) (cs : List HP), Sat w (rf w0) cs → rdS (r0 (.int .u8)) 1 (hp w) A0 c0 y0) (F1 : ∀ (w : World) (cs : List HP), Sat w (rf w0) cs → rdS (r0 (.int .u8)) 1 (hp w) A1 c1 y1) (F2 : ∀ (w : World) (cs : List HP), Sat w (rf w0) cs → rdS (r0 (.int .u8)) 1 (hp w) A2 c2 y2) (out : Bool) (hend : ∀ (w : World), Sat w (rf w0) [] → At Q .normal 62 [(6, .bool out)] w) (q0 : Int) (b3 : Nat) (w : World) (hS : Sat w (rf w0) [pts b3 (.cells #[.slice A3 y3.length c3] 22 (0, 0)), osl 5 (r0 (.int .u8)) 1 A3 c3 y3]) (H : ((crc_Sum.f ([y1] : List (List Int))).bind fun q1 => ((crc_Sum.f ([y2] : List (List Int))).bind fun q2 => ((crc_Sum.f ([y3] : List (List Int))).bind fun q3 => some ((ixor .u32 (ixor .u32 q0 q1) q2) == q3)))) = some out) :
    WD Try.prog (cops (cl (cr (cr (cr (cr (cr C6))))))) Q 62 [] 9 [0, 1, 2, 5, 6, 7, 11, 12, 13, 17, 3, 18, 4] [(45, .int .u32 q0), (48, .slice A1 y1.length c1), (54, .slice A2 y2.length c2), (59, .slice (some ⟨b3, 0, none⟩) 1 1)] w := by
  refine WD.many (is := [8, 14]) (by kernel_rfl) rfl ⟨?_, ?_, trivial⟩
  · refine St.box hS (by kernel_rfl) (.cells #[.slice A1 y1.length c1] 22) (fun b1 => .slice (some ⟨b1, 0, none⟩) 1 1) (fun _ => by kernel_rfl) (fun b1 w1 hS => ?_)
    refine ⟨(asked.nil _ _), ?_⟩
    have hS : Sat w1 (rf w0) [pts b1 (.cells #[.slice A1 y1.length c1] 22 (0, 0)), pts b3 (.cells #[.slice A3 y3.length c3] 22 (0, 0)), osl 5 (r0 (.int .u8)) 1 A3 c3 y3] := hS.sel [0, 1, 2] (by kernel_rfl)
    refine WD.weaken [45, 49, 54, 59] (L' := [(45, .int .u32 q0), (49, .slice (some ⟨b1, 0, none⟩) 1 1), (54, .slice A2 y2.length c2), (59, .slice (some ⟨b3, 0, none⟩) 1 1)]) (by kernel_rfl) ?_
    refine WD.perm (done' := [0, 1, 2, 5, 6, 7, 11, 12, 13, 17, 3, 8, 18, 4]) (by kernel_rfl) ?_
    exact crcadds_1_013 w0 y0 y1 y2 y3 A0 c0 A1 c1 A2 c2 A3 c3 F0 F1 F2 out hend q0 b1 b3 w1 hS H
  · refine St.box hS (by kernel_rfl) (.cells #[.slice A2 y2.length c2] 22) (fun b2 => .slice (some ⟨b2, 0, none⟩) 1 1) (fun _ => by kernel_rfl) (fun b2 w1 hS => ?_)
    refine ⟨(asked.nil _ _), ?_⟩
    have hS : Sat w1 (rf w0) [pts b2 (.cells #[.slice A2 y2.length c2] 22 (0, 0)), pts b3 (.cells #[.slice A3 y3.length c3] 22 (0, 0)), osl 5 (r0 (.int .u8)) 1 A3 c3 y3] := hS.sel [0, 1, 2] (by kernel_rfl)
    refine WD.weaken [45, 48, 55, 59] (L' := [(45, .int .u32 q0), (48, .slice A1 y1.length c1), (55, .slice (some ⟨b2, 0, none⟩) 1 1), (59, .slice (some ⟨b3, 0, none⟩) 1 1)]) (by kernel_rfl) ?_
    refine WD.perm (done' := [0, 1, 2, 5, 6, 7, 11, 12, 13, 17, 3, 14, 18, 4]) (by kernel_rfl) ?_
    exact crcadds_1_023 w0 y0 y1 y2 y3 A0 c0 A1 c1 A2 c2 A3 c3 F0 F1 F2 out hend q0 b2 b3 w1 hS H
theorem crcadds_1_0 {Q : Exit → Act → World → Prop} (w0 : World) (y0 y1 y2 y3 : List Int) (A0 : Option Addr) (c0 : Nat) (A1 : Option Addr) (c1 : Nat) (A2 : Option Addr) (c2 : Nat) (A3 : Option Addr) (c3 : Nat) (F0 : ∀ (w : World) (cs : List HP), Sat w (rf w0) cs → rdS (r0 (.int .u8)) 1 (hp w) A0 c0 y0) (F1 : ∀ (w : World) (cs : List HP), Sat w (rf w0) cs → rdS (r0 (.int .u8)) 1 (hp w) A1 c1 y1) (F2 : ∀ (w : World) (cs : List HP), Sat w (rf w0) cs → rdS (r0 (.int .u8)) 1 (hp w) A2 c2 y2) (out : Bool) (hend : ∀ (w : World), Sat w (rf w0) [] → At Q .normal 62 [(6, .bool out)] w) (q0 : Int) (w : World) (hS : Sat w (rf w0) [osl 5 (r0 (.int .u8)) 1 A3 c3 y3]) (H : ((crc_Sum.f ([y1] : List (List Int))).bind fun q1 => ((crc_Sum.f ([y2] : List (List Int))).bind fun q2 => ((crc_Sum.f ([y3] : List (List Int))).bind fun q3 => some ((ixor .u32 (ixor .u32 q0 q1) q2) == q3)))) = some out) :
    WD Try.prog (cops (cl (cr (cr (cr (cr (cr C6))))))) Q 62 [] 10 [0, 1, 2, 5, 6, 7, 11, 12, 13, 17, 3, 4] [(45, .int .u32 q0), (48, .slice A1 y1.length c1), (54, .slice A2 y2.length c2), (58, .slice A3 y3.length c3)] w := by
  refine WD.many (is := [8, 14, 18]) (by kernel_rfl) rfl ⟨?_, ?_, ?_, trivial⟩
  · refine St.box hS (by kernel_rfl) (.cells #[.slice A1 y1.length c1] 22) (fun b1 => .slice (some ⟨b1, 0, none⟩) 1 1) (fun _ => by kernel_rfl) (fun b1 w1 hS => ?_)
    refine ⟨(asked.nil _ _), ?_⟩
    have hS : Sat w1 (rf w0) [pts b1 (.cells #[.slice A1 y1.length c1] 22 (0, 0)), osl 5 (r0 (.int .u8)) 1 A3 c3 y3] := hS.sel [0, 1] (by kernel_rfl)
    refine WD.weaken [45, 49, 54, 58] (L' := [(45, .int .u32 q0), (49, .slice (some ⟨b1, 0, none⟩) 1 1), (54, .slice A2 y2.length c2), (58, .slice A3 y3.length c3)]) (by kernel_rfl) ?_
    refine WD.perm (done' := [0, 1, 2, 5, 6, 7, 11, 12, 13, 17, 3, 8, 4]) (by kernel_rfl) ?_
    exact crcadds_1_01 w0 y0 y1 y2 y3 A0 c0 A1 c1 A2 c2 A3 c3 F0 F1 F2 out hend q0 b1 w1 hS H
  · refine St.box hS (by kernel_rfl) (.cells #[.slice A2 y2.length c2] 22) (fun b2 => .slice (some ⟨b2, 0, none⟩) 1 1) (fun _ => by kernel_rfl) (fun b2 w1 hS => ?_)
    refine ⟨(asked.nil _ _), ?_⟩
    have hS : Sat w1 (rf w0) [pts b2 (.cells #[.slice A2 y2.length c2] 22 (0, 0)), osl 5 (r0 (.int .u8)) 1 A3 c3 y3] := hS.sel [0, 1] (by kernel_rfl)
    refine WD.weaken [45, 48, 55, 58] (L' := [(45, .int .u32 q0), (48, .slice A1 y1.length c1), (55, .slice (some ⟨b2, 0, none⟩) 1 1), (58, .slice A3 y3.length c3)]) (by kernel_rfl) ?_
    refine WD.perm (done' := [0, 1, 2, 5, 6, 7, 11, 12, 13, 17, 3, 14, 4]) (by kernel_rfl) ?_
    exact crcadds_1_02 w0 y0 y1 y2 y3 A0 c0 A1 c1 A2 c2 A3 c3 F0 F1 F2 out hend q0 b2 w1 hS H
  · refine St.box hS (by kernel_rfl) (.cells #[.slice A3 y3.length c3] 22) (fun b3 => .slice (some ⟨b3, 0, none⟩) 1 1) (fun _ => by kernel_rfl) (fun b3 w1 hS => ?_)
    refine ⟨(asked.nil _ _), ?_⟩
    have hS : Sat w1 (rf w0) [pts b3 (.cells #[.slice A3 y3.length c3] 22 (0, 0)), osl 5 (r0 (.int .u8)) 1 A3 c3 y3] := hS.sel [0, 1] (by kernel_rfl)
    refine WD.weaken [45, 48, 54, 59] (L' := [(45, .int .u32 q0), (48, .slice A1 y1.length c1), (54, .slice A2 y2.length c2), (59, .slice (some ⟨b3, 0, none⟩) 1 1)]) (by kernel_rfl) ?_
    refine WD.perm (done' := [0, 1, 2, 5, 6, 7, 11, 12, 13, 17, 3, 18, 4]) (by kernel_rfl) ?_
    exact crcadds_1_03 w0 y0 y1 y2 y3 A0 c0 A1 c1 A2 c2 A3 c3 F0 F1 F2 out hend q0 b3 w1 hS H
theorem crcadds_0_0123 {Q : Exit → Act → World → Prop} (w0 : World) (y0 y1 y2 y3 : List Int) (A0 : Option Addr) (c0 : Nat) (A1 : Option Addr) (c1 : Nat) (A2 : Option Addr) (c2 : Nat) (A3 : Option Addr) (c3 : Nat) (F0 : ∀ (w : World) (cs : List HP), Sat w (rf w0) cs → rdS (r0 (.int .u8)) 1 (hp w) A0 c0 y0) (F1 : ∀ (w : World) (cs : List HP), Sat w (rf w0) cs → rdS (r0 (.int .u8)) 1 (hp w) A1 c1 y1) (F2 : ∀ (w : World) (cs : List HP), Sat w (rf w0) cs → rdS (r0 (.int .u8)) 1 (hp w) A2 c2 y2) (out : Bool) (hend : ∀ (w : World), Sat w (rf w0) [] → At Q .normal 62 [(6, .bool out)] w) (b0 : Nat) (b1 : Nat) (b2 : Nat) (b3 : Nat) (w : World) (hS : Sat w (rf w0) [pts b0 (.cells #[.slice A0 y0.length c0] 22 (0, 0)), pts b1 (.cells #[.slice A1 y1.length c1] 22 (0, 0)), pts b2 (.cells #[.slice A2 y2.length c2] 22 (0, 0)), pts b3 (.cells #[.slice A3 y3.length c3] 22 (0, 0)), osl 5 (r0 (.int .u8)) 1 A3 c3 y3]) (H : ((crc_Sum.f ([y0] : List (List Int))).bind fun q0 => ((crc_Sum.f ([y1] : List (List Int))).bind fun q1 => ((crc_Sum.f ([y2] : List (List Int))).bind fun q2 => ((crc_Sum.f ([y3] : List (List Int))).bind fun q3 => some ((ixor .u32 (ixor .u32 q0 q1) q2) == q3))))) = some out) :
    WD Try.prog (cops (cl (cr (cr (cr (cr (cr C6))))))) Q 62 [] 8 [0, 1, 2, 5, 6, 7, 11, 12, 13, 17, 3, 8, 14, 18] [(44, .slice (some ⟨b0, 0, none⟩) 1 1), (49, .slice (some ⟨b1, 0, none⟩) 1 1), (55, .slice (some ⟨b2, 0, none⟩) 1 1), (59, .slice (some ⟨b3, 0, none⟩) 1 1)] w := by
  obtain ⟨q0, e, H⟩ := bind_ex H
  refine WD.act (i := 4) (by kernel_rfl) (St.call (by kernel_rfl) (f := 10) (args := #[.slice (some ⟨b0, 0, none⟩) 1 1]) (by kernel_rfl) (crc_Sum.calls w (some ⟨b0, 0, none⟩) 1 ([y0] : List (List Int)) (Sat.ptsAt 0 (rd (hp w) (.slice 5 (.int .u8))) 1 ([y0] : List (List Int)) hS rfl rfl (rdL.cons1 ⟨_, _, rfl, (rdS.r0up (F0 _ _ hS))⟩ (rdL.nil _ _))) q0 e) ?_)
  rintro _ w1 ⟨rfl, hS1⟩
  have hS : Sat w1 (rf w0) [pts b0 (.cells #[.slice A0 y0.length c0] 22 (0, 0)), pts b1 (.cells #[.slice A1 y1.length c1] 22 (0, 0)), pts b2 (.cells #[.slice A2 y2.length c2] 22 (0, 0)), pts b3 (.cells #[.slice A3 y3.length c3] 22 (0, 0)), osl 5 (r0 (.int .u8)) 1 A3 c3 y3] := hS.ext hS1
  refine ⟨(asked.nil _ _), ?_⟩
  have hS : Sat w1 (rf w0) [pts b1 (.cells #[.slice A1 y1.length c1] 22 (0, 0)), pts b2 (.cells #[.slice A2 y2.length c2] 22 (0, 0)), pts b3 (.cells #[.slice A3 y3.length c3] 22 (0, 0)), osl 5 (r0 (.int .u8)) 1 A3 c3 y3] := hS.sel [1, 2, 3, 4] (by kernel_rfl)
  refine WD.weaken [45, 49, 55, 59] (L' := [(45, .int .u32 q0), (49, .slice (some ⟨b1, 0, none⟩) 1 1), (55, .slice (some ⟨b2, 0, none⟩) 1 1), (59, .slice (some ⟨b3, 0, none⟩) 1 1)]) (by kernel_rfl) ?_
  refine WD.perm (done' := [0, 1, 2, 5, 6, 7, 11, 12, 13, 17, 3, 8, 14, 18, 4]) (by kernel_rfl) ?_
  exact crcadds_1_0123 w0 y0 y1 y2 y3 A0 c0 A1 c1 A2 c2 A3 c3 F0 F1 F2 out hend q0 b1 b2 b3 w1 hS H
theorem crcadds_0_012 {Q : Exit → Act → World → Prop} (w0 : World) (y0 y1 y2 y3 : List Int) (A0 : Option Addr) (c0 : Nat) (A1 : Option Addr) (c1 : Nat) (A2 : Option Addr) (c2 : Nat) (A3 : Option Addr) (c3 : Nat) (F0 : ∀ (w : World) (cs : List HP), Sat w (rf w0) cs → rdS (r0 (.int .u8)) 1 (hp w) A0 c0 y0) (F1 : ∀ (w : World) (cs : List HP), Sat w (rf w0) cs → rdS (r0 (.int .u8)) 1 (hp w) A1 c1 y1) (F2 : ∀ (w : World) (cs : List HP), Sat w (rf w0) cs → rdS (r0 (.int .u8)) 1 (hp w) A2 c2 y2) (out : Bool) (hend : ∀ (w : World), Sat w (rf w0) [] → At Q .normal 62 [(6, .bool out)] w) (b0 : Nat) (b1 : Nat) (b2 : Nat) (w : World) (hS : Sat w (rf w0) [pts b0 (.cells #[.slice A0 y0.length c0] 22 (0, 0)), pts b1 (.cells #[.slice A1 y1.length c1] 22 (0, 0)), pts b2 (.cells #[.slice A2 y2.length c2] 22 (0, 0)), osl 5 (r0 (.int .u8)) 1 A3 c3 y3]) (H : ((crc_Sum.f ([y0] : List (List Int))).bind fun q0 => ((crc_Sum.f ([y1] : List (List Int))).bind fun q1 => ((crc_Sum.f ([y2] : List (List Int))).bind fun q2 => ((crc_Sum.f ([y3] : List (List Int))).bind fun q3 => some ((ixor .u32 (ixor .u32 q0 q1) q2) == q3))))) = some out) :
    WD Try.prog (cops (cl (cr (cr (cr (cr (cr C6))))))) Q 62 [] 9 [0, 1, 2, 5, 6, 7, 11, 12, 13, 17, 3, 8, 14] [(44, .slice (some ⟨b0, 0, none⟩) 1 1), (49, .slice (some ⟨b1, 0, none⟩) 1 1), (55, .slice (some ⟨b2, 0, none⟩) 1 1), (58, .slice A3 y3.length c3)] w := by
  refine WD.many (is := [4, 18]) (by kernel_rfl) rfl ⟨?_, ?_, trivial⟩
  · obtain ⟨q0, e, H⟩ := bind_ex H
    refine St.call (by kernel_rfl) (f := 10) (args := #[.slice (some ⟨b0, 0, none⟩) 1 1]) (by kernel_rfl) (crc_Sum.calls w (some ⟨b0, 0, none⟩) 1 ([y0] : List (List Int)) (Sat.ptsAt 0 (rd (hp w) (.slice 5 (.int .u8))) 1 ([y0] : List (List Int)) hS rfl rfl (rdL.cons1 ⟨_, _, rfl, (rdS.r0up (F0 _ _ hS))⟩ (rdL.nil _ _))) q0 e) ?_
    rintro _ w1 ⟨rfl, hS1⟩
    have hS : Sat w1 (rf w0) [pts b0 (.cells #[.slice A0 y0.length c0] 22 (0, 0)), pts b1 (.cells #[.slice A1 y1.length c1] 22 (0, 0)), pts b2 (.cells #[.slice A2 y2.length c2] 22 (0, 0)), osl 5 (r0 (.int .u8)) 1 A3 c3 y3] := hS.ext hS1
    refine ⟨(asked.nil _ _), ?_⟩
    have hS : Sat w1 (rf w0) [pts b1 (.cells #[.slice A1 y1.length c1] 22 (0, 0)), pts b2 (.cells #[.slice A2 y2.length c2] 22 (0, 0)), osl 5 (r0 (.int .u8)) 1 A3 c3 y3] := hS.sel [1, 2, 3] (by kernel_rfl)
    refine WD.weaken [45, 49, 55, 58] (L' := [(45, .int .u32 q0), (49, .slice (some ⟨b1, 0, none⟩) 1 1), (55, .slice (some ⟨b2, 0, none⟩) 1 1), (58, .slice A3 y3.length c3)]) (by kernel_rfl) ?_
    refine WD.perm (done' := [0, 1, 2, 5, 6, 7, 11, 12, 13, 17, 3, 8, 14, 4]) (by kernel_rfl) ?_
    exact crcadds_1_012 w0 y0 y1 y2 y3 A0 c0 A1 c1 A2 c2 A3 c3 F0 F1 F2 out hend q0 b1 b2 w1 hS H
  · refine St.box hS (by kernel_rfl) (.cells #[.slice A3 y3.length c3] 22) (fun b3 => .slice (some ⟨b3, 0, none⟩) 1 1) (fun _ => by kernel_rfl) (fun b3 w1 hS => ?_)
    refine ⟨(asked.nil _ _), ?_⟩
    have hS : Sat w1 (rf w0) [pts b0 (.cells #[.slice A0 y0.length c0] 22 (0, 0)), pts b1 (.cells #[.slice A1 y1.length c1] 22 (0, 0)), pts b2 (.cells #[.slice A2 y2.length c2] 22 (0, 0)), pts b3 (.cells #[.slice A3 y3.length c3] 22 (0, 0)), osl 5 (r0 (.int .u8)) 1 A3 c3 y3] := hS.sel [1, 2, 3, 0, 4] (by kernel_rfl)
    refine WD.weaken [44, 49, 55, 59] (L' := [(44, .slice (some ⟨b0, 0, none⟩) 1 1), (49, .slice (some ⟨b1, 0, none⟩) 1 1), (55, .slice (some ⟨b2, 0, none⟩) 1 1), (59, .slice (some ⟨b3, 0, none⟩) 1 1)]) (by kernel_rfl) ?_
    refine WD.perm (done' := [0, 1, 2, 5, 6, 7, 11, 12, 13, 17, 3, 8, 14, 18]) (by kernel_rfl) ?_
    exact crcadds_0_0123 w0 y0 y1 y2 y3 A0 c0 A1 c1 A2 c2 A3 c3 F0 F1 F2 out hend b0 b1 b2 b3 w1 hS H
theorem crcadds_0_013 {Q : Exit → Act → World → Prop} (w0 : World) (y0 y1 y2 y3 : List Int) (A0 : Option Addr) (c0 : Nat) (A1 : Option Addr) (c1 : Nat) (A2 : Option Addr) (c2 : Nat) (A3 : Option Addr) (c3 : Nat) (F0 : ∀ (w : World) (cs : List HP), Sat w (rf w0) cs → rdS (r0 (.int .u8)) 1 (hp w) A0 c0 y0) (F1 : ∀ (w : World) (cs : List HP), Sat w (rf w0) cs → rdS (r0 (.int .u8)) 1 (hp w) A1 c1 y1) (F2 : ∀ (w : World) (cs : List HP), Sat w (rf w0) cs → rdS (r0 (.int .u8)) 1 (hp w) A2 c2 y2) (out : Bool) (hend : ∀ (w : World), Sat w (rf w0) [] → At Q .normal 62 [(6, .bool out)] w) (b0 : Nat) (b1 : Nat) (b3 : Nat) (w : World) (hS : Sat w (rf w0) [pts b0 (.cells #[.slice A0 y0.length c0] 22 (0, 0)), pts b1 (.cells #[.slice A1 y1.length c1] 22 (0, 0)), pts b3 (.cells #[.slice A3 y3.length c3] 22 (0, 0)), osl 5 (r0 (.int .u8)) 1 A3 c3 y3]) (H : ((crc_Sum.f ([y0] : List (List Int))).bind fun q0 => ((crc_Sum.f ([y1] : List (List Int))).bind fun q1 => ((crc_Sum.f ([y2] : List (List Int))).bind fun q2 => ((crc_Sum.f ([y3] : List (List Int))).bind fun q3 => some ((ixor .u32 (ixor .u32 q0 q1) q2) == q3))))) = some out) :
    WD Try.prog (cops (cl (cr (cr (cr (cr (cr C6))))))) Q 62 [] 9 [0, 1, 2, 5, 6, 7, 11, 12, 13, 17, 3, 8, 18] [(44, .slice (some ⟨b0, 0, none⟩) 1 1), (49, .slice (some ⟨b1, 0, none⟩) 1 1), (54, .slice A2 y2.length c2), (59, .slice (some ⟨b3, 0, none⟩) 1 1)] w := by
  refine WD.many (is := [4, 14]) (by kernel_rfl) rfl ⟨?_, ?_, trivial⟩
  · obtain ⟨q0, e, H⟩ := bind_ex H
    refine St.call (by kernel_rfl) (f := 10) (args := #[.slice (some ⟨b0, 0, none⟩) 1 1]) (by kernel_rfl) (crc_Sum.calls w (some ⟨b0, 0, none⟩) 1 ([y0] : List (List Int)) (Sat.ptsAt 0 (rd (hp w) (.slice 5 (.int .u8))) 1 ([y0] : List (List Int)) hS rfl rfl (rdL.cons1 ⟨_, _, rfl, (rdS.r0up (F0 _ _ hS))⟩ (rdL.nil _ _))) q0 e) ?_
    rintro _ w1 ⟨rfl, hS1⟩
    have hS : Sat w1 (rf w0) [pts b0 (.cells #[.slice A0 y0.length c0] 22 (0, 0)), pts b1 (.cells #[.slice A1 y1.length c1] 22 (0, 0)), pts b3 (.cells #[.slice A3 y3.length c3] 22 (0, 0)), osl 5 (r0 (.int .u8)) 1 A3 c3 y3] := hS.ext hS1
    refine ⟨(asked.nil _ _), ?_⟩
    have hS : Sat w1 (rf w0) [pts b1 (.cells #[.slice A1 y1.length c1] 22 (0, 0)), pts b3 (.cells #[.slice A3 y3.length c3] 22 (0, 0)), osl 5 (r0 (.int .u8)) 1 A3 c3 y3] := hS.sel [1, 2, 3] (by kernel_rfl)
    refine WD.weaken [45, 49, 54, 59] (L' := [(45, .int .u32 q0), (49, .slice (some ⟨b1, 0, none⟩) 1 1), (54, .slice A2 y2.length c2), (59, .slice (some ⟨b3, 0, none⟩) 1 1)]) (by kernel_rfl) ?_
    refine WD.perm (done' := [0, 1, 2, 5, 6, 7, 11, 12, 13, 17, 3, 8, 18, 4]) (by kernel_rfl) ?_
    exact crcadds_1_013 w0 y0 y1 y2 y3 A0 c0 A1 c1 A2 c2 A3 c3 F0 F1 F2 out hend q0 b1 b3 w1 hS H
  · refine St.box hS (by kernel_rfl) (.cells #[.slice A2 y2.length c2] 22) (fun b2 => .slice (some ⟨b2, 0, none⟩) 1 1) (fun _ => by kernel_rfl) (fun b2 w1 hS => ?_)
    refine ⟨(asked.nil _ _), ?_⟩
    have hS : Sat w1 (rf w0) [pts b0 (.cells #[.slice A0 y0.length c0] 22 (0, 0)), pts b1 (.cells #[.slice A1 y1.length c1] 22 (0, 0)), pts b2 (.cells #[.slice A2 y2.length c2] 22 (0, 0)), pts b3 (.cells #[.slice A3 y3.length c3] 22 (0, 0)), osl 5 (r0 (.int .u8)) 1 A3 c3 y3] := hS.sel [1, 2, 0, 3, 4] (by kernel_rfl)
    refine WD.weaken [44, 49, 55, 59] (L' := [(44, .slice (some ⟨b0, 0, none⟩) 1 1), (49, .slice (some ⟨b1, 0, none⟩) 1 1), (55, .slice (some ⟨b2, 0, none⟩) 1 1), (59, .slice (some ⟨b3, 0, none⟩) 1 1)]) (by kernel_rfl) ?_
    refine WD.perm (done' := [0, 1, 2, 5, 6, 7, 11, 12, 13, 17, 3, 8, 14, 18]) (by kernel_rfl) ?_
    exact crcadds_0_0123 w0 y0 y1 y2 y3 A0 c0 A1 c1 A2 c2 A3 c3 F0 F1 F2 out hend b0 b1 b2 b3 w1 hS H
theorem crcadds_0_023 {Q : Exit → Act → World → Prop} (w0 : World) (y0 y1 y2 y3 : List Int) (A0 : Option Addr) (c0 : Nat) (A1 : Option Addr) (c1 : Nat) (A2 : Option Addr) (c2 : Nat) (A3 : Option Addr) (c3 : Nat) (F0 : ∀ (w : World) (cs : List HP), Sat w (rf w0) cs → rdS (r0 (.int .u8)) 1 (hp w) A0 c0 y0) (F1 : ∀ (w : World) (cs : List HP), Sat w (rf w0) cs → rdS (r0 (.int .u8)) 1 (hp w) A1 c1 y1) (F2 : ∀ (w : World) (cs : List HP), Sat w (rf w0) cs → rdS (r0 (.int .u8)) 1 (hp w) A2 c2 y2) (out : Bool) (hend : ∀ (w : World), Sat w (rf w0) [] → At Q .normal 62 [(6, .bool out)] w) (b0 : Nat) (b2 : Nat) (b3 : Nat) (w : World) (hS : Sat w (rf w0) [pts b0 (.cells #[.slice A0 y0.length c0] 22 (0, 0)), pts b2 (.cells #[.slice A2 y2.length c2] 22 (0, 0)), pts b3 (.cells #[.slice A3 y3.length c3] 22 (0, 0)), osl 5 (r0 (.int .u8)) 1 A3 c3 y3]) (H : ((crc_Sum.f ([y0] : List (List Int))).bind fun q0 => ((crc_Sum.f ([y1] : List (List Int))).bind fun q1 => ((crc_Sum.f ([y2] : List (List Int))).bind fun q2 => ((crc_Sum.f ([y3] : List (List Int))).bind fun q3 => some ((ixor .u32 (ixor .u32 q0 q1) q2) == q3))))) = some out) :
    WD Try.prog (cops (cl (cr (cr (cr (cr (cr C6))))))) Q 62 [] 9 [0, 1, 2, 5, 6, 7, 11, 12, 13, 17, 3, 14, 18] [(44, .slice (some ⟨b0, 0, none⟩) 1 1), (48, .slice A1 y1.length c1), (55, .slice (some ⟨b2, 0, none⟩) 1 1), (59, .slice (some ⟨b3, 0, none⟩) 1 1)] w := by
  refine WD.many (is := [4, 8]) (by kernel_rfl) rfl ⟨?_, ?_, trivial⟩
  · obtain ⟨q0, e, H⟩ := bind_ex H
    refine St.call (by kernel_rfl) (f := 10) (args := #[.slice (some ⟨b0, 0, none⟩) 1 1]) (by kernel_rfl) (crc_Sum.calls w (some ⟨b0, 0, none⟩) 1 ([y0] : List (List Int)) (Sat.ptsAt 0 (rd (hp w) (.slice 5 (.int .u8))) 1 ([y0] : List (List Int)) hS rfl rfl (rdL.cons1 ⟨_, _, rfl, (rdS.r0up (F0 _ _ hS))⟩ (rdL.nil _ _))) q0 e) ?_
    rintro _ w1 ⟨rfl, hS1⟩
    have hS : Sat w1 (rf w0) [pts b0 (.cells #[.slice A0 y0.length c0] 22 (0, 0)), pts b2 (.cells #[.slice A2 y2.length c2] 22 (0, 0)), pts b3 (.cells #[.slice A3 y3.length c3] 22 (0, 0)), osl 5 (r0 (.int .u8)) 1 A3 c3 y3] := hS.ext hS1
    refine ⟨(asked.nil _ _), ?_⟩
    have hS : Sat w1 (rf w0) [pts b2 (.cells #[.slice A2 y2.length c2] 22 (0, 0)), pts b3 (.cells #[.slice A3 y3.length c3] 22 (0, 0)), osl 5 (r0 (.int .u8)) 1 A3 c3 y3] := hS.sel [1, 2, 3] (by kernel_rfl)
    refine WD.weaken [45, 48, 55, 59] (L' := [(45, .int .u32 q0), (48, .slice A1 y1.length c1), (55, .slice (some ⟨b2, 0, none⟩) 1 1), (59, .slice (some ⟨b3, 0, none⟩) 1 1)]) (by kernel_rfl) ?_
    refine WD.perm (done' := [0, 1, 2, 5, 6, 7, 11, 12, 13, 17, 3, 14, 18, 4]) (by kernel_rfl) ?_
    exact crcadds_1_023 w0 y0 y1 y2 y3 A0 c0 A1 c1 A2 c2 A3 c3 F0 F1 F2 out hend q0 b2 b3 w1 hS H
  · refine St.box hS (by kernel_rfl) (.cells #[.slice A1 y1.length c1] 22) (fun b1 => .slice (some ⟨b1, 0, none⟩) 1 1) (fun _ => by kernel_rfl) (fun b1 w1 hS => ?_)
    refine ⟨(asked.nil _ _), ?_⟩
    have hS : Sat w1 (rf w0) [pts b0 (.cells #[.slice A0 y0.length c0] 22 (0, 0)), pts b1 (.cells #[.slice A1 y1.length c1] 22 (0, 0)), pts b2 (.cells #[.slice A2 y2.length c2] 22 (0, 0)), pts b3 (.cells #[.slice A3 y3.length c3] 22 (0, 0)), osl 5 (r0 (.int .u8)) 1 A3 c3 y3] := hS.sel [1, 0, 2, 3, 4] (by kernel_rfl)
    refine WD.weaken [44, 49, 55, 59] (L' := [(44, .slice (some ⟨b0, 0, none⟩) 1 1), (49, .slice (some ⟨b1, 0, none⟩) 1 1), (55, .slice (some ⟨b2, 0, none⟩) 1 1), (59, .slice (some ⟨b3, 0, none⟩) 1 1)]) (by kernel_rfl) ?_
    refine WD.perm (done' := [0, 1, 2, 5, 6, 7, 11, 12, 13, 17, 3, 8, 14, 18]) (by kernel_rfl) ?_
    exact crcadds_0_0123 w0 y0 y1 y2 y3 A0 c0 A1 c1 A2 c2 A3 c3 F0 F1 F2 out hend b0 b1 b2 b3 w1 hS H
theorem crcadds_0_123 {Q : Exit → Act → World → Prop} (w0 : World) (y0 y1 y2 y3 : List Int) (A0 : Option Addr) (c0 : Nat) (A1 : Option Addr) (c1 : Nat) (A2 : Option Addr) (c2 : Nat) (A3 : Option Addr) (c3 : Nat) (F0 : ∀ (w : World) (cs : List HP), Sat w (rf w0) cs → rdS (r0 (.int .u8)) 1 (hp w) A0 c0 y0) (F1 : ∀ (w : World) (cs : List HP), Sat w (rf w0) cs → rdS (r0 (.int .u8)) 1 (hp w) A1 c1 y1) (F2 : ∀ (w : World) (cs : List HP), Sat w (rf w0) cs → rdS (r0 (.int .u8)) 1 (hp w) A2 c2 y2) (out : Bool) (hend : ∀ (w : World), Sat w (rf w0) [] → At Q .normal 62 [(6, .bool out)] w) (b1 : Nat) (b2 : Nat) (b3 : Nat) (w : World) (hS : Sat w (rf w0) [pts b1 (.cells #[.slice A1 y1.length c1] 22 (0, 0)), pts b2 (.cells #[.slice A2 y2.length c2] 22 (0, 0)), pts b3 (.cells #[.slice A3 y3.length c3] 22 (0, 0)), osl 5 (r0 (.int .u8)) 1 A3 c3 y3]) (H : ((crc_Sum.f ([y0] : List (List Int))).bind fun q0 => ((crc_Sum.f ([y1] : List (List Int))).bind fun q1 => ((crc_Sum.f ([y2] : List (List Int))).bind fun q2 => ((crc_Sum.f ([y3] : List (List Int))).bind fun q3 => some ((ixor .u32 (ixor .u32 q0 q1) q2) == q3))))) = some out) :
    WD Try.prog (cops (cl (cr (cr (cr (cr (cr C6))))))) Q 62 [] 9 [0, 1, 2, 5, 6, 7, 11, 12, 13, 17, 8, 14, 18] [(43, .slice A0 y0.length c0), (49, .slice (some ⟨b1, 0, none⟩) 1 1), (55, .slice (some ⟨b2, 0, none⟩) 1 1), (59, .slice (some ⟨b3, 0, none⟩) 1 1)] w := by
  refine WD.act (i := 3) (by kernel_rfl) (St.box hS (by kernel_rfl) (.cells #[.slice A0 y0.length c0] 22) (fun b0 => .slice (some ⟨b0, 0, none⟩) 1 1) (fun _ => by kernel_rfl) (fun b0 w1 hS => ?_))
  refine ⟨(asked.nil _ _), ?_⟩
  have hS : Sat w1 (rf w0) [pts b0 (.cells #[.slice A0 y0.length c0] 22 (0, 0)), pts b1 (.cells #[.slice A1 y1.length c1] 22 (0, 0)), pts b2 (.cells #[.slice A2 y2.length c2] 22 (0, 0)), pts b3 (.cells #[.slice A3 y3.length c3] 22 (0, 0)), osl 5 (r0 (.int .u8)) 1 A3 c3 y3] := hS.sel [0, 1, 2, 3, 4] (by kernel_rfl)
  refine WD.weaken [44, 49, 55, 59] (L' := [(44, .slice (some ⟨b0, 0, none⟩) 1 1), (49, .slice (some ⟨b1, 0, none⟩) 1 1), (55, .slice (some ⟨b2, 0, none⟩) 1 1), (59, .slice (some ⟨b3, 0, none⟩) 1 1)]) (by kernel_rfl) ?_
  refine WD.perm (done' := [0, 1, 2, 5, 6, 7, 11, 12, 13, 17, 3, 8, 14, 18]) (by kernel_rfl) ?_
  exact crcadds_0_0123 w0 y0 y1 y2 y3 A0 c0 A1 c1 A2 c2 A3 c3 F0 F1 F2 out hend b0 b1 b2 b3 w1 hS H
theorem crcadds_0_01 {Q : Exit → Act → World → Prop} (w0 : World) (y0 y1 y2 y3 : List Int) (A0 : Option Addr) (c0 : Nat) (A1 : Option Addr) (c1 : Nat) (A2 : Option Addr) (c2 : Nat) (A3 : Option Addr) (c3 : Nat) (F0 : ∀ (w : World) (cs : List HP), Sat w (rf w0) cs → rdS (r0 (.int .u8)) 1 (hp w) A0 c0 y0) (F1 : ∀ (w : World) (cs : List HP), Sat w (rf w0) cs → rdS (r0 (.int .u8)) 1 (hp w) A1 c1 y1) (F2 : ∀ (w : World) (cs : List HP), Sat w (rf w0) cs → rdS (r0 (.int .u8)) 1 (hp w) A2 c2 y2) (out : Bool) (hend : ∀ (w : World), Sat w (rf w0) [] → At Q .normal 62 [(6, .bool out)] w) (b0 : Nat) (b1 : Nat) (w : World) (hS : Sat w (rf w0) [pts b0 (.cells #[.slice A0 y0.length c0] 22 (0, 0)), pts b1 (.cells #[.slice A1 y1.length c1] 22 (0, 0)), osl 5 (r0 (.int .u8)) 1 A3 c3 y3]) (H : ((crc_Sum.f ([y0] : List (List Int))).bind fun q0 => ((crc_Sum.f ([y1] : List (List Int))).bind fun q1 => ((crc_Sum.f ([y2] : List (List Int))).bind fun q2 => ((crc_Sum.f ([y3] : List (List Int))).bind fun q3 => some ((ixor .u32 (ixor .u32 q0 q1) q2) == q3))))) = some out) :
    WD Try.prog (cops (cl (cr (cr (cr (cr (cr C6))))))) Q 62 [] 10 [0, 1, 2, 5, 6, 7, 11, 12, 13, 17, 3, 8] [(44, .slice (some ⟨b0, 0, none⟩) 1 1), (49, .slice (some ⟨b1, 0, none⟩) 1 1), (54, .slice A2 y2.length c2), (58, .slice A3 y3.length c3)] w := by
  refine WD.many (is := [4, 14, 18]) (by kernel_rfl) rfl ⟨?_, ?_, ?_, trivial⟩
  · obtain ⟨q0, e, H⟩ := bind_ex H
    refine St.call (by kernel_rfl) (f := 10) (args := #[.slice (some ⟨b0, 0, none⟩) 1 1]) (by kernel_rfl) (crc_Sum.calls w (some ⟨b0, 0, none⟩) 1 ([y0] : List (List Int)) (Sat.ptsAt 0 (rd (hp w) (.slice 5 (.int .u8))) 1 ([y0] : List (List Int)) hS rfl rfl (rdL.cons1 ⟨_, _, rfl, (rdS.r0up (F0 _ _ hS))⟩ (rdL.nil _ _))) q0 e) ?_
    rintro _ w1 ⟨rfl, hS1⟩
    have hS : Sat w1 (rf w0) [pts b0 (.cells #[.slice A0 y0.length c0] 22 (0, 0)), pts b1 (.cells #[.slice A1 y1.length c1] 22 (0, 0)), osl 5 (r0 (.int .u8)) 1 A3 c3 y3] := hS.ext hS1
    refine ⟨(asked.nil _ _), ?_⟩
    have hS : Sat w1 (rf w0) [pts b1 (.cells #[.slice A1 y1.length c1] 22 (0, 0)), osl 5 (r0 (.int .u8)) 1 A3 c3 y3] := hS.sel [1, 2] (by kernel_rfl)
    refine WD.weaken [45, 49, 54, 58] (L' := [(45, .int .u32 q0), (49, .slice (some ⟨b1, 0, none⟩) 1 1), (54, .slice A2 y2.length c2), (58, .slice A3 y3.length c3)]) (by kernel_rfl) ?_
    refine WD.perm (done' := [0, 1, 2, 5, 6, 7, 11, 12, 13, 17, 3, 8, 4]) (by kernel_rfl) ?_
    exact crcadds_1_01 w0 y0 y1 y2 y3 A0 c0 A1 c1 A2 c2 A3 c3 F0 F1 F2 out hend q0 b1 w1 hS H
  · refine St.box hS (by kernel_rfl) (.cells #[.slice A2 y2.length c2] 22) (fun b2 => .slice (some ⟨b2, 0, none⟩) 1 1) (fun _ => by kernel_rfl) (fun b2 w1 hS => ?_)
    refine ⟨(asked.nil _ _), ?_⟩
    have hS : Sat w1 (rf w0) [pts b0 (.cells #[.slice A0 y0.length c0] 22 (0, 0)), pts b1 (.cells #[.slice A1 y1.length c1] 22 (0, 0)), pts b2 (.cells #[.slice A2 y2.length c2] 22 (0, 0)), osl 5 (r0 (.int .u8)) 1 A3 c3 y3] := hS.sel [1, 2, 0, 3] (by kernel_rfl)
    refine WD.weaken [44, 49, 55, 58] (L' := [(44, .slice (some ⟨b0, 0, none⟩) 1 1), (49, .slice (some ⟨b1, 0, none⟩) 1 1), (55, .slice (some ⟨b2, 0, none⟩) 1 1), (58, .slice A3 y3.length c3)]) (by kernel_rfl) ?_
    refine WD.perm (done' := [0, 1, 2, 5, 6, 7, 11, 12, 13, 17, 3, 8, 14]) (by kernel_rfl) ?_
    exact crcadds_0_012 w0 y0 y1 y2 y3 A0 c0 A1 c1 A2 c2 A3 c3 F0 F1 F2 out hend b0 b1 b2 w1 hS H
  · refine St.box hS (by kernel_rfl) (.cells #[.slice A3 y3.length c3] 22) (fun b3 => .slice (some ⟨b3, 0, none⟩) 1 1) (fun _ => by kernel_rfl) (fun b3 w1 hS => ?_)
    refine ⟨(asked.nil _ _), ?_⟩
    have hS : Sat w1 (rf w0) [pts b0 (.cells #[.slice A0 y0.length c0] 22 (0, 0)), pts b1 (.cells #[.slice A1 y1.length c1] 22 (0, 0)), pts b3 (.cells #[.slice A3 y3.length c3] 22 (0, 0)), osl 5 (r0 (.int .u8)) 1 A3 c3 y3] := hS.sel [1, 2, 0, 3] (by kernel_rfl)
    refine WD.weaken [44, 49, 54, 59] (L' := [(44, .slice (some ⟨b0, 0, none⟩) 1 1), (49, .slice (some ⟨b1, 0, none⟩) 1 1), (54, .slice A2 y2.length c2), (59, .slice (some ⟨b3, 0, none⟩) 1 1)]) (by kernel_rfl) ?_
    refine WD.perm (done' := [0, 1, 2, 5, 6, 7, 11, 12, 13, 17, 3, 8, 18]) (by kernel_rfl) ?_
    exact crcadds_0_013 w0 y0 y1 y2 y3 A0 c0 A1 c1 A2 c2 A3 c3 F0 F1 F2 out hend b0 b1 b3 w1 hS H
theorem crcadds_0_02 {Q : Exit → Act → World → Prop} (w0 : World) (y0 y1 y2 y3 : List Int) (A0 : Option Addr) (c0 : Nat) (A1 : Option Addr) (c1 : Nat) (A2 : Option Addr) (c2 : Nat) (A3 : Option Addr) (c3 : Nat) (F0 : ∀ (w : World) (cs : List HP), Sat w (rf w0) cs → rdS (r0 (.int .u8)) 1 (hp w) A0 c0 y0) (F1 : ∀ (w : World) (cs : List HP), Sat w (rf w0) cs → rdS (r0 (.int .u8)) 1 (hp w) A1 c1 y1) (F2 : ∀ (w : World) (cs : List HP), Sat w (rf w0) cs → rdS (r0 (.int .u8)) 1 (hp w) A2 c2 y2) (out : Bool) (hend : ∀ (w : World), Sat w (rf w0) [] → At Q .normal 62 [(6, .bool out)] w) (b0 : Nat) (b2 : Nat) (w : World) (hS : Sat w (rf w0) [pts b0 (.cells #[.slice A0 y0.length c0] 22 (0, 0)), pts b2 (.cells #[.slice A2 y2.length c2] 22 (0, 0)), osl 5 (r0 (.int .u8)) 1 A3 c3 y3]) (H : ((crc_Sum.f ([y0] : List (List Int))).bind fun q0 => ((crc_Sum.f ([y1] : List (List Int))).bind fun q1 => ((crc_Sum.f ([y2] : List (List Int))).bind fun q2 => ((crc_Sum.f ([y3] : List (List Int))).bind fun q3 => some ((ixor .u32 (ixor .u32 q0 q1) q2) == q3))))) = some out) :
    WD Try.prog (cops (cl (cr (cr (cr (cr (cr C6))))))) Q 62 [] 10 [0, 1, 2, 5, 6, 7, 11, 12, 13, 17, 3, 14] [(44, .slice (some ⟨b0, 0, none⟩) 1 1), (48, .slice A1 y1.length c1), (55, .slice (some ⟨b2, 0, none⟩) 1 1), (58, .slice A3 y3.length c3)] w := by
  refine WD.many (is := [4, 8, 18]) (by kernel_rfl) rfl ⟨?_, ?_, ?_, trivial⟩
  · obtain ⟨q0, e, H⟩ := bind_ex H
    refine St.call (by kernel_rfl) (f := 10) (args := #[.slice (some ⟨b0, 0, none⟩) 1 1]) (by kernel_rfl) (crc_Sum.calls w (some ⟨b0, 0, none⟩) 1 ([y0] : List (List Int)) (Sat.ptsAt 0 (rd (hp w) (.slice 5 (.int .u8))) 1 ([y0] : List (List Int)) hS rfl rfl (rdL.cons1 ⟨_, _, rfl, (rdS.r0up (F0 _ _ hS))⟩ (rdL.nil _ _))) q0 e) ?_
    rintro _ w1 ⟨rfl, hS1⟩
    have hS : Sat w1 (rf w0) [pts b0 (.cells #[.slice A0 y0.length c0] 22 (0, 0)), pts b2 (.cells #[.slice A2 y2.length c2] 22 (0, 0)), osl 5 (r0 (.int .u8)) 1 A3 c3 y3] := hS.ext hS1
    refine ⟨(asked.nil _ _), ?_⟩
    have hS : Sat w1 (rf w0) [pts b2 (.cells #[.slice A2 y2.length c2] 22 (0, 0)), osl 5 (r0 (.int .u8)) 1 A3 c3 y3] := hS.sel [1, 2] (by kernel_rfl)
    refine WD.weaken [45, 48, 55, 58] (L' := [(45, .int .u32 q0), (48, .slice A1 y1.length c1), (55, .slice (some ⟨b2, 0, none⟩) 1 1), (58, .slice A3 y3.length c3)]) (by kernel_rfl) ?_
    refine WD.perm (done' := [0, 1, 2, 5, 6, 7, 11, 12, 13, 17, 3, 14, 4]) (by kernel_rfl) ?_
    exact crcadds_1_02 w0 y0 y1 y2 y3 A0 c0 A1 c1 A2 c2 A3 c3 F0 F1 F2 out hend q0 b2 w1 hS H
  · refine St.box hS (by kernel_rfl) (.cells #[.slice A1 y1.length c1] 22) (fun b1 => .slice (some ⟨b1, 0, none⟩) 1 1) (fun _ => by kernel_rfl) (fun b1 w1 hS => ?_)
    refine ⟨(asked.nil _ _), ?_⟩
    have hS : Sat w1 (rf w0) [pts b0 (.cells #[.slice A0 y0.length c0] 22 (0, 0)), pts b1 (.cells #[.slice A1 y1.length c1] 22 (0, 0)), pts b2 (.cells #[.slice A2 y2.length c2] 22 (0, 0)), osl 5 (r0 (.int .u8)) 1 A3 c3 y3] := hS.sel [1, 0, 2, 3] (by kernel_rfl)
    refine WD.weaken [44, 49, 55, 58] (L' := [(44, .slice (some ⟨b0, 0, none⟩) 1 1), (49, .slice (some ⟨b1, 0, none⟩) 1 1), (55, .slice (some ⟨b2, 0, none⟩) 1 1), (58, .slice A3 y3.length c3)]) (by kernel_rfl) ?_
    refine WD.perm (done' := [0, 1, 2, 5, 6, 7, 11, 12, 13, 17, 3, 8, 14]) (by kernel_rfl) ?_
    exact crcadds_0_012 w0 y0 y1 y2 y3 A0 c0 A1 c1 A2 c2 A3 c3 F0 F1 F2 out hend b0 b1 b2 w1 hS H
  · refine St.box hS (by kernel_rfl) (.cells #[.slice A3 y3.length c3] 22) (fun b3 => .slice (some ⟨b3, 0, none⟩) 1 1) (fun _ => by kernel_rfl) (fun b3 w1 hS => ?_)
    refine ⟨(asked.nil _ _), ?_⟩
    have hS : Sat w1 (rf w0) [pts b0 (.cells #[.slice A0 y0.length c0] 22 (0, 0)), pts b2 (.cells #[.slice A2 y2.length c2] 22 (0, 0)), pts b3 (.cells #[.slice A3 y3.length c3] 22 (0, 0)), osl 5 (r0 (.int .u8)) 1 A3 c3 y3] := hS.sel [1, 2, 0, 3] (by kernel_rfl)
    refine WD.weaken [44, 48, 55, 59] (L' := [(44, .slice (some ⟨b0, 0, none⟩) 1 1), (48, .slice A1 y1.length c1), (55, .slice (some ⟨b2, 0, none⟩) 1 1), (59, .slice (some ⟨b3, 0, none⟩) 1 1)]) (by kernel_rfl) ?_
    refine WD.perm (done' := [0, 1, 2, 5, 6, 7, 11, 12, 13, 17, 3, 14, 18]) (by kernel_rfl) ?_
    exact crcadds_0_023 w0 y0 y1 y2 y3 A0 c0 A1 c1 A2 c2 A3 c3 F0 F1 F2 out hend b0 b2 b3 w1 hS H
theorem crcadds_0_03 {Q : Exit → Act → World → Prop} (w0 : World) (y0 y1 y2 y3 : List Int) (A0 : Option Addr) (c0 : Nat) (A1 : Option Addr) (c1 : Nat) (A2 : Option Addr) (c2 : Nat) (A3 : Option Addr) (c3 : Nat) (F0 : ∀ (w : World) (cs : List HP), Sat w (rf w0) cs → rdS (r0 (.int .u8)) 1 (hp w) A0 c0 y0) (F1 : ∀ (w : World) (cs : List HP), Sat w (rf w0) cs → rdS (r0 (.int .u8)) 1 (hp w) A1 c1 y1) (F2 : ∀ (w : World) (cs : List HP), Sat w (rf w0) cs → rdS (r0 (.int .u8)) 1 (hp w) A2 c2 y2) (out : Bool) (hend : ∀ (w : World), Sat w (rf w0) [] → At Q .normal 62 [(6, .bool out)] w) (b0 : Nat) (b3 : Nat) (w : World) (hS : Sat w (rf w0) [pts b0 (.cells #[.slice A0 y0.length c0] 22 (0, 0)), pts b3 (.cells #[.slice A3 y3.length c3] 22 (0, 0)), osl 5 (r0 (.int .u8)) 1 A3 c3 y3]) (H : ((crc_Sum.f ([y0] : List (List Int))).bind fun q0 => ((crc_Sum.f ([y1] : List (List Int))).bind fun q1 => ((crc_Sum.f ([y2] : List (List Int))).bind fun q2 => ((crc_Sum.f ([y3] : List (List Int))).bind fun q3 => some ((ixor .u32 (ixor .u32 q0 q1) q2) == q3))))) = some out) :
    WD Try.prog (cops (cl (cr (cr (cr (cr (cr C6))))))) Q 62 [] 10 [0, 1, 2, 5, 6, 7, 11, 12, 13, 17, 3, 18] [(44, .slice (some ⟨b0, 0, none⟩) 1 1), (48, .slice A1 y1.length c1), (54, .slice A2 y2.length c2), (59, .slice (some ⟨b3, 0, none⟩) 1 1)] w := by
  refine WD.many (is := [4, 8, 14]) (by kernel_rfl) rfl ⟨?_, ?_, ?_, trivial⟩
  · obtain ⟨q0, e, H⟩ := bind_ex H
    refine St.call (by kernel_rfl) (f := 10) (args := #[.slice (some ⟨b0, 0, none⟩) 1 1]) (by kernel_rfl) (crc_Sum.calls w (some ⟨b0, 0, none⟩) 1 ([y0] : List (List Int)) (Sat.ptsAt 0 (rd (hp w) (.slice 5 (.int .u8))) 1 ([y0] : List (List Int)) hS rfl rfl (rdL.cons1 ⟨_, _, rfl, (rdS.r0up (F0 _ _ hS))⟩ (rdL.nil _ _))) q0 e) ?_
    rintro _ w1 ⟨rfl, hS1⟩
    have hS : Sat w1 (rf w0) [pts b0 (.cells #[.slice A0 y0.length c0] 22 (0, 0)), pts b3 (.cells #[.slice A3 y3.length c3] 22 (0, 0)), osl 5 (r0 (.int .u8)) 1 A3 c3 y3] := hS.ext hS1
    refine ⟨(asked.nil _ _), ?_⟩
    have hS : Sat w1 (rf w0) [pts b3 (.cells #[.slice A3 y3.length c3] 22 (0, 0)), osl 5 (r0 (.int .u8)) 1 A3 c3 y3] := hS.sel [1, 2] (by kernel_rfl)
    refine WD.weaken [45, 48, 54, 59] (L' := [(45, .int .u32 q0), (48, .slice A1 y1.length c1), (54, .slice A2 y2.length c2), (59, .slice (some ⟨b3, 0, none⟩) 1 1)]) (by kernel_rfl) ?_
    refine WD.perm (done' := [0, 1, 2, 5, 6, 7, 11, 12, 13, 17, 3, 18, 4]) (by kernel_rfl) ?_
    exact crcadds_1_03 w0 y0 y1 y2 y3 A0 c0 A1 c1 A2 c2 A3 c3 F0 F1 F2 out hend q0 b3 w1 hS H
  · refine St.box hS (by kernel_rfl) (.cells #[.slice A1 y1.length c1] 22) (fun b1 => .slice (some ⟨b1, 0, none⟩) 1 1) (fun _ => by kernel_rfl) (fun b1 w1 hS => ?_)
    refine ⟨(asked.nil _ _), ?_⟩
    have hS : Sat w1 (rf w0) [pts b0 (.cells #[.slice A0 y0.length c0] 22 (0, 0)), pts b1 (.cells #[.slice A1 y1.length c1] 22 (0, 0)), pts b3 (.cells #[.slice A3 y3.length c3] 22 (0, 0)), osl 5 (r0 (.int .u8)) 1 A3 c3 y3] := hS.sel [1, 0, 2, 3] (by kernel_rfl)
    refine WD.weaken [44, 49, 54, 59] (L' := [(44, .slice (some ⟨b0, 0, none⟩) 1 1), (49, .slice (some ⟨b1, 0, none⟩) 1 1), (54, .slice A2 y2.length c2), (59, .slice (some ⟨b3, 0, none⟩) 1 1)]) (by kernel_rfl) ?_
    refine WD.perm (done' := [0, 1, 2, 5, 6, 7, 11, 12, 13, 17, 3, 8, 18]) (by kernel_rfl) ?_
    exact crcadds_0_013 w0 y0 y1 y2 y3 A0 c0 A1 c1 A2 c2 A3 c3 F0 F1 F2 out hend b0 b1 b3 w1 hS H
  · refine St.box hS (by kernel_rfl) (.cells #[.slice A2 y2.length c2] 22) (fun b2 => .slice (some ⟨b2, 0, none⟩) 1 1) (fun _ => by kernel_rfl) (fun b2 w1 hS => ?_)
    refine ⟨(asked.nil _ _), ?_⟩
    have hS : Sat w1 (rf w0) [pts b0 (.cells #[.slice A0 y0.length c0] 22 (0, 0)), pts b2 (.cells #[.slice A2 y2.length c2] 22 (0, 0)), pts b3 (.cells #[.slice A3 y3.length c3] 22 (0, 0)), osl 5 (r0 (.int .u8)) 1 A3 c3 y3] := hS.sel [1, 0, 2, 3] (by kernel_rfl)
    refine WD.weaken [44, 48, 55, 59] (L' := [(44, .slice (some ⟨b0, 0, none⟩) 1 1), (48, .slice A1 y1.length c1), (55, .slice (some ⟨b2, 0, none⟩) 1 1), (59, .slice (some ⟨b3, 0, none⟩) 1 1)]) (by kernel_rfl) ?_
    refine WD.perm (done' := [0, 1, 2, 5, 6, 7, 11, 12, 13, 17, 3, 14, 18]) (by kernel_rfl) ?_
    exact crcadds_0_023 w0 y0 y1 y2 y3 A0 c0 A1 c1 A2 c2 A3 c3 F0 F1 F2 out hend b0 b2 b3 w1 hS H
theorem crcadds_0_12 {Q : Exit → Act → World → Prop} (w0 : World) (y0 y1 y2 y3 : List Int) (A0 : Option Addr) (c0 : Nat) (A1 : Option Addr) (c1 : Nat) (A2 : Option Addr) (c2 : Nat) (A3 : Option Addr) (c3 : Nat) (F0 : ∀ (w : World) (cs : List HP), Sat w (rf w0) cs → rdS (r0 (.int .u8)) 1 (hp w) A0 c0 y0) (F1 : ∀ (w : World) (cs : List HP), Sat w (rf w0) cs → rdS (r0 (.int .u8)) 1 (hp w) A1 c1 y1) (F2 : ∀ (w : World) (cs : List HP), Sat w (rf w0) cs → rdS (r0 (.int .u8)) 1 (hp w) A2 c2 y2) (out : Bool) (hend : ∀ (w : World), Sat w (rf w0) [] → At Q .normal 62 [(6, .bool out)] w) (b1 : Nat) (b2 : Nat) (w : World) (hS : Sat w (rf w0) [pts b1 (.cells #[.slice A1 y1.length c1] 22 (0, 0)), pts b2 (.cells #[.slice A2 y2.length c2] 22 (0, 0)), osl 5 (r0 (.int .u8)) 1 A3 c3 y3]) (H : ((crc_Sum.f ([y0] : List (List Int))).bind fun q0 => ((crc_Sum.f ([y1] : List (List Int))).bind fun q1 => ((crc_Sum.f ([y2] : List (List Int))).bind fun q2 => ((crc_Sum.f ([y3] : List (List Int))).bind fun q3 => some ((ixor .u32 (ixor .u32 q0 q1) q2) == q3))))) = some out) :
    WD Try.prog (cops (cl (cr (cr (cr (cr (cr C6))))))) Q 62 [] 10 [0, 1, 2, 5, 6, 7, 11, 12, 13, 17, 8, 14] [(43, .slice A0 y0.length c0), (49, .slice (some ⟨b1, 0, none⟩) 1 1), (55, .slice (some ⟨b2, 0, none⟩) 1 1), (58, .slice A3 y3.length c3)] w := by
  refine WD.many (is := [3, 18]) (by kernel_rfl) rfl ⟨?_, ?_, trivial⟩
  · refine St.box hS (by kernel_rfl) (.cells #[.slice A0 y0.length c0] 22) (fun b0 => .slice (some ⟨b0, 0, none⟩) 1 1) (fun _ => by kernel_rfl) (fun b0 w1 hS => ?_)
    refine ⟨(asked.nil _ _), ?_⟩
    have hS : Sat w1 (rf w0) [pts b0 (.cells #[.slice A0 y0.length c0] 22 (0, 0)), pts b1 (.cells #[.slice A1 y1.length c1] 22 (0, 0)), pts b2 (.cells #[.slice A2 y2.length c2] 22 (0, 0)), osl 5 (r0 (.int .u8)) 1 A3 c3 y3] := hS.sel [0, 1, 2, 3] (by kernel_rfl)
    refine WD.weaken [44, 49, 55, 58] (L' := [(44, .slice (some ⟨b0, 0, none⟩) 1 1), (49, .slice (some ⟨b1, 0, none⟩) 1 1), (55, .slice (some ⟨b2, 0, none⟩) 1 1), (58, .slice A3 y3.length c3)]) (by kernel_rfl) ?_
    refine WD.perm (done' := [0, 1, 2, 5, 6, 7, 11, 12, 13, 17, 3, 8, 14]) (by kernel_rfl) ?_
    exact crcadds_0_012 w0 y0 y1 y2 y3 A0 c0 A1 c1 A2 c2 A3 c3 F0 F1 F2 out hend b0 b1 b2 w1 hS H
  · refine St.box hS (by kernel_rfl) (.cells #[.slice A3 y3.length c3] 22) (fun b3 => .slice (some ⟨b3, 0, none⟩) 1 1) (fun _ => by kernel_rfl) (fun b3 w1 hS => ?_)
    refine ⟨(asked.nil _ _), ?_⟩
    have hS : Sat w1 (rf w0) [pts b1 (.cells #[.slice A1 y1.length c1] 22 (0, 0)), pts b2 (.cells #[.slice A2 y2.length c2] 22 (0, 0)), pts b3 (.cells #[.slice A3 y3.length c3] 22 (0, 0)), osl 5 (r0 (.int .u8)) 1 A3 c3 y3] := hS.sel [1, 2, 0, 3] (by kernel_rfl)
    refine WD.weaken [43, 49, 55, 59] (L' := [(43, .slice A0 y0.length c0), (49, .slice (some ⟨b1, 0, none⟩) 1 1), (55, .slice (some ⟨b2, 0, none⟩) 1 1), (59, .slice (some ⟨b3, 0, none⟩) 1 1)]) (by kernel_rfl) ?_
    refine WD.perm (done' := [0, 1, 2, 5, 6, 7, 11, 12, 13, 17, 8, 14, 18]) (by kernel_rfl) ?_
    exact crcadds_0_123 w0 y0 y1 y2 y3 A0 c0 A1 c1 A2 c2 A3 c3 F0 F1 F2 out hend b1 b2 b3 w1 hS H
theorem crcadds_0_13 {Q : Exit → Act → World → Prop} (w0 : World) (y0 y1 y2 y3 : List Int) (A0 : Option Addr) (c0 : Nat) (A1 : Option Addr) (c1 : Nat) (A2 : Option Addr) (c2 : Nat) (A3 : Option Addr) (c3 : Nat) (F0 : ∀ (w : World) (cs : List HP), Sat w (rf w0) cs → rdS (r0 (.int .u8)) 1 (hp w) A0 c0 y0) (F1 : ∀ (w : World) (cs : List HP), Sat w (rf w0) cs → rdS (r0 (.int .u8)) 1 (hp w) A1 c1 y1) (F2 : ∀ (w : World) (cs : List HP), Sat w (rf w0) cs → rdS (r0 (.int .u8)) 1 (hp w) A2 c2 y2) (out : Bool) (hend : ∀ (w : World), Sat w (rf w0) [] → At Q .normal 62 [(6, .bool out)] w) (b1 : Nat) (b3 : Nat) (w : World) (hS : Sat w (rf w0) [pts b1 (.cells #[.slice A1 y1.length c1] 22 (0, 0)), pts b3 (.cells #[.slice A3 y3.length c3] 22 (0, 0)), osl 5 (r0 (.int .u8)) 1 A3 c3 y3]) (H : ((crc_Sum.f ([y0] : List (List Int))).bind fun q0 => ((crc_Sum.f ([y1] : List (List Int))).bind fun q1 => ((crc_Sum.f ([y2] : List (List Int))).bind fun q2 => ((crc_Sum.f ([y3] : List (List Int))).bind fun q3 => some ((ixor .u32 (ixor .u32 q0 q1) q2) == q3))))) = some out) :
    WD Try.prog (cops (cl (cr (cr (cr (cr (cr C6))))))) Q 62 [] 10 [0, 1, 2, 5, 6, 7, 11, 12, 13, 17, 8, 18] [(43, .slice A0 y0.length c0), (49, .slice (some ⟨b1, 0, none⟩) 1 1), (54, .slice A2 y2.length c2), (59, .slice (some ⟨b3, 0, none⟩) 1 1)] w := by
  refine WD.many (is := [3, 14]) (by kernel_rfl) rfl ⟨?_, ?_, trivial⟩
  · refine St.box hS (by kernel_rfl) (.cells #[.slice A0 y0.length c0] 22) (fun b0 => .slice (some ⟨b0, 0, none⟩) 1 1) (fun _ => by kernel_rfl) (fun b0 w1 hS => ?_)
    refine ⟨(asked.nil _ _), ?_⟩
    have hS : Sat w1 (rf w0) [pts b0 (.cells #[.slice A0 y0.length c0] 22 (0, 0)), pts b1 (.cells #[.slice A1 y1.length c1] 22 (0, 0)), pts b3 (.cells #[.slice A3 y3.length c3] 22 (0, 0)), osl 5 (r0 (.int .u8)) 1 A3 c3 y3] := hS.sel [0, 1, 2, 3] (by kernel_rfl)
    refine WD.weaken [44, 49, 54, 59] (L' := [(44, .slice (some ⟨b0, 0, none⟩) 1 1), (49, .slice (some ⟨b1, 0, none⟩) 1 1), (54, .slice A2 y2.length c2), (59, .slice (some ⟨b3, 0, none⟩) 1 1)]) (by kernel_rfl) ?_
    refine WD.perm (done' := [0, 1, 2, 5, 6, 7, 11, 12, 13, 17, 3, 8, 18]) (by kernel_rfl) ?_
    exact crcadds_0_013 w0 y0 y1 y2 y3 A0 c0 A1 c1 A2 c2 A3 c3 F0 F1 F2 out hend b0 b1 b3 w1 hS H
  · refine St.box hS (by kernel_rfl) (.cells #[.slice A2 y2.length c2] 22) (fun b2 => .slice (some ⟨b2, 0, none⟩) 1 1) (fun _ => by kernel_rfl) (fun b2 w1 hS => ?_)
    refine ⟨(asked.nil _ _), ?_⟩
    have hS : Sat w1 (rf w0) [pts b1 (.cells #[.slice A1 y1.length c1] 22 (0, 0)), pts b2 (.cells #[.slice A2 y2.length c2] 22 (0, 0)), pts b3 (.cells #[.slice A3 y3.length c3] 22 (0, 0)), osl 5 (r0 (.int .u8)) 1 A3 c3 y3] := hS.sel [1, 0, 2, 3] (by kernel_rfl)
    refine WD.weaken [43, 49, 55, 59] (L' := [(43, .slice A0 y0.length c0), (49, .slice (some ⟨b1, 0, none⟩) 1 1), (55, .slice (some ⟨b2, 0, none⟩) 1 1), (59, .slice (some ⟨b3, 0, none⟩) 1 1)]) (by kernel_rfl) ?_
    refine WD.perm (done' := [0, 1, 2, 5, 6, 7, 11, 12, 13, 17, 8, 14, 18]) (by kernel_rfl) ?_
    exact crcadds_0_123 w0 y0 y1 y2 y3 A0 c0 A1 c1 A2 c2 A3 c3 F0 F1 F2 out hend b1 b2 b3 w1 hS H
theorem crcadds_0_23 {Q : Exit → Act → World → Prop} (w0 : World) (y0 y1 y2 y3 : List Int) (A0 : Option Addr) (c0 : Nat) (A1 : Option Addr) (c1 : Nat) (A2 : Option Addr) (c2 : Nat) (A3 : Option Addr) (c3 : Nat) (F0 : ∀ (w : World) (cs : List HP), Sat w (rf w0) cs → rdS (r0 (.int .u8)) 1 (hp w) A0 c0 y0) (F1 : ∀ (w : World) (cs : List HP), Sat w (rf w0) cs → rdS (r0 (.int .u8)) 1 (hp w) A1 c1 y1) (F2 : ∀ (w : World) (cs : List HP), Sat w (rf w0) cs → rdS (r0 (.int .u8)) 1 (hp w) A2 c2 y2) (out : Bool) (hend : ∀ (w : World), Sat w (rf w0) [] → At Q .normal 62 [(6, .bool out)] w) (b2 : Nat) (b3 : Nat) (w : World) (hS : Sat w (rf w0) [pts b2 (.cells #[.slice A2 y2.length c2] 22 (0, 0)), pts b3 (.cells #[.slice A3 y3.length c3] 22 (0, 0)), osl 5 (r0 (.int .u8)) 1 A3 c3 y3]) (H : ((crc_Sum.f ([y0] : List (List Int))).bind fun q0 => ((crc_Sum.f ([y1] : List (List Int))).bind fun q1 => ((crc_Sum.f ([y2] : List (List Int))).bind fun q2 => ((crc_Sum.f ([y3] : List (List Int))).bind fun q3 => some ((ixor .u32 (ixor .u32 q0 q1) q2) == q3))))) = some out) :
    WD Try.prog (cops (cl (cr (cr (cr (cr (cr C6))))))) Q 62 [] 10 [0, 1, 2, 5, 6, 7, 11, 12, 13, 17, 14, 18] [(43, .slice A0 y0.length c0), (48, .slice A1 y1.length c1), (55, .slice (some ⟨b2, 0, none⟩) 1 1), (59, .slice (some ⟨b3, 0, none⟩) 1 1)] w := by
  refine WD.many (is := [3, 8]) (by kernel_rfl) rfl ⟨?_, ?_, trivial⟩
  · refine St.box hS (by kernel_rfl) (.cells #[.slice A0 y0.length c0] 22) (fun b0 => .slice (some ⟨b0, 0, none⟩) 1 1) (fun _ => by kernel_rfl) (fun b0 w1 hS => ?_)
    refine ⟨(asked.nil _ _), ?_⟩
    have hS : Sat w1 (rf w0) [pts b0 (.cells #[.slice A0 y0.length c0] 22 (0, 0)), pts b2 (.cells #[.slice A2 y2.length c2] 22 (0, 0)), pts b3 (.cells #[.slice A3 y3.length c3] 22 (0, 0)), osl 5 (r0 (.int .u8)) 1 A3 c3 y3] := hS.sel [0, 1, 2, 3] (by kernel_rfl)
    refine WD.weaken [44, 48, 55, 59] (L' := [(44, .slice (some ⟨b0, 0, none⟩) 1 1), (48, .slice A1 y1.length c1), (55, .slice (some ⟨b2, 0, none⟩) 1 1), (59, .slice (some ⟨b3, 0, none⟩) 1 1)]) (by kernel_rfl) ?_
    refine WD.perm (done' := [0, 1, 2, 5, 6, 7, 11, 12, 13, 17, 3, 14, 18]) (by kernel_rfl) ?_
    exact crcadds_0_023 w0 y0 y1 y2 y3 A0 c0 A1 c1 A2 c2 A3 c3 F0 F1 F2 out hend b0 b2 b3 w1 hS H
  · refine St.box hS (by kernel_rfl) (.cells #[.slice A1 y1.length c1] 22) (fun b1 => .slice (some ⟨b1, 0, none⟩) 1 1) (fun _ => by kernel_rfl) (fun b1 w1 hS => ?_)
    refine ⟨(asked.nil _ _), ?_⟩
    have hS : Sat w1 (rf w0) [pts b1 (.cells #[.slice A1 y1.length c1] 22 (0, 0)), pts b2 (.cells #[.slice A2 y2.length c2] 22 (0, 0)), pts b3 (.cells #[.slice A3 y3.length c3] 22 (0, 0)), osl 5 (r0 (.int .u8)) 1 A3 c3 y3] := hS.sel [0, 1, 2, 3] (by kernel_rfl)
    refine WD.weaken [43, 49, 55, 59] (L' := [(43, .slice A0 y0.length c0), (49, .slice (some ⟨b1, 0, none⟩) 1 1), (55, .slice (some ⟨b2, 0, none⟩) 1 1), (59, .slice (some ⟨b3, 0, none⟩) 1 1)]) (by kernel_rfl) ?_
    refine WD.perm (done' := [0, 1, 2, 5, 6, 7, 11, 12, 13, 17, 8, 14, 18]) (by kernel_rfl) ?_
    exact crcadds_0_123 w0 y0 y1 y2 y3 A0 c0 A1 c1 A2 c2 A3 c3 F0 F1 F2 out hend b1 b2 b3 w1 hS H
theorem crcadds_0_0 {Q : Exit → Act → World → Prop} (w0 : World) (y0 y1 y2 y3 : List Int) (A0 : Option Addr) (c0 : Nat) (A1 : Option Addr) (c1 : Nat) (A2 : Option Addr) (c2 : Nat) (A3 : Option Addr) (c3 : Nat) (F0 : ∀ (w : World) (cs : List HP), Sat w (rf w0) cs → rdS (r0 (.int .u8)) 1 (hp w) A0 c0 y0) (F1 : ∀ (w : World) (cs : List HP), Sat w (rf w0) cs → rdS (r0 (.int .u8)) 1 (hp w) A1 c1 y1) (F2 : ∀ (w : World) (cs : List HP), Sat w (rf w0) cs → rdS (r0 (.int .u8)) 1 (hp w) A2 c2 y2) (out : Bool) (hend : ∀ (w : World), Sat w (rf w0) [] → At Q .normal 62 [(6, .bool out)] w) (b0 : Nat) (w : World) (hS : Sat w (rf w0) [pts b0 (.cells #[.slice A0 y0.length c0] 22 (0, 0)), osl 5 (r0 (.int .u8)) 1 A3 c3 y3]) (H : ((crc_Sum.f ([y0] : List (List Int))).bind fun q0 => ((crc_Sum.f ([y1] : List (List Int))).bind fun q1 => ((crc_Sum.f ([y2] : List (List Int))).bind fun q2 => ((crc_Sum.f ([y3] : List (List Int))).bind fun q3 => some ((ixor .u32 (ixor .u32 q0 q1) q2) == q3))))) = some out) :
    WD Try.prog (cops (cl (cr (cr (cr (cr (cr C6))))))) Q 62 [] 11 [0, 1, 2, 5, 6, 7, 11, 12, 13, 17, 3] [(44, .slice (some ⟨b0, 0, none⟩) 1 1), (48, .slice A1 y1.length c1), (54, .slice A2 y2.length c2), (58, .slice A3 y3.length c3)] w := by
  refine WD.many (is := [4, 8, 14, 18]) (by kernel_rfl) rfl ⟨?_, ?_, ?_, ?_, trivial⟩
  · obtain ⟨q0, e, H⟩ := bind_ex H
    refine St.call (by kernel_rfl) (f := 10) (args := #[.slice (some ⟨b0, 0, none⟩) 1 1]) (by kernel_rfl) (crc_Sum.calls w (some ⟨b0, 0, none⟩) 1 ([y0] : List (List Int)) (Sat.ptsAt 0 (rd (hp w) (.slice 5 (.int .u8))) 1 ([y0] : List (List Int)) hS rfl rfl (rdL.cons1 ⟨_, _, rfl, (rdS.r0up (F0 _ _ hS))⟩ (rdL.nil _ _))) q0 e) ?_
    rintro _ w1 ⟨rfl, hS1⟩
    have hS : Sat w1 (rf w0) [pts b0 (.cells #[.slice A0 y0.length c0] 22 (0, 0)), osl 5 (r0 (.int .u8)) 1 A3 c3 y3] := hS.ext hS1
    refine ⟨(asked.nil _ _), ?_⟩
    have hS : Sat w1 (rf w0) [osl 5 (r0 (.int .u8)) 1 A3 c3 y3] := hS.sel [1] (by kernel_rfl)
    refine WD.weaken [45, 48, 54, 58] (L' := [(45, .int .u32 q0), (48, .slice A1 y1.length c1), (54, .slice A2 y2.length c2), (58, .slice A3 y3.length c3)]) (by kernel_rfl) ?_
    refine WD.perm (done' := [0, 1, 2, 5, 6, 7, 11, 12, 13, 17, 3, 4]) (by kernel_rfl) ?_
    exact crcadds_1_0 w0 y0 y1 y2 y3 A0 c0 A1 c1 A2 c2 A3 c3 F0 F1 F2 out hend q0 w1 hS H
  · refine St.box hS (by kernel_rfl) (.cells #[.slice A1 y1.length c1] 22) (fun b1 => .slice (some ⟨b1, 0, none⟩) 1 1) (fun _ => by kernel_rfl) (fun b1 w1 hS => ?_)
    refine ⟨(asked.nil _ _), ?_⟩
    have hS : Sat w1 (rf w0) [pts b0 (.cells #[.slice A0 y0.length c0] 22 (0, 0)), pts b1 (.cells #[.slice A1 y1.length c1] 22 (0, 0)), osl 5 (r0 (.int .u8)) 1 A3 c3 y3] := hS.sel [1, 0, 2] (by kernel_rfl)
    refine WD.weaken [44, 49, 54, 58] (L' := [(44, .slice (some ⟨b0, 0, none⟩) 1 1), (49, .slice (some ⟨b1, 0, none⟩) 1 1), (54, .slice A2 y2.length c2), (58, .slice A3 y3.length c3)]) (by kernel_rfl) ?_
    refine WD.perm (done' := [0, 1, 2, 5, 6, 7, 11, 12, 13, 17, 3, 8]) (by kernel_rfl) ?_
    exact crcadds_0_01 w0 y0 y1 y2 y3 A0 c0 A1 c1 A2 c2 A3 c3 F0 F1 F2 out hend b0 b1 w1 hS H
  · refine St.box hS (by kernel_rfl) (.cells #[.slice A2 y2.length c2] 22) (fun b2 => .slice (some ⟨b2, 0, none⟩) 1 1) (fun _ => by kernel_rfl) (fun b2 w1 hS => ?_)
    refine ⟨(asked.nil _ _), ?_⟩
    have hS : Sat w1 (rf w0) [pts b0 (.cells #[.slice A0 y0.length c0] 22 (0, 0)), pts b2 (.cells #[.slice A2 y2.length c2] 22 (0, 0)), osl 5 (r0 (.int .u8)) 1 A3 c3 y3] := hS.sel [1, 0, 2] (by kernel_rfl)
    refine WD.weaken [44, 48, 55, 58] (L' := [(44, .slice (some ⟨b0, 0, none⟩) 1 1), (48, .slice A1 y1.length c1), (55, .slice (some ⟨b2, 0, none⟩) 1 1), (58, .slice A3 y3.length c3)]) (by kernel_rfl) ?_
    refine WD.perm (done' := [0, 1, 2, 5, 6, 7, 11, 12, 13, 17, 3, 14]) (by kernel_rfl) ?_
    exact crcadds_0_02 w0 y0 y1 y2 y3 A0 c0 A1 c1 A2 c2 A3 c3 F0 F1 F2 out hend b0 b2 w1 hS H
  · refine St.box hS (by kernel_rfl) (.cells #[.slice A3 y3.length c3] 22) (fun b3 => .slice (some ⟨b3, 0, none⟩) 1 1) (fun _ => by kernel_rfl) (fun b3 w1 hS => ?_)
    refine ⟨(asked.nil _ _), ?_⟩
    have hS : Sat w1 (rf w0) [pts b0 (.cells #[.slice A0 y0.length c0] 22 (0, 0)), pts b3 (.cells #[.slice A3 y3.length c3] 22 (0, 0)), osl 5 (r0 (.int .u8)) 1 A3 c3 y3] := hS.sel [1, 0, 2] (by kernel_rfl)
    refine WD.weaken [44, 48, 54, 59] (L' := [(44, .slice (some ⟨b0, 0, none⟩) 1 1), (48, .slice A1 y1.length c1), (54, .slice A2 y2.length c2), (59, .slice (some ⟨b3, 0, none⟩) 1 1)]) (by kernel_rfl) ?_
    refine WD.perm (done' := [0, 1, 2, 5, 6, 7, 11, 12, 13, 17, 3, 18]) (by kernel_rfl) ?_
    exact crcadds_0_03 w0 y0 y1 y2 y3 A0 c0 A1 c1 A2 c2 A3 c3 F0 F1 F2 out hend b0 b3 w1 hS H
theorem crcadds_0_1 {Q : Exit → Act → World → Prop} (w0 : World) (y0 y1 y2 y3 : List Int) (A0 : Option Addr) (c0 : Nat) (A1 : Option Addr) (c1 : Nat) (A2 : Option Addr) (c2 : Nat) (A3 : Option Addr) (c3 : Nat) (F0 : ∀ (w : World) (cs : List HP), Sat w (rf w0) cs → rdS (r0 (.int .u8)) 1 (hp w) A0 c0 y0) (F1 : ∀ (w : World) (cs : List HP), Sat w (rf w0) cs → rdS (r0 (.int .u8)) 1 (hp w) A1 c1 y1) (F2 : ∀ (w : World) (cs : List HP), Sat w (rf w0) cs → rdS (r0 (.int .u8)) 1 (hp w) A2 c2 y2) (out : Bool) (hend : ∀ (w : World), Sat w (rf w0) [] → At Q .normal 62 [(6, .bool out)] w) (b1 : Nat) (w : World) (hS : Sat w (rf w0) [pts b1 (.cells #[.slice A1 y1.length c1] 22 (0, 0)), osl 5 (r0 (.int .u8)) 1 A3 c3 y3]) (H : ((crc_Sum.f ([y0] : List (List Int))).bind fun q0 => ((crc_Sum.f ([y1] : List (List Int))).bind fun q1 => ((crc_Sum.f ([y2] : List (List Int))).bind fun q2 => ((crc_Sum.f ([y3] : List (List Int))).bind fun q3 => some ((ixor .u32 (ixor .u32 q0 q1) q2) == q3))))) = some out) :
    WD Try.prog (cops (cl (cr (cr (cr (cr (cr C6))))))) Q 62 [] 11 [0, 1, 2, 5, 6, 7, 11, 12, 13, 17, 8] [(43, .slice A0 y0.length c0), (49, .slice (some ⟨b1, 0, none⟩) 1 1), (54, .slice A2 y2.length c2), (58, .slice A3 y3.length c3)] w := by
  refine WD.many (is := [3, 14, 18]) (by kernel_rfl) rfl ⟨?_, ?_, ?_, trivial⟩
  · refine St.box hS (by kernel_rfl) (.cells #[.slice A0 y0.length c0] 22) (fun b0 => .slice (some ⟨b0, 0, none⟩) 1 1) (fun _ => by kernel_rfl) (fun b0 w1 hS => ?_)
    refine ⟨(asked.nil _ _), ?_⟩
    have hS : Sat w1 (rf w0) [pts b0 (.cells #[.slice A0 y0.length c0] 22 (0, 0)), pts b1 (.cells #[.slice A1 y1.length c1] 22 (0, 0)), osl 5 (r0 (.int .u8)) 1 A3 c3 y3] := hS.sel [0, 1, 2] (by kernel_rfl)
    refine WD.weaken [44, 49, 54, 58] (L' := [(44, .slice (some ⟨b0, 0, none⟩) 1 1), (49, .slice (some ⟨b1, 0, none⟩) 1 1), (54, .slice A2 y2.length c2), (58, .slice A3 y3.length c3)]) (by kernel_rfl) ?_
    refine WD.perm (done' := [0, 1, 2, 5, 6, 7, 11, 12, 13, 17, 3, 8]) (by kernel_rfl) ?_
    exact crcadds_0_01 w0 y0 y1 y2 y3 A0 c0 A1 c1 A2 c2 A3 c3 F0 F1 F2 out hend b0 b1 w1 hS H
  · refine St.box hS (by kernel_rfl) (.cells #[.slice A2 y2.length c2] 22) (fun b2 => .slice (some ⟨b2, 0, none⟩) 1 1) (fun _ => by kernel_rfl) (fun b2 w1 hS => ?_)
    refine ⟨(asked.nil _ _), ?_⟩
    have hS : Sat w1 (rf w0) [pts b1 (.cells #[.slice A1 y1.length c1] 22 (0, 0)), pts b2 (.cells #[.slice A2 y2.length c2] 22 (0, 0)), osl 5 (r0 (.int .u8)) 1 A3 c3 y3] := hS.sel [1, 0, 2] (by kernel_rfl)
    refine WD.weaken [43, 49, 55, 58] (L' := [(43, .slice A0 y0.length c0), (49, .slice (some ⟨b1, 0, none⟩) 1 1), (55, .slice (some ⟨b2, 0, none⟩) 1 1), (58, .slice A3 y3.length c3)]) (by kernel_rfl) ?_
    refine WD.perm (done' := [0, 1, 2, 5, 6, 7, 11, 12, 13, 17, 8, 14]) (by kernel_rfl) ?_
    exact crcadds_0_12 w0 y0 y1 y2 y3 A0 c0 A1 c1 A2 c2 A3 c3 F0 F1 F2 out hend b1 b2 w1 hS H
  · refine St.box hS (by kernel_rfl) (.cells #[.slice A3 y3.length c3] 22) (fun b3 => .slice (some ⟨b3, 0, none⟩) 1 1) (fun _ => by kernel_rfl) (fun b3 w1 hS => ?_)
    refine ⟨(asked.nil _ _), ?_⟩
    have hS : Sat w1 (rf w0) [pts b1 (.cells #[.slice A1 y1.length c1] 22 (0, 0)), pts b3 (.cells #[.slice A3 y3.length c3] 22 (0, 0)), osl 5 (r0 (.int .u8)) 1 A3 c3 y3] := hS.sel [1, 0, 2] (by kernel_rfl)
    refine WD.weaken [43, 49, 54, 59] (L' := [(43, .slice A0 y0.length c0), (49, .slice (some ⟨b1, 0, none⟩) 1 1), (54, .slice A2 y2.length c2), (59, .slice (some ⟨b3, 0, none⟩) 1 1)]) (by kernel_rfl) ?_
    refine WD.perm (done' := [0, 1, 2, 5, 6, 7, 11, 12, 13, 17, 8, 18]) (by kernel_rfl) ?_
    exact crcadds_0_13 w0 y0 y1 y2 y3 A0 c0 A1 c1 A2 c2 A3 c3 F0 F1 F2 out hend b1 b3 w1 hS H
theorem crcadds_0_2 {Q : Exit → Act → World → Prop} (w0 : World) (y0 y1 y2 y3 : List Int) (A0 : Option Addr) (c0 : Nat) (A1 : Option Addr) (c1 : Nat) (A2 : Option Addr) (c2 : Nat) (A3 : Option Addr) (c3 : Nat) (F0 : ∀ (w : World) (cs : List HP), Sat w (rf w0) cs → rdS (r0 (.int .u8)) 1 (hp w) A0 c0 y0) (F1 : ∀ (w : World) (cs : List HP), Sat w (rf w0) cs → rdS (r0 (.int .u8)) 1 (hp w) A1 c1 y1) (F2 : ∀ (w : World) (cs : List HP), Sat w (rf w0) cs → rdS (r0 (.int .u8)) 1 (hp w) A2 c2 y2) (out : Bool) (hend : ∀ (w : World), Sat w (rf w0) [] → At Q .normal 62 [(6, .bool out)] w) (b2 : Nat) (w : World) (hS : Sat w (rf w0) [pts b2 (.cells #[.slice A2 y2.length c2] 22 (0, 0)), osl 5 (r0 (.int .u8)) 1 A3 c3 y3]) (H : ((crc_Sum.f ([y0] : List (List Int))).bind fun q0 => ((crc_Sum.f ([y1] : List (List Int))).bind fun q1 => ((crc_Sum.f ([y2] : List (List Int))).bind fun q2 => ((crc_Sum.f ([y3] : List (List Int))).bind fun q3 => some ((ixor .u32 (ixor .u32 q0 q1) q2) == q3))))) = some out) :
    WD Try.prog (cops (cl (cr (cr (cr (cr (cr C6))))))) Q 62 [] 11 [0, 1, 2, 5, 6, 7, 11, 12, 13, 17, 14] [(43, .slice A0 y0.length c0), (48, .slice A1 y1.length c1), (55, .slice (some ⟨b2, 0, none⟩) 1 1), (58, .slice A3 y3.length c3)] w := by
  refine WD.many (is := [3, 8, 18]) (by kernel_rfl) rfl ⟨?_, ?_, ?_, trivial⟩
  · refine St.box hS (by kernel_rfl) (.cells #[.slice A0 y0.length c0] 22) (fun b0 => .slice (some ⟨b0, 0, none⟩) 1 1) (fun _ => by kernel_rfl) (fun b0 w1 hS => ?_)
    refine ⟨(asked.nil _ _), ?_⟩
    have hS : Sat w1 (rf w0) [pts b0 (.cells #[.slice A0 y0.length c0] 22 (0, 0)), pts b2 (.cells #[.slice A2 y2.length c2] 22 (0, 0)), osl 5 (r0 (.int .u8)) 1 A3 c3 y3] := hS.sel [0, 1, 2] (by kernel_rfl)
    refine WD.weaken [44, 48, 55, 58] (L' := [(44, .slice (some ⟨b0, 0, none⟩) 1 1), (48, .slice A1 y1.length c1), (55, .slice (some ⟨b2, 0, none⟩) 1 1), (58, .slice A3 y3.length c3)]) (by kernel_rfl) ?_
    refine WD.perm (done' := [0, 1, 2, 5, 6, 7, 11, 12, 13, 17, 3, 14]) (by kernel_rfl) ?_
    exact crcadds_0_02 w0 y0 y1 y2 y3 A0 c0 A1 c1 A2 c2 A3 c3 F0 F1 F2 out hend b0 b2 w1 hS H
  · refine St.box hS (by kernel_rfl) (.cells #[.slice A1 y1.length c1] 22) (fun b1 => .slice (some ⟨b1, 0, none⟩) 1 1) (fun _ => by kernel_rfl) (fun b1 w1 hS => ?_)
    refine ⟨(asked.nil _ _), ?_⟩
    have hS : Sat w1 (rf w0) [pts b1 (.cells #[.slice A1 y1.length c1] 22 (0, 0)), pts b2 (.cells #[.slice A2 y2.length c2] 22 (0, 0)), osl 5 (r0 (.int .u8)) 1 A3 c3 y3] := hS.sel [0, 1, 2] (by kernel_rfl)
    refine WD.weaken [43, 49, 55, 58] (L' := [(43, .slice A0 y0.length c0), (49, .slice (some ⟨b1, 0, none⟩) 1 1), (55, .slice (some ⟨b2, 0, none⟩) 1 1), (58, .slice A3 y3.length c3)]) (by kernel_rfl) ?_
    refine WD.perm (done' := [0, 1, 2, 5, 6, 7, 11, 12, 13, 17, 8, 14]) (by kernel_rfl) ?_
    exact crcadds_0_12 w0 y0 y1 y2 y3 A0 c0 A1 c1 A2 c2 A3 c3 F0 F1 F2 out hend b1 b2 w1 hS H
  · refine St.box hS (by kernel_rfl) (.cells #[.slice A3 y3.length c3] 22) (fun b3 => .slice (some ⟨b3, 0, none⟩) 1 1) (fun _ => by kernel_rfl) (fun b3 w1 hS => ?_)
    refine ⟨(asked.nil _ _), ?_⟩
    have hS : Sat w1 (rf w0) [pts b2 (.cells #[.slice A2 y2.length c2] 22 (0, 0)), pts b3 (.cells #[.slice A3 y3.length c3] 22 (0, 0)), osl 5 (r0 (.int .u8)) 1 A3 c3 y3] := hS.sel [1, 0, 2] (by kernel_rfl)
    refine WD.weaken [43, 48, 55, 59] (L' := [(43, .slice A0 y0.length c0), (48, .slice A1 y1.length c1), (55, .slice (some ⟨b2, 0, none⟩) 1 1), (59, .slice (some ⟨b3, 0, none⟩) 1 1)]) (by kernel_rfl) ?_
    refine WD.perm (done' := [0, 1, 2, 5, 6, 7, 11, 12, 13, 17, 14, 18]) (by kernel_rfl) ?_
    exact crcadds_0_23 w0 y0 y1 y2 y3 A0 c0 A1 c1 A2 c2 A3 c3 F0 F1 F2 out hend b2 b3 w1 hS H
theorem crcadds_0_3 {Q : Exit → Act → World → Prop} (w0 : World) (y0 y1 y2 y3 : List Int) (A0 : Option Addr) (c0 : Nat) (A1 : Option Addr) (c1 : Nat) (A2 : Option Addr) (c2 : Nat) (A3 : Option Addr) (c3 : Nat) (F0 : ∀ (w : World) (cs : List HP), Sat w (rf w0) cs → rdS (r0 (.int .u8)) 1 (hp w) A0 c0 y0) (F1 : ∀ (w : World) (cs : List HP), Sat w (rf w0) cs → rdS (r0 (.int .u8)) 1 (hp w) A1 c1 y1) (F2 : ∀ (w : World) (cs : List HP), Sat w (rf w0) cs → rdS (r0 (.int .u8)) 1 (hp w) A2 c2 y2) (out : Bool) (hend : ∀ (w : World), Sat w (rf w0) [] → At Q .normal 62 [(6, .bool out)] w) (b3 : Nat) (w : World) (hS : Sat w (rf w0) [pts b3 (.cells #[.slice A3 y3.length c3] 22 (0, 0)), osl 5 (r0 (.int .u8)) 1 A3 c3 y3]) (H : ((crc_Sum.f ([y0] : List (List Int))).bind fun q0 => ((crc_Sum.f ([y1] : List (List Int))).bind fun q1 => ((crc_Sum.f ([y2] : List (List Int))).bind fun q2 => ((crc_Sum.f ([y3] : List (List Int))).bind fun q3 => some ((ixor .u32 (ixor .u32 q0 q1) q2) == q3))))) = some out) :
    WD Try.prog (cops (cl (cr (cr (cr (cr (cr C6))))))) Q 62 [] 11 [0, 1, 2, 5, 6, 7, 11, 12, 13, 17, 18] [(43, .slice A0 y0.length c0), (48, .slice A1 y1.length c1), (54, .slice A2 y2.length c2), (59, .slice (some ⟨b3, 0, none⟩) 1 1)] w := by
  refine WD.many (is := [3, 8, 14]) (by kernel_rfl) rfl ⟨?_, ?_, ?_, trivial⟩
  · refine St.box hS (by kernel_rfl) (.cells #[.slice A0 y0.length c0] 22) (fun b0 => .slice (some ⟨b0, 0, none⟩) 1 1) (fun _ => by kernel_rfl) (fun b0 w1 hS => ?_)
    refine ⟨(asked.nil _ _), ?_⟩
    have hS : Sat w1 (rf w0) [pts b0 (.cells #[.slice A0 y0.length c0] 22 (0, 0)), pts b3 (.cells #[.slice A3 y3.length c3] 22 (0, 0)), osl 5 (r0 (.int .u8)) 1 A3 c3 y3] := hS.sel [0, 1, 2] (by kernel_rfl)
    refine WD.weaken [44, 48, 54, 59] (L' := [(44, .slice (some ⟨b0, 0, none⟩) 1 1), (48, .slice A1 y1.length c1), (54, .slice A2 y2.length c2), (59, .slice (some ⟨b3, 0, none⟩) 1 1)]) (by kernel_rfl) ?_
    refine WD.perm (done' := [0, 1, 2, 5, 6, 7, 11, 12, 13, 17, 3, 18]) (by kernel_rfl) ?_
    exact crcadds_0_03 w0 y0 y1 y2 y3 A0 c0 A1 c1 A2 c2 A3 c3 F0 F1 F2 out hend b0 b3 w1 hS H
  · refine St.box hS (by kernel_rfl) (.cells #[.slice A1 y1.length c1] 22) (fun b1 => .slice (some ⟨b1, 0, none⟩) 1 1) (fun _ => by kernel_rfl) (fun b1 w1 hS => ?_)
    refine ⟨(asked.nil _ _), ?_⟩
    have hS : Sat w1 (rf w0) [pts b1 (.cells #[.slice A1 y1.length c1] 22 (0, 0)), pts b3 (.cells #[.slice A3 y3.length c3] 22 (0, 0)), osl 5 (r0 (.int .u8)) 1 A3 c3 y3] := hS.sel [0, 1, 2] (by kernel_rfl)
    refine WD.weaken [43, 49, 54, 59] (L' := [(43, .slice A0 y0.length c0), (49, .slice (some ⟨b1, 0, none⟩) 1 1), (54, .slice A2 y2.length c2), (59, .slice (some ⟨b3, 0, none⟩) 1 1)]) (by kernel_rfl) ?_
    refine WD.perm (done' := [0, 1, 2, 5, 6, 7, 11, 12, 13, 17, 8, 18]) (by kernel_rfl) ?_
    exact crcadds_0_13 w0 y0 y1 y2 y3 A0 c0 A1 c1 A2 c2 A3 c3 F0 F1 F2 out hend b1 b3 w1 hS H
  · refine St.box hS (by kernel_rfl) (.cells #[.slice A2 y2.length c2] 22) (fun b2 => .slice (some ⟨b2, 0, none⟩) 1 1) (fun _ => by kernel_rfl) (fun b2 w1 hS => ?_)
    refine ⟨(asked.nil _ _), ?_⟩
    have hS : Sat w1 (rf w0) [pts b2 (.cells #[.slice A2 y2.length c2] 22 (0, 0)), pts b3 (.cells #[.slice A3 y3.length c3] 22 (0, 0)), osl 5 (r0 (.int .u8)) 1 A3 c3 y3] := hS.sel [0, 1, 2] (by kernel_rfl)
    refine WD.weaken [43, 48, 55, 59] (L' := [(43, .slice A0 y0.length c0), (48, .slice A1 y1.length c1), (55, .slice (some ⟨b2, 0, none⟩) 1 1), (59, .slice (some ⟨b3, 0, none⟩) 1 1)]) (by kernel_rfl) ?_
    refine WD.perm (done' := [0, 1, 2, 5, 6, 7, 11, 12, 13, 17, 14, 18]) (by kernel_rfl) ?_
    exact crcadds_0_23 w0 y0 y1 y2 y3 A0 c0 A1 c1 A2 c2 A3 c3 F0 F1 F2 out hend b2 b3 w1 hS H
theorem crcadds_0_x {Q : Exit → Act → World → Prop} (w0 : World) (y0 y1 y2 y3 : List Int) (A0 : Option Addr) (c0 : Nat) (A1 : Option Addr) (c1 : Nat) (A2 : Option Addr) (c2 : Nat) (A3 : Option Addr) (c3 : Nat) (F0 : ∀ (w : World) (cs : List HP), Sat w (rf w0) cs → rdS (r0 (.int .u8)) 1 (hp w) A0 c0 y0) (F1 : ∀ (w : World) (cs : List HP), Sat w (rf w0) cs → rdS (r0 (.int .u8)) 1 (hp w) A1 c1 y1) (F2 : ∀ (w : World) (cs : List HP), Sat w (rf w0) cs → rdS (r0 (.int .u8)) 1 (hp w) A2 c2 y2) (out : Bool) (hend : ∀ (w : World), Sat w (rf w0) [] → At Q .normal 62 [(6, .bool out)] w) (w : World) (hS : Sat w (rf w0) [osl 5 (r0 (.int .u8)) 1 A3 c3 y3]) (H : ((crc_Sum.f ([y0] : List (List Int))).bind fun q0 => ((crc_Sum.f ([y1] : List (List Int))).bind fun q1 => ((crc_Sum.f ([y2] : List (List Int))).bind fun q2 => ((crc_Sum.f ([y3] : List (List Int))).bind fun q3 => some ((ixor .u32 (ixor .u32 q0 q1) q2) == q3))))) = some out) :
    WD Try.prog (cops (cl (cr (cr (cr (cr (cr C6))))))) Q 62 [] 12 [0, 1, 2, 5, 6, 7, 11, 12, 13, 17] [(43, .slice A0 y0.length c0), (48, .slice A1 y1.length c1), (54, .slice A2 y2.length c2), (58, .slice A3 y3.length c3)] w := by
  refine WD.many (is := [3, 8, 14, 18]) (by kernel_rfl) rfl ⟨?_, ?_, ?_, ?_, trivial⟩
  · refine St.box hS (by kernel_rfl) (.cells #[.slice A0 y0.length c0] 22) (fun b0 => .slice (some ⟨b0, 0, none⟩) 1 1) (fun _ => by kernel_rfl) (fun b0 w1 hS => ?_)
    refine ⟨(asked.nil _ _), ?_⟩
    have hS : Sat w1 (rf w0) [pts b0 (.cells #[.slice A0 y0.length c0] 22 (0, 0)), osl 5 (r0 (.int .u8)) 1 A3 c3 y3] := hS.sel [0, 1] (by kernel_rfl)
    refine WD.weaken [44, 48, 54, 58] (L' := [(44, .slice (some ⟨b0, 0, none⟩) 1 1), (48, .slice A1 y1.length c1), (54, .slice A2 y2.length c2), (58, .slice A3 y3.length c3)]) (by kernel_rfl) ?_
    refine WD.perm (done' := [0, 1, 2, 5, 6, 7, 11, 12, 13, 17, 3]) (by kernel_rfl) ?_
    exact crcadds_0_0 w0 y0 y1 y2 y3 A0 c0 A1 c1 A2 c2 A3 c3 F0 F1 F2 out hend b0 w1 hS H
  · refine St.box hS (by kernel_rfl) (.cells #[.slice A1 y1.length c1] 22) (fun b1 => .slice (some ⟨b1, 0, none⟩) 1 1) (fun _ => by kernel_rfl) (fun b1 w1 hS => ?_)
    refine ⟨(asked.nil _ _), ?_⟩
    have hS : Sat w1 (rf w0) [pts b1 (.cells #[.slice A1 y1.length c1] 22 (0, 0)), osl 5 (r0 (.int .u8)) 1 A3 c3 y3] := hS.sel [0, 1] (by kernel_rfl)
    refine WD.weaken [43, 49, 54, 58] (L' := [(43, .slice A0 y0.length c0), (49, .slice (some ⟨b1, 0, none⟩) 1 1), (54, .slice A2 y2.length c2), (58, .slice A3 y3.length c3)]) (by kernel_rfl) ?_
    refine WD.perm (done' := [0, 1, 2, 5, 6, 7, 11, 12, 13, 17, 8]) (by kernel_rfl) ?_
    exact crcadds_0_1 w0 y0 y1 y2 y3 A0 c0 A1 c1 A2 c2 A3 c3 F0 F1 F2 out hend b1 w1 hS H
  · refine St.box hS (by kernel_rfl) (.cells #[.slice A2 y2.length c2] 22) (fun b2 => .slice (some ⟨b2, 0, none⟩) 1 1) (fun _ => by kernel_rfl) (fun b2 w1 hS => ?_)
    refine ⟨(asked.nil _ _), ?_⟩
    have hS : Sat w1 (rf w0) [pts b2 (.cells #[.slice A2 y2.length c2] 22 (0, 0)), osl 5 (r0 (.int .u8)) 1 A3 c3 y3] := hS.sel [0, 1] (by kernel_rfl)
    refine WD.weaken [43, 48, 55, 58] (L' := [(43, .slice A0 y0.length c0), (48, .slice A1 y1.length c1), (55, .slice (some ⟨b2, 0, none⟩) 1 1), (58, .slice A3 y3.length c3)]) (by kernel_rfl) ?_
    refine WD.perm (done' := [0, 1, 2, 5, 6, 7, 11, 12, 13, 17, 14]) (by kernel_rfl) ?_
    exact crcadds_0_2 w0 y0 y1 y2 y3 A0 c0 A1 c1 A2 c2 A3 c3 F0 F1 F2 out hend b2 w1 hS H
  · refine St.box hS (by kernel_rfl) (.cells #[.slice A3 y3.length c3] 22) (fun b3 => .slice (some ⟨b3, 0, none⟩) 1 1) (fun _ => by kernel_rfl) (fun b3 w1 hS => ?_)
    refine ⟨(asked.nil _ _), ?_⟩
    have hS : Sat w1 (rf w0) [pts b3 (.cells #[.slice A3 y3.length c3] 22 (0, 0)), osl 5 (r0 (.int .u8)) 1 A3 c3 y3] := hS.sel [0, 1] (by kernel_rfl)
    refine WD.weaken [43, 48, 54, 59] (L' := [(43, .slice A0 y0.length c0), (48, .slice A1 y1.length c1), (54, .slice A2 y2.length c2), (59, .slice (some ⟨b3, 0, none⟩) 1 1)]) (by kernel_rfl) ?_
    refine WD.perm (done' := [0, 1, 2, 5, 6, 7, 11, 12, 13, 17, 18]) (by kernel_rfl) ?_
    exact crcadds_0_3 w0 y0 y1 y2 y3 A0 c0 A1 c1 A2 c2 A3 c3 F0 F1 F2 out hend b3 w1 hS H
theorem colophonlaw04_CrcAdds.calls (w0 : World) (A0 : Option Addr) (c0 : Nat) (l0 : List Int) (R0 : rdS (r0 (.int .u8)) 1 (hp w0) A0 c0 l0) (A1 : Option Addr) (c1 : Nat) (l1 : List Int) (R1 : rdS (r0 (.int .u8)) 1 (hp w0) A1 c1 l1) (A2 : Option Addr) (c2 : Nat) (l2 : List Int) (R2 : rdS (r0 (.int .u8)) 1 (hp w0) A2 c2 l2) (r : Bool) (H : colophonlaw04_CrcAdds.f l0 l1 l2 = some r) :
    Calls Try.prog 6 #[.slice A0 l0.length c0, .slice A1 l1.length c1, .slice A2 l2.length c2] w0 (fun e w' => ∃ v, e = .returned v ∧ colophonlaw04_CrcAdds.post w0 r v w') := by
  have hS : Sat w0 (rf w0) [] := Sat.start w0
  unfold colophonlaw04_CrcAdds.f at H
  refine calls_of_WC (vs := [.slice A0 l0.length c0, .slice A1 l1.length c1, .slice A2 l2.length c2]) Try.func6 (c := C6) (n := 62) (by kernel_rfl) (by kernel_rfl) (by kernel_rfl) ?_
  refine WC.seq (by kernel_rfl) ?_
  refine WC.reg [0] (by kernel_rfl) (by kernel_rfl) ?_
  refine WR.runk [0] [] [0, 1, 2] (L' := [(0, .slice A0 l0.length c0), (1, .slice A1 l1.length c1), (2, .slice A2 l2.length c2)]) (w' := w0) (by kernel_rfl) ?_
  refine WR.nil ?_
  refine At.go ?_
  refine WC.seq (by kernel_rfl) ?_
  refine WC.seq (by kernel_rfl) ?_
  refine WC.reg [0, 1] (by kernel_rfl) (by kernel_rfl) ?_
  obtain ⟨r1, e2, H⟩ := bind_ex H
  refine WR.st (St.call (by kernel_rfl) (f := 8) (args := #[]) (by kernel_rfl) (colophonlaw04_first.calls w0  r1 e2) ?_)
  rintro _ w8 ⟨rfl, hS9⟩
  have hS : Sat w8 (rf w0) [] := hS.ext hS9
  refine WR.runk [1] [] [0, 1, 2, 11] (L' := [(0, .slice A0 l0.length c0), (1, .slice A1 l1.length c1), (2, .slice A2 l2.length c2), (11, .bool (!r1))]) (w' := w8) (by kernel_rfl) ?_
  refine WR.nil ?_
  refine At.go ?_
  refine WC.cond (by kernel_rfl) (!r1) (by kernel_rfl) (by kernel_rfl) (fun hb10 => ?_) (fun hb10 => ?_)
  · replace H := ite_t H hb10
    refine WC.seq (by kernel_rfl) ?_
    refine WC.reg [0] (by kernel_rfl) (by kernel_rfl) ?_
    refine WR.runk [0] [] [6] (L' := [(6, .bool false)]) (w' := w8) (by kernel_rfl) ?_
    refine WR.nil ?_
    refine At.go ?_
    refine WC.ret (by kernel_rfl) ?_
    refine At.thenRet ?_
    obtain rfl := Option.some.inj H
    have hS : Sat w8 (rf w0) [] := hS.sel [] (by kernel_rfl)
    exact At.body [.bool false] (by kernel_rfl) ⟨_, rfl, rfl, hS⟩
  · replace H := ite_f H hb10
    refine WC.skip (by kernel_rfl) ?_
    refine At.go ?_
    refine WC.seq (by kernel_rfl) ?_
    refine WC.reg [0, 1, 2, 3, 4, 5, 6, 7] (by kernel_rfl) (by kernel_rfl) ?_
    refine WR.runk [0, 1, 2, 3, 4, 5, 6, 7] [] [0, 1, 2, 7] (L' := [(0, .slice A0 l0.length c0), (1, .slice A1 l1.length c1), (2, .slice A2 l2.length c2), (7, .int .i64 (imin (imin (imin (l0.length : Int) (l1.length : Int)) (l2.length : Int)) 500))]) (w' := w8) (by kernel_rfl) ?_
    refine WR.nil ?_
    refine At.go ?_
    refine WC.seq (by kernel_rfl) ?_
    refine WC.reg [0] (by kernel_rfl) (by kernel_rfl) ?_
    refine WR.runk [0] [] [0, 1, 2, 7, 8] (L' := [(0, .slice A0 l0.length c0), (1, .slice A1 l1.length c1), (2, .slice A2 l2.length c2), (7, .int .i64 (imin (imin (imin (l0.length : Int) (l1.length : Int)) (l2.length : Int)) 500)), (8, .slice none 0 0)]) (w' := w8) (by kernel_rfl) ?_
    refine WR.nil ?_
    refine At.go ?_
    refine WC.seq (by kernel_rfl) ?_
    refine WC.seq (by kernel_rfl) ?_
    refine WC.reg [0, 1] (by kernel_rfl) (by kernel_rfl) ?_
    refine WR.runk [0, 1] [] [0, 1, 2, 7, 8, 19, 20] (L' := [(0, .slice A0 l0.length c0), (1, .slice A1 l1.length c1), (2, .slice A2 l2.length c2), (7, .int .i64 (imin (imin (imin (l0.length : Int) (l1.length : Int)) (l2.length : Int)) 500)), (8, .slice none 0 0), (19, .int .i64 (imin (imin (imin (l0.length : Int) (l1.length : Int)) (l2.length : Int)) 500)), (20, .int .i64 0)]) (w' := w8) (by kernel_rfl) ?_
    refine WR.nil ?_
    refine At.go ?_
    refine WC.block (by kernel_rfl) ?_
    have hS := hS.addNil (α := Int) 5 (r0 (.int .u8)) 1
    have hS : Sat w8 (rf w0) [osl 5 (r0 (.int .u8)) 1 none 0 ([] : List Int)] := hS.sel [0] (by kernel_rfl)
    obtain ⟨o27, e28, H⟩ := bind_ex H
    refine WC.loop (by kernel_rfl) ?_
    refine WL.weaken [0, 1, 2, 7, 8, 19, 20] (L' := [(0, .slice A0 l0.length c0), (1, .slice A1 l1.length c1), (2, .slice A2 l2.length c2), (7, .int .i64 (imin (imin (imin (l0.length : Int) (l1.length : Int)) (l2.length : Int)) 500)), (8, .slice none 0 0), (19, .int .i64 (imin (imin (imin (l0.length : Int) (l1.length : Int)) (l2.length : Int)) 500)), (20, .int .i64 0)]) (by kernel_rfl) ?_
    refine colophonlaw04_CrcAdds.l1_ok w0 A0 c0 l0 A1 c1 l1 A2 c2 l2 R0 R1 R2 o27 (fun A8_q29 c8_q29 w30 hS => ?_) FU ([] : List Int) 0 none 0 _ hS e28
    refine At.hit ?_
    refine At.go ?_
    refine WC.seq (by kernel_rfl) ?_
    refine WC.drawn (by kernel_rfl) (by kernel_rfl) 22 (by kernel_rfl) (fun w32 hw33 => ?_)
    have hS := hS.heap hw33.1 hw33.2
    refine WD.weaken [0, 1, 2, 7, 8] (L' := [(0, .slice A0 l0.length c0), (1, .slice A1 l1.length c1), (2, .slice A2 l2.length c2), (7, .int .i64 (imin (imin (imin (l0.length : Int) (l1.length : Int)) (l2.length : Int)) 500)), (8, .slice A8_q29 o27.length c8_q29)]) (by kernel_rfl) ?_
    refine WD.pure (i := 0) (v := .slice A0 l0.length c0) (by kernel_rfl) (by kernel_rfl) (fun _ => by kernel_rfl) ?_
    refine WD.weaken [1, 2, 7, 8, 41] (L' := [(1, .slice A1 l1.length c1), (2, .slice A2 l2.length c2), (7, .int .i64 (imin (imin (imin (l0.length : Int) (l1.length : Int)) (l2.length : Int)) 500)), (8, .slice A8_q29 o27.length c8_q29), (41, .slice A0 l0.length c0)]) (by kernel_rfl) ?_
    refine WD.pure (i := 1) (v := .int .i64 (imin (imin (imin (l0.length : Int) (l1.length : Int)) (l2.length : Int)) 500)) (by kernel_rfl) (by kernel_rfl) (fun _ => by kernel_rfl) ?_
    refine WD.weaken [1, 2, 7, 8, 41, 42] (L' := [(1, .slice A1 l1.length c1), (2, .slice A2 l2.length c2), (7, .int .i64 (imin (imin (imin (l0.length : Int) (l1.length : Int)) (l2.length : Int)) 500)), (8, .slice A8_q29 o27.length c8_q29), (41, .slice A0 l0.length c0), (42, .int .i64 (imin (imin (imin (l0.length : Int) (l1.length : Int)) (l2.length : Int)) 500))]) (by kernel_rfl) ?_
    obtain ⟨y34, e35, H⟩ := bind_ex H
    refine WD.ofP (i := 2) (by kernel_rfl) (PSt.sub (A := A0) (c := c0) (.tmp 41) none (some (.tmp 42)) none (by kernel_rfl) (by kernel_rfl) E22 (by kernel_rfl) (rdS.up R0 hS.sub0).1 e35 rfl (Exists.intro IntKind.i64 (by kernel_rfl)) trivial (fun A36 c37 T38 => ?_))
    refine WD.weaken [1, 2, 7, 8, 43] (L' := [(1, .slice A1 l1.length c1), (2, .slice A2 l2.length c2), (7, .int .i64 (imin (imin (imin (l0.length : Int) (l1.length : Int)) (l2.length : Int)) 500)), (8, .slice A8_q29 o27.length c8_q29), (43, .slice A36 y34.length c37)]) (by kernel_rfl) ?_
    refine WD.pure (i := 5) (v := .slice A1 l1.length c1) (by kernel_rfl) (by kernel_rfl) (fun _ => by kernel_rfl) ?_
    refine WD.weaken [2, 7, 8, 43, 46] (L' := [(2, .slice A2 l2.length c2), (7, .int .i64 (imin (imin (imin (l0.length : Int) (l1.length : Int)) (l2.length : Int)) 500)), (8, .slice A8_q29 o27.length c8_q29), (43, .slice A36 y34.length c37), (46, .slice A1 l1.length c1)]) (by kernel_rfl) ?_
    refine WD.pure (i := 6) (v := .int .i64 (imin (imin (imin (l0.length : Int) (l1.length : Int)) (l2.length : Int)) 500)) (by kernel_rfl) (by kernel_rfl) (fun _ => by kernel_rfl) ?_
    refine WD.weaken [2, 7, 8, 43, 46, 47] (L' := [(2, .slice A2 l2.length c2), (7, .int .i64 (imin (imin (imin (l0.length : Int) (l1.length : Int)) (l2.length : Int)) 500)), (8, .slice A8_q29 o27.length c8_q29), (43, .slice A36 y34.length c37), (46, .slice A1 l1.length c1), (47, .int .i64 (imin (imin (imin (l0.length : Int) (l1.length : Int)) (l2.length : Int)) 500))]) (by kernel_rfl) ?_
    obtain ⟨y39, e40, H⟩ := bind_ex H
    refine WD.ofP (i := 7) (by kernel_rfl) (PSt.sub (A := A1) (c := c1) (.tmp 46) none (some (.tmp 47)) none (by kernel_rfl) (by kernel_rfl) E22 (by kernel_rfl) (rdS.up R1 hS.sub0).1 e40 rfl (Exists.intro IntKind.i64 (by kernel_rfl)) trivial (fun A41 c42 T43 => ?_))
    refine WD.weaken [2, 7, 8, 43, 48] (L' := [(2, .slice A2 l2.length c2), (7, .int .i64 (imin (imin (imin (l0.length : Int) (l1.length : Int)) (l2.length : Int)) 500)), (8, .slice A8_q29 o27.length c8_q29), (43, .slice A36 y34.length c37), (48, .slice A41 y39.length c42)]) (by kernel_rfl) ?_
    refine WD.pure (i := 11) (v := .slice A2 l2.length c2) (by kernel_rfl) (by kernel_rfl) (fun _ => by kernel_rfl) ?_
    refine WD.weaken [7, 8, 43, 48, 52] (L' := [(7, .int .i64 (imin (imin (imin (l0.length : Int) (l1.length : Int)) (l2.length : Int)) 500)), (8, .slice A8_q29 o27.length c8_q29), (43, .slice A36 y34.length c37), (48, .slice A41 y39.length c42), (52, .slice A2 l2.length c2)]) (by kernel_rfl) ?_
    refine WD.pure (i := 12) (v := .int .i64 (imin (imin (imin (l0.length : Int) (l1.length : Int)) (l2.length : Int)) 500)) (by kernel_rfl) (by kernel_rfl) (fun _ => by kernel_rfl) ?_
    refine WD.weaken [8, 43, 48, 52, 53] (L' := [(8, .slice A8_q29 o27.length c8_q29), (43, .slice A36 y34.length c37), (48, .slice A41 y39.length c42), (52, .slice A2 l2.length c2), (53, .int .i64 (imin (imin (imin (l0.length : Int) (l1.length : Int)) (l2.length : Int)) 500))]) (by kernel_rfl) ?_
    obtain ⟨y44, e45, H⟩ := bind_ex H
    refine WD.ofP (i := 13) (by kernel_rfl) (PSt.sub (A := A2) (c := c2) (.tmp 52) none (some (.tmp 53)) none (by kernel_rfl) (by kernel_rfl) E22 (by kernel_rfl) (rdS.up R2 hS.sub0).1 e45 rfl (Exists.intro IntKind.i64 (by kernel_rfl)) trivial (fun A46 c47 T48 => ?_))
    refine WD.weaken [8, 43, 48, 54] (L' := [(8, .slice A8_q29 o27.length c8_q29), (43, .slice A36 y34.length c37), (48, .slice A41 y39.length c42), (54, .slice A46 y44.length c47)]) (by kernel_rfl) ?_
    refine WD.pure (i := 17) (v := .slice A8_q29 o27.length c8_q29) (by kernel_rfl) (by kernel_rfl) (fun _ => by kernel_rfl) ?_
    refine WD.weaken [43, 48, 54, 58] (L' := [(43, .slice A36 y34.length c37), (48, .slice A41 y39.length c42), (54, .slice A46 y44.length c47), (58, .slice A8_q29 o27.length c8_q29)]) (by kernel_rfl) ?_
    refine crcadds_0_x w0 y34 y39 y44 o27 A36 c37 A41 c42 A46 c47 A8_q29 c8_q29 (fun w cs hS => T38.rd _ _ (rdS.up R0 hS.sub0)) (fun w cs hS => T43.rd _ _ (rdS.up R1 hS.sub0)) (fun w cs hS => T48.rd _ _ (rdS.up R2 hS.sub0)) r (fun w hS => ?_) w32 hS H
    refine At.go ?_
    refine WC.ret (by kernel_rfl) ?_
    exact At.body [.bool r] (by kernel_rfl) ⟨_, rfl, rfl, hS⟩
end Go.Proofs.Ytcbagmeglbleaaa
