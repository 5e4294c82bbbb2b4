/-
  Printed by gen.py (my own tool): for each Go function a plain Lean function and the proof that a call of it does what that function says.
-/
import Derived.Test.YtnffhpnlehcoiaaGP1b
set_option linter.unusedVariables false
set_option linter.unusedSimpArgs false
set_option maxRecDepth 100000
namespace Go.Proofs.Ytnffhpnlehcoiaa
open Go Go.Gol
/-! ### 13 (*colophon/fair.Ring).Hold -/
def fair_Ring_Hold.l2 (a1 : Int) (y19 : Int × Int × Int × (List (Int × Bool))) : Nat → Int → Option (Sum Int Unit)
  | 0, _ => none
  | k + 1, x8_l2 => (if decide (x8_l2 < (y19.2.2.2.length : Int)) then ((at? y19.2.2.2 x8_l2).bind fun v30 => (if (v30.1 == a1) then some (.inl x8_l2) else fair_Ring_Hold.l2 a1 y19 k (wi (x8_l2 + 1)))) else some (.inr ()))
def fair_Ring_Hold.l1 (p0 : Int × (List (Option (Int × Int × Int × (List (Int × Bool))))) × Int × Bool × Int × Bool) (a1 : Int) : Nat → Int → Option (Sum (Int × Int) Unit)
  | 0, _ => none
  | k + 1, x16_l1 => (if decide (x16_l1 < (p0.2.1.length : Int)) then ((at? p0.2.1 x16_l1).bind fun v12 => (v12.bind fun y19 => ((fair_Ring_Hold.l2 a1 y19 FU 0).bind fun o36 => (match o36 with | .inl o38 => (if decide (o38 ≥ 0) then some (.inl (x16_l1, o38)) else fair_Ring_Hold.l1 p0 a1 k (wi (x16_l1 + 1))) | .inr o43 => (if decide ((-1) ≥ 0) then some (.inl (x16_l1, (-1))) else fair_Ring_Hold.l1 p0 a1 k (wi (x16_l1 + 1))))))) else some (.inr ()))
def fair_Ring_Hold.f (p0 : Int × (List (Option (Int × Int × Int × (List (Int × Bool))))) × Int × Bool × Int × Bool) (a1 : Int) (a2 : Bool) : Option (Bool × (Int × (List (Option (Int × Int × Int × (List (Int × Bool))))) × Int × Bool × Int × Bool)) := ((fair_Ring_Hold.l1 p0 a1 FU 0).bind fun o48 => (match o48 with | .inl o50 => (if decide (o50.2 ≥ 0) then ((at? p0.2.1 o50.1).bind fun v55 => (v55.bind fun y60 => ((at? y60.2.2.2 o50.2).bind fun v73 => some (decide (o50.2 ≥ 0), (p0.1, (List.set p0.2.1 ((o50.1).toNat) (some (y60.1, y60.2.1, y60.2.2.1, (List.set y60.2.2.2 (o50.2).toNat (v73.1, a2))))), p0.2.2.1, p0.2.2.2.1, p0.2.2.2.2.1, p0.2.2.2.2.2))))) else some (decide (o50.2 ≥ 0), p0)) | .inr o79 => (if decide ((-1) ≥ 0) then none else some (decide ((-1) ≥ 0), p0))))
def fair_Ring_Hold.post (B : Rf) (b0 : Nat) (p0 : Int × (List (Option (Int × Int × Int × (List (Int × Bool))))) × Int × Bool × Int × Bool) (w : World) (r : Bool × (Int × (List (Option (Int × Int × Int × (List (Int × Bool))))) × Int × Bool × Int × Bool)) (v : Value) (w' : World) : Prop := v = (.bool r.1 : Value) ∧ Sat w' B [O46 b0 r.2]
theorem fair_Ring_Hold.l2_ok {Q} (B : Rf) (b0 : Nat) (p0 : Int × (List (Option (Int × Int × Int × (List (Int × Bool))))) × Int × Bool × Int × Bool) (a1 : Int) (b1 : Nat) (A4 : Option Addr) (c5 : Nat) (K6 : Heap) (y19 : Int × Int × Int × (List (Int × Bool))) (A25 : Option Addr) (c26 : Nat) (R27 : rdS (r0 (.pair (.int .i64) .bool)) 2 K6 A25 c26 y19.2.2.2) (out : Sum Int Unit) (hn0 : ∀ (o0 : Int) (w : World), out = (.inl o0) → Sat w B [pts b0 (.cells #[.int .i64 p0.1, .slice A4 p0.2.1.length c5, .int .i64 p0.2.2.1, .bool p0.2.2.2.1, .int .i64 p0.2.2.2.2.1, .bool p0.2.2.2.2.2] 46 (0, 0)), gh K6, pts b1 (.cells #[.int .i64 a1] 3 (0, 0))] → At Q .ret 19 [(4, .int .i64 o0)] w) (hn1 : ∀ (o1 : Unit) (w : World), out = (.inr o1) → Sat w B [pts b0 (.cells #[.int .i64 p0.1, .slice A4 p0.2.1.length c5, .int .i64 p0.2.2.1, .bool p0.2.2.2.1, .int .i64 p0.2.2.2.2.1, .bool p0.2.2.2.2.2] 46 (0, 0)), gh K6, pts b1 (.cells #[.int .i64 a1] 3 (0, 0))] → At Q (.exit 0) 19 [] w) :
    ∀ (k : Nat) (x8_l2 : Int) (w : World), Sat w B [gh K6, pts b0 (.cells #[.int .i64 p0.1, .slice A4 p0.2.1.length c5, .int .i64 p0.2.2.1, .bool p0.2.2.2.1, .int .i64 p0.2.2.2.2.1, .bool p0.2.2.2.2.2] 46 (0, 0)), pts b1 (.cells #[.int .i64 a1] 3 (0, 0))] → fair_Ring_Hold.l2 a1 y19 k x8_l2 = some out → WL Try.prog (cbody (cbody (cr (cl (cr C22))))) Q 19 [(0, .slice A25 y19.2.2.2.length c26), (1, .func (.func 23) #[] #[.pointer (some ⟨b1, 0, none⟩)]), (7, .int .i64 (y19.2.2.2.length : Int)), (8, .int .i64 x8_l2)] w := by
  intro k
  induction k with
  | zero => intro x8_l2 w hS H; exact absurd (show none = some out from H) (by simp)
  | succ k ih =>
    intro x8_l2 w hS H
    unfold fair_Ring_Hold.l2 at H
    refine WL.round ?_
    refine WC.seq (by kernel_rfl) ?_
    refine WC.reg [0] (by kernel_rfl) (by kernel_rfl) ?_
    refine WR.runk [0] [] [0, 1, 7, 8, 9] (L' := [(0, .slice A25 y19.2.2.2.length c26), (1, .func (.func 23) #[] #[.pointer (some ⟨b1, 0, none⟩)]), (7, .int .i64 (y19.2.2.2.length : Int)), (8, .int .i64 x8_l2), (9, .bool (decide (x8_l2 < (y19.2.2.2.length : Int))))]) (w' := w) (by kernel_rfl) ?_
    refine WR.nil ?_
    refine At.go ?_
    refine WC.seq (by kernel_rfl) ?_
    refine WC.cond (by kernel_rfl) (decide (x8_l2 < (y19.2.2.2.length : Int))) (by kernel_rfl) (by kernel_rfl) (fun hb29 => ?_) (fun hb29 => ?_)
    · replace H := ite_t H hb29
      refine WC.skip (by kernel_rfl) ?_
      refine At.go ?_
      refine WC.seq (by kernel_rfl) ?_
      refine WC.block (by kernel_rfl) ?_
      refine WC.seq (by kernel_rfl) ?_
      refine WC.reg [0, 1] (by kernel_rfl) (by kernel_rfl) ?_
      refine WR.runk [0, 1] [] [0, 1, 5, 7, 8] (L' := [(0, .slice A25 y19.2.2.2.length c26), (1, .func (.func 23) #[] #[.pointer (some ⟨b1, 0, none⟩)]), (5, .int .i64 x8_l2), (7, .int .i64 (y19.2.2.2.length : Int)), (8, .int .i64 x8_l2)]) (w' := w) (by kernel_rfl) ?_
      refine WR.nil ?_
      refine At.go ?_
      refine WC.seq (by kernel_rfl) ?_
      refine WC.reg [0, 1, 2, 3, 4, 5] (by kernel_rfl) (by kernel_rfl) ?_
      refine WR.runk [0, 1, 2] [3, 4, 5] [0, 1, 5, 7, 8, 11, 12, 13] (L' := [(0, .slice A25 y19.2.2.2.length c26), (1, .func (.func 23) #[] #[.pointer (some ⟨b1, 0, none⟩)]), (5, .int .i64 x8_l2), (7, .int .i64 (y19.2.2.2.length : Int)), (8, .int .i64 x8_l2), (11, .func (.func 23) #[] #[.pointer (some ⟨b1, 0, none⟩)]), (12, .slice A25 y19.2.2.2.length c26), (13, .int .i64 x8_l2)]) (w' := w) (by kernel_rfl) ?_
      obtain ⟨v30, e31, H⟩ := bind_ex H
      refine WR.st (St.ofP (PSt.idx (k := .i64) (.tmp 12) (.tmp 13) (by kernel_rfl) (by kernel_rfl) E48 (by kernel_rfl) (by kernel_rfl) (rdS.up R27 (Sat.ghAt 0 hS rfl)) e31 ?_))
      refine WR.runk [] [4, 5] [0, 1, 5, 7, 8, 11, 14] (L' := [(0, .slice A25 y19.2.2.2.length c26), (1, .func (.func 23) #[] #[.pointer (some ⟨b1, 0, none⟩)]), (5, .int .i64 x8_l2), (7, .int .i64 (y19.2.2.2.length : Int)), (8, .int .i64 x8_l2), (11, .func (.func 23) #[] #[.pointer (some ⟨b1, 0, none⟩)]), (14, .pointer (some (adr A25 x8_l2.toNat 2)))]) (w' := w) (by kernel_rfl) ?_
      refine WR.st (St.ofR (RSt.loadFlat (t := 55) (κ := (.pair (.int .i64) .bool)) (.tmp 14) (by kernel_rfl) (by kernel_rfl) (by kernel_rfl) (by kernel_rfl) (by kernel_rfl) (by kernel_rfl) (rdS.up R27 (Sat.ghAt 0 hS rfl)) e31 ?_))
      refine WR.runk [] [5] [0, 1, 5, 7, 8, 11, 15] (L' := [(0, .slice A25 y19.2.2.2.length c26), (1, .func (.func 23) #[] #[.pointer (some ⟨b1, 0, none⟩)]), (5, .int .i64 x8_l2), (7, .int .i64 (y19.2.2.2.length : Int)), (8, .int .i64 x8_l2), (11, .func (.func 23) #[] #[.pointer (some ⟨b1, 0, none⟩)]), (15, .agg #[.int .i64 v30.1, .bool v30.2])]) (w' := w) (by kernel_rfl) ?_
      refine WR.st (St.call (by kernel_rfl) (f := 23) (args := #[.agg #[.int .i64 v30.1, .bool v30.2], .pointer (some ⟨b1, 0, none⟩)]) (by kernel_rfl) (calls_of_WC (vs := [.agg #[.int .i64 v30.1, .bool v30.2], .pointer (some ⟨b1, 0, none⟩)]) Try.func23 (c := C23) (n := 8) (by kernel_rfl) (by kernel_rfl) (by kernel_rfl) ?_) (fun _ _ h => h))
      refine WC.seq (by kernel_rfl) ?_
      refine WC.reg [0, 1] (by kernel_rfl) (by kernel_rfl) ?_
      refine WR.runk [] [0, 1] [0, 1] (L' := [(0, .agg #[.int .i64 v30.1, .bool v30.2]), (1, .pointer (some ⟨b1, 0, none⟩))]) (w' := w) (by kernel_rfl) ?_
      refine WR.st (St.box hS (by kernel_rfl) (.cells #[.int .i64 v30.1, .bool v30.2] 55) (fun b32 => .pointer (some ⟨b32, 0, none⟩)) (fun _ => by kernel_rfl) (fun b32 w33 hS => ?_))
      refine WR.runk [1] [] [1, 2] (L' := [(1, .pointer (some ⟨b1, 0, none⟩)), (2, .pointer (some ⟨b32, 0, none⟩))]) (w' := w33) (by kernel_rfl) ?_
      refine WR.nil ?_
      refine At.go ?_
      refine WC.seq (by kernel_rfl) ?_
      refine WC.reg [0, 1, 2, 3, 4] (by kernel_rfl) (by kernel_rfl) ?_
      refine WR.runk [0] [1, 2, 3, 4] [1, 4] (L' := [(1, .pointer (some ⟨b1, 0, none⟩)), (4, .pointer (some ⟨b32, 0, none⟩))]) (w' := w33) (by kernel_rfl) ?_
      refine WR.st (St.ofR (RSt.loadObj (t := 3) (k := 0) (v := .int .i64 v30.1) (.tmp 4) (by kernel_rfl) (by kernel_rfl) (by kernel_rfl) 0 hS rfl (by kernel_rfl) rfl ?_))
      refine WR.runk [] [2, 3, 4] [1, 5] (L' := [(1, .pointer (some ⟨b1, 0, none⟩)), (5, .int .i64 v30.1)]) (w' := w33) (by kernel_rfl) ?_
      refine WR.st (St.ofR (RSt.loadObj (t := 3) (k := 0) (v := .int .i64 a1) (.tmp 1) (by kernel_rfl) (by kernel_rfl) (by kernel_rfl) 3 hS rfl (by kernel_rfl) rfl ?_))
      refine WR.runk [3, 4] [] [3] (L' := [(3, .bool (v30.1 == a1))]) (w' := w33) (by kernel_rfl) ?_
      refine WR.nil ?_
      refine At.go ?_
      refine WC.ret (by kernel_rfl) ?_
      refine At.bodyK [.bool (v30.1 == a1)] (.bool (v30.1 == a1)) (by kernel_rfl) rfl ?_
      refine WR.runk [] [] [0, 1, 5, 7, 8, 16] (L' := [(0, .slice A25 y19.2.2.2.length c26), (1, .func (.func 23) #[] #[.pointer (some ⟨b1, 0, none⟩)]), (5, .int .i64 x8_l2), (7, .int .i64 (y19.2.2.2.length : Int)), (8, .int .i64 x8_l2), (16, .bool (v30.1 == a1))]) (w' := w33) (by kernel_rfl) ?_
      refine WR.nil ?_
      refine At.go ?_
      refine WC.cond (by kernel_rfl) (v30.1 == a1) (by kernel_rfl) (by kernel_rfl) (fun hb35 => ?_) (fun hb35 => ?_)
      · replace H := ite_t H hb35
        refine WC.seq (by kernel_rfl) ?_
        refine WC.reg [0, 1] (by kernel_rfl) (by kernel_rfl) ?_
        refine WR.runk [0, 1] [] [4] (L' := [(4, .int .i64 x8_l2)]) (w' := w33) (by kernel_rfl) ?_
        refine WR.nil ?_
        refine At.go ?_
        refine WC.ret (by kernel_rfl) ?_
        refine At.blockRet ?_
        refine At.thenRet ?_
        refine At.thenRet ?_
        obtain rfl := Option.some.inj H
        have hS : Sat w33 B [pts b0 (.cells #[.int .i64 p0.1, .slice A4 p0.2.1.length c5, .int .i64 p0.2.2.1, .bool p0.2.2.2.1, .int .i64 p0.2.2.2.2.1, .bool p0.2.2.2.2.2] 46 (0, 0)), gh K6, pts b1 (.cells #[.int .i64 a1] 3 (0, 0))] := hS.sel [2, 1, 3] (by kernel_rfl)
        refine At.weaken [4] (L' := [(4, .int .i64 x8_l2)]) (by kernel_rfl) ?_
        exact hn0 x8_l2 _ rfl hS
      · replace H := ite_f H hb35
        refine WC.skip (by kernel_rfl) ?_
        refine At.blockNormal ?_
        refine At.go ?_
        refine WC.reg [0, 1] (by kernel_rfl) (by kernel_rfl) ?_
        refine WR.runk [0, 1] [] [0, 1, 7, 8] (L' := [(0, .slice A25 y19.2.2.2.length c26), (1, .func (.func 23) #[] #[.pointer (some ⟨b1, 0, none⟩)]), (7, .int .i64 (y19.2.2.2.length : Int)), (8, .int .i64 (wi (x8_l2 + 1)))]) (w' := w33) (by kernel_rfl) ?_
        refine WR.nil ?_
        have hS : Sat w33 B [gh K6, pts b0 (.cells #[.int .i64 p0.1, .slice A4 p0.2.1.length c5, .int .i64 p0.2.2.1, .bool p0.2.2.2.1, .int .i64 p0.2.2.2.2.1, .bool p0.2.2.2.2.2] 46 (0, 0)), pts b1 (.cells #[.int .i64 a1] 3 (0, 0))] := hS.sel [1, 2, 3] (by kernel_rfl)
        refine At.again ?_
        refine WL.weaken [0, 1, 7, 8] (L' := [(0, .slice A25 y19.2.2.2.length c26), (1, .func (.func 23) #[] #[.pointer (some ⟨b1, 0, none⟩)]), (7, .int .i64 (y19.2.2.2.length : Int)), (8, .int .i64 (wi (x8_l2 + 1)))]) (by kernel_rfl) ?_
        exact ih (wi (x8_l2 + 1)) _ hS H
    · replace H := ite_f H hb29
      refine WC.exit (by kernel_rfl) ?_
      refine At.thenExit ?_
      refine At.thenExit ?_
      obtain rfl := Option.some.inj H
      have hS : Sat w B [pts b0 (.cells #[.int .i64 p0.1, .slice A4 p0.2.1.length c5, .int .i64 p0.2.2.1, .bool p0.2.2.2.1, .int .i64 p0.2.2.2.2.1, .bool p0.2.2.2.2.2] 46 (0, 0)), gh K6, pts b1 (.cells #[.int .i64 a1] 3 (0, 0))] := hS.sel [1, 0, 2] (by kernel_rfl)
      refine At.weaken [] (L' := []) (by kernel_rfl) ?_
      exact hn1 () _ rfl hS
theorem fair_Ring_Hold.l1_ok {Q} (B : Rf) (b0 : Nat) (p0 : Int × (List (Option (Int × Int × Int × (List (Int × Bool))))) × Int × Bool × Int × Bool) (a1 : Int) (b1 : Nat) (A4 : Option Addr) (c5 : Nat) (K6 : Heap) (css9 : List (List Value)) (R8 : rdS (rd K6 (.ptr 50 (.pair (.int .i64) (.pair (.int .i64) (.pair (.int .i64) (.slice 55 (.pair (.int .i64) .bool))))))) 1 K6 A4 c5 p0.2.1) (hC10 : orc 47 (Ept O50) 1 A4 c5 css9 p0.2.1 K6) (out : Sum (Int × Int) Unit) (hn0 : ∀ (o0 : Int × Int) (u4_q : Value) (w : World), out = (.inl o0) → Sat w B [gh K6, pts b1 (.cells #[.int .i64 a1] 3 (0, 0)), pts b0 (.cells #[.int .i64 p0.1, .slice A4 p0.2.1.length c5, .int .i64 p0.2.2.1, .bool p0.2.2.2.1, .int .i64 p0.2.2.2.2.1, .bool p0.2.2.2.2.2] 46 (0, 0))] → css9[(o0.1).toNat]? = some [u4_q] → At Q .ret 31 [(4, u4_q), (5, .int .i64 o0.2)] w) (hn1 : ∀ (o1 : Unit) (w : World), out = (.inr o1) → Sat w B [pts b1 (.cells #[.int .i64 a1] 3 (0, 0)), pts b0 (.cells #[.int .i64 p0.1, .slice A4 p0.2.1.length c5, .int .i64 p0.2.2.1, .bool p0.2.2.2.1, .int .i64 p0.2.2.2.2.1, .bool p0.2.2.2.2.2] 46 (0, 0)), gh K6] → At Q (.exit 0) 31 [] w) :
    ∀ (k : Nat) (x16_l1 : Int) (w : World), Sat w B [gh K6, pts b1 (.cells #[.int .i64 a1] 3 (0, 0)), pts b0 (.cells #[.int .i64 p0.1, .slice A4 p0.2.1.length c5, .int .i64 p0.2.2.1, .bool p0.2.2.2.1, .int .i64 p0.2.2.2.2.1, .bool p0.2.2.2.2.2] 46 (0, 0))] → fair_Ring_Hold.l1 p0 a1 k x16_l1 = some out → WL Try.prog (cbody (cbody (cr (cl (cr (cr C17)))))) Q 31 [(3, .pointer (some ⟨b1, 0, none⟩)), (14, .slice A4 p0.2.1.length c5), (15, .int .i64 (p0.2.1.length : Int)), (16, .int .i64 x16_l1)] w := by
  intro k
  induction k with
  | zero => intro x16_l1 w hS H; exact absurd (show none = some out from H) (by simp)
  | succ k ih =>
    intro x16_l1 w hS H
    unfold fair_Ring_Hold.l1 at H
    refine WL.round ?_
    refine WC.seq (by kernel_rfl) ?_
    refine WC.reg [0] (by kernel_rfl) (by kernel_rfl) ?_
    refine WR.runk [0] [] [3, 14, 15, 16, 17] (L' := [(3, .pointer (some ⟨b1, 0, none⟩)), (14, .slice A4 p0.2.1.length c5), (15, .int .i64 (p0.2.1.length : Int)), (16, .int .i64 x16_l1), (17, .bool (decide (x16_l1 < (p0.2.1.length : Int))))]) (w' := w) (by kernel_rfl) ?_
    refine WR.nil ?_
    refine At.go ?_
    refine WC.seq (by kernel_rfl) ?_
    refine WC.cond (by kernel_rfl) (decide (x16_l1 < (p0.2.1.length : Int))) (by kernel_rfl) (by kernel_rfl) (fun hb11 => ?_) (fun hb11 => ?_)
    · replace H := ite_t H hb11
      refine WC.skip (by kernel_rfl) ?_
      refine At.go ?_
      refine WC.seq (by kernel_rfl) ?_
      refine WC.block (by kernel_rfl) ?_
      refine WC.seq (by kernel_rfl) ?_
      refine WC.reg [0, 1, 2] (by kernel_rfl) (by kernel_rfl) ?_
      refine WR.runk [] [0, 1, 2] [3, 14, 15, 16] (L' := [(3, .pointer (some ⟨b1, 0, none⟩)), (14, .slice A4 p0.2.1.length c5), (15, .int .i64 (p0.2.1.length : Int)), (16, .int .i64 x16_l1)]) (w' := w) (by kernel_rfl) ?_
      obtain ⟨v12, e13, H⟩ := bind_ex H
      refine WR.st (St.ofP (PSt.idx (k := .i64) (.tmp 14) (.tmp 16) (by kernel_rfl) (by kernel_rfl) E44 (by kernel_rfl) (by kernel_rfl) (rdS.upd R8 (Sat.ghAt 0 hS rfl)) e13 ?_))
      refine WR.runk [] [1, 2] [3, 14, 15, 16, 18] (L' := [(3, .pointer (some ⟨b1, 0, none⟩)), (14, .slice A4 p0.2.1.length c5), (15, .int .i64 (p0.2.1.length : Int)), (16, .int .i64 x16_l1), (18, .pointer (some (adr A4 x16_l1.toNat 1)))]) (w' := w) (by kernel_rfl) ?_
      refine WR.st (St.ofR (RSt.loadRow (t := 47) (κ := (.ptr 50 (.pair (.int .i64) (.pair (.int .i64) (.pair (.int .i64) (.slice 55 (.pair (.int .i64) .bool))))))) (Ept.rd (t := 50) (κ := (.pair (.int .i64) (.pair (.int .i64) (.pair (.int .i64) (.slice 55 (.pair (.int .i64) .bool)))))) (O := O50) O50.rd) (.tmp 18) (by kernel_rfl) (by kernel_rfl) (by kernel_rfl) (by kernel_rfl) hC10 e13 (Sat.ghAt 0 hS rfl) (fun u14 C15 R16 => ?_)))
      replace R16 : rd K6 (.ptr 50 (.pair (.int .i64) (.pair (.int .i64) (.pair (.int .i64) (.slice 55 (.pair (.int .i64) .bool)))))) [u14] v12 := R16
      replace C15 : css9[x16_l1.toNat]? = some [u14] := C15
      refine WR.runk [2] [] [3, 7, 14, 15, 16] (L' := [(3, .pointer (some ⟨b1, 0, none⟩)), (7, u14), (14, .slice A4 p0.2.1.length c5), (15, .int .i64 (p0.2.1.length : Int)), (16, .int .i64 x16_l1)]) (w' := w) (by kernel_rfl) ?_
      refine WR.nil ?_
      refine At.go ?_
      refine WC.seq (by kernel_rfl) ?_
      refine WC.reg [0, 1, 2, 3, 4, 5, 6] (by kernel_rfl) (by kernel_rfl) ?_
      refine WR.runk [0] [1, 2, 3, 4, 5, 6] [3, 7, 14, 15, 16, 20] (L' := [(3, .pointer (some ⟨b1, 0, none⟩)), (7, u14), (14, .slice A4 p0.2.1.length c5), (15, .int .i64 (p0.2.1.length : Int)), (16, .int .i64 x16_l1), (20, u14)]) (w' := w) (by kernel_rfl) ?_
      obtain ⟨y19, hr17, H⟩ := bind_ex H
      obtain ⟨b20, fr21, A25, c26, hv22, hb23, R27⟩ := P50.open R16 hr17
      have R24 := R16
      rw [hv22, hr17] at R24
      have C28 : css9[x16_l1.toNat]? = some [.pointer (some ⟨b20, 0, none⟩)] := by rw [← hv22]; exact C15
      try subst hv22
      replace R27 : rdS (r0 (.pair (.int .i64) .bool)) 2 K6 A25 c26 y19.2.2.2 := R27
      refine WR.runk [1, 2] [3, 4, 5, 6] [3, 7, 14, 15, 16, 22] (L' := [(3, .pointer (some ⟨b1, 0, none⟩)), (7, .pointer (some ⟨b20, 0, none⟩)), (14, .slice A4 p0.2.1.length c5), (15, .int .i64 (p0.2.1.length : Int)), (16, .int .i64 x16_l1), (22, .pointer (some ⟨b20, 3, none⟩))]) (w' := w) (by kernel_rfl) ?_
      refine WR.st (St.ofR (RSt.loadRo (t := 48) (k := 3) (v := .slice A25 y19.2.2.2.length c26) (.tmp 22) (by kernel_rfl) (by kernel_rfl) (by kernel_rfl) (Sat.ghAt 0 hS rfl) hb23 (by kernel_rfl) rfl ?_))
      refine WR.runk [4] [5, 6] [3, 7, 14, 15, 16, 23, 24] (L' := [(3, .pointer (some ⟨b1, 0, none⟩)), (7, .pointer (some ⟨b20, 0, none⟩)), (14, .slice A4 p0.2.1.length c5), (15, .int .i64 (p0.2.1.length : Int)), (16, .int .i64 x16_l1), (23, .slice A25 y19.2.2.2.length c26), (24, .func (.func 23) #[] #[.pointer (some ⟨b1, 0, none⟩)])]) (w' := w) (by kernel_rfl) ?_
      refine WR.st (St.call (by kernel_rfl) (f := 22) (args := #[.slice A25 y19.2.2.2.length c26, .func (.func 23) #[] #[.pointer (some ⟨b1, 0, none⟩)]]) (by kernel_rfl) (calls_of_WC (vs := [.slice A25 y19.2.2.2.length c26, .func (.func 23) #[] #[.pointer (some ⟨b1, 0, none⟩)]]) Try.func22 (c := C22) (n := 19) (by kernel_rfl) (by kernel_rfl) (by kernel_rfl) ?_) (fun _ _ h => h))
      refine WC.seq (by kernel_rfl) ?_
      refine WC.reg [0] (by kernel_rfl) (by kernel_rfl) ?_
      refine WR.runk [0] [] [0, 1] (L' := [(0, .slice A25 y19.2.2.2.length c26), (1, .func (.func 23) #[] #[.pointer (some ⟨b1, 0, none⟩)])]) (w' := w) (by kernel_rfl) ?_
      refine WR.nil ?_
      refine At.go ?_
      refine WC.seq (by kernel_rfl) ?_
      refine WC.seq (by kernel_rfl) ?_
      refine WC.reg [0, 1, 2] (by kernel_rfl) (by kernel_rfl) ?_
      refine WR.runk [0, 1, 2] [] [0, 1, 7, 8] (L' := [(0, .slice A25 y19.2.2.2.length c26), (1, .func (.func 23) #[] #[.pointer (some ⟨b1, 0, none⟩)]), (7, .int .i64 (y19.2.2.2.length : Int)), (8, .int .i64 0)]) (w' := w) (by kernel_rfl) ?_
      refine WR.nil ?_
      refine At.go ?_
      refine WC.block (by kernel_rfl) ?_
      have hS : Sat w B [gh K6, pts b0 (.cells #[.int .i64 p0.1, .slice A4 p0.2.1.length c5, .int .i64 p0.2.2.1, .bool p0.2.2.2.1, .int .i64 p0.2.2.2.2.1, .bool p0.2.2.2.2.2] 46 (0, 0)), pts b1 (.cells #[.int .i64 a1] 3 (0, 0))] := hS.sel [0, 2, 1] (by kernel_rfl)
      obtain ⟨o36, e37, H⟩ := bind_ex H
      refine WC.loop (by kernel_rfl) ?_
      refine WL.weaken [0, 1, 7, 8] (L' := [(0, .slice A25 y19.2.2.2.length c26), (1, .func (.func 23) #[] #[.pointer (some ⟨b1, 0, none⟩)]), (7, .int .i64 (y19.2.2.2.length : Int)), (8, .int .i64 0)]) (by kernel_rfl) ?_
      refine fair_Ring_Hold.l2_ok B b0 p0 a1 b1 A4 c5 K6 y19 A25 c26 R27 o36 (fun o38 w40 ho41 hS => ?_) (fun o43 w45 ho46 hS => ?_) FU 0 _ hS e37
      · subst ho41
        dsimp only at H
        refine At.blockRet ?_
        refine At.thenRet ?_
        refine At.bodyK [.int .i64 o38] (.int .i64 o38) (by kernel_rfl) rfl ?_
        refine WR.runk [6] [] [3, 7, 8, 14, 15, 16] (L' := [(3, .pointer (some ⟨b1, 0, none⟩)), (7, .pointer (some ⟨b20, 0, none⟩)), (8, .int .i64 o38), (14, .slice A4 p0.2.1.length c5), (15, .int .i64 (p0.2.1.length : Int)), (16, .int .i64 x16_l1)]) (w' := w40) (by kernel_rfl) ?_
        refine WR.nil ?_
        refine At.go ?_
        refine WC.seq (by kernel_rfl) ?_
        refine WC.reg [0, 1] (by kernel_rfl) (by kernel_rfl) ?_
        refine WR.runk [0, 1] [] [3, 7, 8, 14, 15, 16, 27] (L' := [(3, .pointer (some ⟨b1, 0, none⟩)), (7, .pointer (some ⟨b20, 0, none⟩)), (8, .int .i64 o38), (14, .slice A4 p0.2.1.length c5), (15, .int .i64 (p0.2.1.length : Int)), (16, .int .i64 x16_l1), (27, .bool (decide (o38 ≥ 0)))]) (w' := w40) (by kernel_rfl) ?_
        refine WR.nil ?_
        refine At.go ?_
        refine WC.cond (by kernel_rfl) (decide (o38 ≥ 0)) (by kernel_rfl) (by kernel_rfl) (fun hb42 => ?_) (fun hb42 => ?_)
        · replace H := ite_t H hb42
          refine WC.seq (by kernel_rfl) ?_
          refine WC.reg [0, 1, 2, 3] (by kernel_rfl) (by kernel_rfl) ?_
          refine WR.runk [0, 1, 2, 3] [] [4, 5] (L' := [(4, .pointer (some ⟨b20, 0, none⟩)), (5, .int .i64 o38)]) (w' := w40) (by kernel_rfl) ?_
          refine WR.nil ?_
          refine At.go ?_
          refine WC.ret (by kernel_rfl) ?_
          refine At.blockRet ?_
          refine At.thenRet ?_
          refine At.thenRet ?_
          obtain rfl := Option.some.inj H
          have hS : Sat w40 B [gh K6, pts b1 (.cells #[.int .i64 a1] 3 (0, 0)), pts b0 (.cells #[.int .i64 p0.1, .slice A4 p0.2.1.length c5, .int .i64 p0.2.2.1, .bool p0.2.2.2.1, .int .i64 p0.2.2.2.2.1, .bool p0.2.2.2.2.2] 46 (0, 0))] := hS.sel [1, 2, 0] (by kernel_rfl)
          refine At.weaken [4, 5] (L' := [(4, .pointer (some ⟨b20, 0, none⟩)), (5, .int .i64 o38)]) (by kernel_rfl) ?_
          exact hn0 (x16_l1, o38) (.pointer (some ⟨b20, 0, none⟩)) _ rfl hS C28
        · replace H := ite_f H hb42
          refine WC.skip (by kernel_rfl) ?_
          refine At.blockNormal ?_
          refine At.go ?_
          refine WC.reg [0, 1] (by kernel_rfl) (by kernel_rfl) ?_
          refine WR.runk [0, 1] [] [3, 14, 15, 16] (L' := [(3, .pointer (some ⟨b1, 0, none⟩)), (14, .slice A4 p0.2.1.length c5), (15, .int .i64 (p0.2.1.length : Int)), (16, .int .i64 (wi (x16_l1 + 1)))]) (w' := w40) (by kernel_rfl) ?_
          refine WR.nil ?_
          have hS : Sat w40 B [gh K6, pts b1 (.cells #[.int .i64 a1] 3 (0, 0)), pts b0 (.cells #[.int .i64 p0.1, .slice A4 p0.2.1.length c5, .int .i64 p0.2.2.1, .bool p0.2.2.2.1, .int .i64 p0.2.2.2.2.1, .bool p0.2.2.2.2.2] 46 (0, 0))] := hS.sel [1, 2, 0] (by kernel_rfl)
          refine At.again ?_
          refine WL.weaken [3, 14, 15, 16] (L' := [(3, .pointer (some ⟨b1, 0, none⟩)), (14, .slice A4 p0.2.1.length c5), (15, .int .i64 (p0.2.1.length : Int)), (16, .int .i64 (wi (x16_l1 + 1)))]) (by kernel_rfl) ?_
          exact ih (wi (x16_l1 + 1)) _ hS H
      · subst ho46
        dsimp only at H
        refine At.hit ?_
        refine At.go ?_
        refine WC.seq (by kernel_rfl) ?_
        refine WC.reg [0] (by kernel_rfl) (by kernel_rfl) ?_
        refine WR.runk [0] [] [4] (L' := [(4, .int .i64 (-1))]) (w' := w45) (by kernel_rfl) ?_
        refine WR.nil ?_
        refine At.go ?_
        refine WC.ret (by kernel_rfl) ?_
        refine At.bodyK [.int .i64 (-1)] (.int .i64 (-1)) (by kernel_rfl) rfl ?_
        refine WR.runk [6] [] [3, 7, 8, 14, 15, 16] (L' := [(3, .pointer (some ⟨b1, 0, none⟩)), (7, .pointer (some ⟨b20, 0, none⟩)), (8, .int .i64 (-1)), (14, .slice A4 p0.2.1.length c5), (15, .int .i64 (p0.2.1.length : Int)), (16, .int .i64 x16_l1)]) (w' := w45) (by kernel_rfl) ?_
        refine WR.nil ?_
        refine At.go ?_
        refine WC.seq (by kernel_rfl) ?_
        refine WC.reg [0, 1] (by kernel_rfl) (by kernel_rfl) ?_
        refine WR.runk [0, 1] [] [3, 7, 8, 14, 15, 16, 27] (L' := [(3, .pointer (some ⟨b1, 0, none⟩)), (7, .pointer (some ⟨b20, 0, none⟩)), (8, .int .i64 (-1)), (14, .slice A4 p0.2.1.length c5), (15, .int .i64 (p0.2.1.length : Int)), (16, .int .i64 x16_l1), (27, .bool (decide ((-1) ≥ 0)))]) (w' := w45) (by kernel_rfl) ?_
        refine WR.nil ?_
        refine At.go ?_
        refine WC.cond (by kernel_rfl) (decide ((-1) ≥ 0)) (by kernel_rfl) (by kernel_rfl) (fun hb47 => ?_) (fun hb47 => ?_)
        · replace H := ite_t H hb47
          refine WC.seq (by kernel_rfl) ?_
          refine WC.reg [0, 1, 2, 3] (by kernel_rfl) (by kernel_rfl) ?_
          refine WR.runk [0, 1, 2, 3] [] [4, 5] (L' := [(4, .pointer (some ⟨b20, 0, none⟩)), (5, .int .i64 (-1))]) (w' := w45) (by kernel_rfl) ?_
          refine WR.nil ?_
          refine At.go ?_
          refine WC.ret (by kernel_rfl) ?_
          refine At.blockRet ?_
          refine At.thenRet ?_
          refine At.thenRet ?_
          obtain rfl := Option.some.inj H
          have hS : Sat w45 B [gh K6, pts b1 (.cells #[.int .i64 a1] 3 (0, 0)), pts b0 (.cells #[.int .i64 p0.1, .slice A4 p0.2.1.length c5, .int .i64 p0.2.2.1, .bool p0.2.2.2.1, .int .i64 p0.2.2.2.2.1, .bool p0.2.2.2.2.2] 46 (0, 0))] := hS.sel [1, 2, 0] (by kernel_rfl)
          refine At.weaken [4, 5] (L' := [(4, .pointer (some ⟨b20, 0, none⟩)), (5, .int .i64 (-1))]) (by kernel_rfl) ?_
          exact hn0 (x16_l1, (-1)) (.pointer (some ⟨b20, 0, none⟩)) _ rfl hS C28
        · replace H := ite_f H hb47
          refine WC.skip (by kernel_rfl) ?_
          refine At.blockNormal ?_
          refine At.go ?_
          refine WC.reg [0, 1] (by kernel_rfl) (by kernel_rfl) ?_
          refine WR.runk [0, 1] [] [3, 14, 15, 16] (L' := [(3, .pointer (some ⟨b1, 0, none⟩)), (14, .slice A4 p0.2.1.length c5), (15, .int .i64 (p0.2.1.length : Int)), (16, .int .i64 (wi (x16_l1 + 1)))]) (w' := w45) (by kernel_rfl) ?_
          refine WR.nil ?_
          have hS : Sat w45 B [gh K6, pts b1 (.cells #[.int .i64 a1] 3 (0, 0)), pts b0 (.cells #[.int .i64 p0.1, .slice A4 p0.2.1.length c5, .int .i64 p0.2.2.1, .bool p0.2.2.2.1, .int .i64 p0.2.2.2.2.1, .bool p0.2.2.2.2.2] 46 (0, 0))] := hS.sel [1, 2, 0] (by kernel_rfl)
          refine At.again ?_
          refine WL.weaken [3, 14, 15, 16] (L' := [(3, .pointer (some ⟨b1, 0, none⟩)), (14, .slice A4 p0.2.1.length c5), (15, .int .i64 (p0.2.1.length : Int)), (16, .int .i64 (wi (x16_l1 + 1)))]) (by kernel_rfl) ?_
          exact ih (wi (x16_l1 + 1)) _ hS H
    · replace H := ite_f H hb11
      refine WC.exit (by kernel_rfl) ?_
      refine At.thenExit ?_
      refine At.thenExit ?_
      obtain rfl := Option.some.inj H
      have hS : Sat w B [pts b1 (.cells #[.int .i64 a1] 3 (0, 0)), pts b0 (.cells #[.int .i64 p0.1, .slice A4 p0.2.1.length c5, .int .i64 p0.2.2.1, .bool p0.2.2.2.1, .int .i64 p0.2.2.2.2.1, .bool p0.2.2.2.2.2] 46 (0, 0)), gh K6] := hS.sel [1, 2, 0] (by kernel_rfl)
      refine At.weaken [] (L' := []) (by kernel_rfl) ?_
      exact hn1 () _ rfl hS
theorem fair_Ring_Hold.calls (B : Rf) (w0 : World) (b0 : Nat) (p0 : Int × (List (Option (Int × Int × Int × (List (Int × Bool))))) × Int × Bool × Int × Bool) (hS : Sat w0 B [O46 b0 p0]) (a1 : Int) (a2 : Bool) (r : Bool × (Int × (List (Option (Int × Int × Int × (List (Int × Bool))))) × Int × Bool × Int × Bool)) (H : fair_Ring_Hold.f p0 a1 a2 = some r) :
    Calls Try.prog 13 #[.pointer (some ⟨b0, 0, none⟩), .int .i64 a1, .bool a2] w0 (fun e w' => ∃ v, e = .returned v ∧ fair_Ring_Hold.post B b0 p0 w0 r v w') := by
  unfold fair_Ring_Hold.f at H
  refine calls_of_WC (vs := [.pointer (some ⟨b0, 0, none⟩), .int .i64 a1, .bool a2]) Try.func13 (c := C13) (n := 27) (by kernel_rfl) (by kernel_rfl) (by kernel_rfl) ?_
  refine WC.seq (by kernel_rfl) ?_
  refine WC.reg [0] (by kernel_rfl) (by kernel_rfl) ?_
  refine WR.runk [0] [] [0, 1, 2] (L' := [(0, .pointer (some ⟨b0, 0, none⟩)), (1, .int .i64 a1), (2, .bool a2)]) (w' := w0) (by kernel_rfl) ?_
  refine WR.nil ?_
  refine At.go ?_
  refine WC.seq (by kernel_rfl) ?_
  refine WC.reg [0, 1, 2, 3, 4, 5, 6, 7] (by kernel_rfl) (by kernel_rfl) ?_
  refine WR.runk [0, 1] [2, 3, 4, 5, 6, 7] [2, 10, 11] (L' := [(2, .bool a2), (10, .pointer (some ⟨b0, 0, none⟩)), (11, .int .i64 a1)]) (w' := w0) (by kernel_rfl) ?_
  refine WR.st (St.call (by kernel_rfl) (f := 17) (args := #[.pointer (some ⟨b0, 0, none⟩), .int .i64 a1]) (by kernel_rfl) (calls_of_WC (vs := [.pointer (some ⟨b0, 0, none⟩), .int .i64 a1]) Try.func17 (c := C17) (n := 31) (by kernel_rfl) (by kernel_rfl) (by kernel_rfl) ?_) (fun _ _ h => h))
  refine WC.seq (by kernel_rfl) ?_
  refine WC.reg [0, 1, 2] (by kernel_rfl) (by kernel_rfl) ?_
  refine WR.runk [] [0, 1, 2] [0, 1] (L' := [(0, .pointer (some ⟨b0, 0, none⟩)), (1, .int .i64 a1)]) (w' := w0) (by kernel_rfl) ?_
  refine WR.st (St.box hS (by kernel_rfl) (.cells #[.int .i64 a1] 3) (fun b1 => .pointer (some ⟨b1, 0, none⟩)) (fun _ => by kernel_rfl) (fun b1 w2 hS => ?_))
  refine WR.runk [1, 2] [] [0, 3] (L' := [(0, .pointer (some ⟨b0, 0, none⟩)), (3, .pointer (some ⟨b1, 0, none⟩))]) (w' := w2) (by kernel_rfl) ?_
  refine WR.nil ?_
  refine At.go ?_
  refine WC.seq (by kernel_rfl) ?_
  refine WC.seq (by kernel_rfl) ?_
  refine WC.reg [0, 1] (by kernel_rfl) (by kernel_rfl) ?_
  refine WR.runk [0, 1] [] [0, 3, 10] (L' := [(0, .pointer (some ⟨b0, 0, none⟩)), (3, .pointer (some ⟨b1, 0, none⟩)), (10, .bool false)]) (w' := w2) (by kernel_rfl) ?_
  refine WR.nil ?_
  refine At.go ?_
  refine WC.condF (by kernel_rfl) (by kernel_rfl) (by kernel_rfl) ?_
  refine WC.skip (by kernel_rfl) ?_
  refine At.go ?_
  refine WC.seq (by kernel_rfl) ?_
  refine WC.seq (by kernel_rfl) ?_
  refine WC.reg [0, 1, 2, 3, 4, 5] (by kernel_rfl) (by kernel_rfl) ?_
  refine WR.runk [0, 1, 2] [3, 4, 5] [3, 13] (L' := [(3, .pointer (some ⟨b1, 0, none⟩)), (13, .pointer (some ⟨b0, 1, none⟩))]) (w' := w2) (by kernel_rfl) ?_
  have hS : Sat w2 B [O46 b0 p0, pts b1 (.cells #[.int .i64 a1] 3 (0, 0))] := hS.sel [1, 0] (by kernel_rfl)
  obtain ⟨A4, c5, hS⟩ := O46.open hS
  have hS : Sat w2 B [pts b0 (.cells #[.int .i64 p0.1, .slice A4 p0.2.1.length c5, .int .i64 p0.2.2.1, .bool p0.2.2.2.1, .int .i64 p0.2.2.2.2.1, .bool p0.2.2.2.2.2] 46 (0, 0)), orw 47 (Ept O50) 1 A4 c5 p0.2.1, pts b1 (.cells #[.int .i64 a1] 3 (0, 0))] := hS
  refine WR.st (St.ofR (RSt.loadObj (t := 44) (k := 1) (v := .slice A4 p0.2.1.length c5) (.tmp 13) (by kernel_rfl) (by kernel_rfl) (by kernel_rfl) 0 hS rfl (by kernel_rfl) rfl ?_))
  refine WR.runk [4, 5] [] [3, 14, 15, 16] (L' := [(3, .pointer (some ⟨b1, 0, none⟩)), (14, .slice A4 p0.2.1.length c5), (15, .int .i64 (p0.2.1.length : Int)), (16, .int .i64 0)]) (w' := w2) (by kernel_rfl) ?_
  refine WR.nil ?_
  refine At.go ?_
  refine WC.block (by kernel_rfl) ?_
  have hS : Sat w2 B [orw 47 (Ept O50) 1 A4 c5 p0.2.1, pts b0 (.cells #[.int .i64 p0.1, .slice A4 p0.2.1.length c5, .int .i64 p0.2.2.1, .bool p0.2.2.2.1, .int .i64 p0.2.2.2.2.1, .bool p0.2.2.2.2.2] 46 (0, 0)), pts b1 (.cells #[.int .i64 a1] 3 (0, 0))] := hS.sel [1, 0, 2] (by kernel_rfl)
  obtain ⟨K6, hK7, hS⟩ := Sat.gho hS
  have hS : Sat w2 B [gh K6, pts b0 (.cells #[.int .i64 p0.1, .slice A4 p0.2.1.length c5, .int .i64 p0.2.2.1, .bool p0.2.2.2.1, .int .i64 p0.2.2.2.2.1, .bool p0.2.2.2.2.2] 46 (0, 0)), pts b1 (.cells #[.int .i64 a1] 3 (0, 0))] := hS
  have R8 : rdS (rd K6 (.ptr 50 (.pair (.int .i64) (.pair (.int .i64) (.pair (.int .i64) (.slice 55 (.pair (.int .i64) .bool))))))) 1 K6 A4 c5 p0.2.1 := orw.rdS (κ := (.ptr 50 (.pair (.int .i64) (.pair (.int .i64) (.pair (.int .i64) (.slice 55 (.pair (.int .i64) .bool))))))) (Ept.rd (t := 50) (κ := (.pair (.int .i64) (.pair (.int .i64) (.pair (.int .i64) (.slice 55 (.pair (.int .i64) .bool)))))) (O := O50) O50.rd) hK7
  obtain ⟨css9, hC10⟩ := orw.named hK7
  have hS : Sat w2 B [gh K6, pts b1 (.cells #[.int .i64 a1] 3 (0, 0)), pts b0 (.cells #[.int .i64 p0.1, .slice A4 p0.2.1.length c5, .int .i64 p0.2.2.1, .bool p0.2.2.2.1, .int .i64 p0.2.2.2.2.1, .bool p0.2.2.2.2.2] 46 (0, 0))] := hS.sel [0, 2, 1] (by kernel_rfl)
  obtain ⟨o48, e49, H⟩ := bind_ex H
  refine WC.loop (by kernel_rfl) ?_
  refine WL.weaken [3, 14, 15, 16] (L' := [(3, .pointer (some ⟨b1, 0, none⟩)), (14, .slice A4 p0.2.1.length c5), (15, .int .i64 (p0.2.1.length : Int)), (16, .int .i64 0)]) (by kernel_rfl) ?_
  refine fair_Ring_Hold.l1_ok B b0 p0 a1 b1 A4 c5 K6 css9 R8 hC10 o48 (fun o50 u4_q51 w52 ho53 hS C4_q51 => ?_) (fun o79 w81 ho82 hS => ?_) FU 0 _ hS e49
  · subst ho53
    dsimp only at H
    refine At.blockRet ?_
    refine At.thenRet ?_
    refine At.bodyK [u4_q51, .int .i64 o50.2] (.tuple #[u4_q51, .int .i64 o50.2]) (by kernel_rfl) rfl ?_
    refine WR.runk [3, 4, 5, 6, 7] [] [2, 7, 8] (L' := [(2, .bool a2), (7, u4_q51), (8, .int .i64 o50.2)]) (w' := w52) (by kernel_rfl) ?_
    refine WR.nil ?_
    refine At.go ?_
    refine WC.seq (by kernel_rfl) ?_
    refine WC.seq (by kernel_rfl) ?_
    refine WC.reg [0, 1] (by kernel_rfl) (by kernel_rfl) ?_
    refine WR.runk [0, 1] [] [2, 7, 8, 16] (L' := [(2, .bool a2), (7, u4_q51), (8, .int .i64 o50.2), (16, .bool (decide (o50.2 ≥ 0)))]) (w' := w52) (by kernel_rfl) ?_
    refine WR.nil ?_
    refine At.go ?_
    refine WC.cond (by kernel_rfl) (decide (o50.2 ≥ 0)) (by kernel_rfl) (by kernel_rfl) (fun hb54 => ?_) (fun hb54 => ?_)
    · replace H := ite_t H hb54
      refine WC.reg [0, 1, 2, 3, 4, 5, 6, 7, 8] (by kernel_rfl) (by kernel_rfl) ?_
      refine WR.runk [0] [1, 2, 3, 4, 5, 6, 7, 8] [2, 8, 17] (L' := [(2, .bool a2), (8, .int .i64 o50.2), (17, u4_q51)]) (w' := w52) (by kernel_rfl) ?_
      obtain ⟨v55, e56, H⟩ := bind_ex H
      have R57 : rd K6 (.ptr 50 (.pair (.int .i64) (.pair (.int .i64) (.pair (.int .i64) (.slice 55 (.pair (.int .i64) .bool)))))) [u4_q51] v55 := orc.elem (κ := (.ptr 50 (.pair (.int .i64) (.pair (.int .i64) (.pair (.int .i64) (.slice 55 (.pair (.int .i64) .bool))))))) (Ept.rd (t := 50) (κ := (.pair (.int .i64) (.pair (.int .i64) (.pair (.int .i64) (.slice 55 (.pair (.int .i64) .bool)))))) (O := O50) O50.rd) hC10 C4_q51 (at?_idx e56)
      refine WR.runk [] [1, 2, 3, 4, 5, 6, 7, 8] [2, 8, 17] (L' := [(2, .bool a2), (8, .int .i64 o50.2), (17, u4_q51)]) (w' := w52) (by kernel_rfl) ?_
      obtain ⟨y60, hr58, H⟩ := bind_ex H
      obtain ⟨b61, fr62, A66, c67, hv63, hb64, R68⟩ := P50.open R57 hr58
      have R65 := R57
      rw [hv63, hr58] at R65
      have C69 : css9[(o50.1).toNat]? = some [.pointer (some ⟨b61, 0, none⟩)] := by rw [← hv63]; exact C4_q51
      try subst hv63
      replace R68 : rdS (r0 (.pair (.int .i64) .bool)) 2 K6 A66 c67 y60.2.2.2 := R68
      refine WR.runk [1, 2] [3, 4, 5, 6, 7, 8] [2, 8, 19] (L' := [(2, .bool a2), (8, .int .i64 o50.2), (19, .pointer (some ⟨b61, 3, none⟩))]) (w' := w52) (by kernel_rfl) ?_
      have hS : Sat w52 B [orh 47 (Ept O50) 1 A4 c5 css9 ((o50.1).toNat) p0.2.1, O50 b61 y60, pts b1 (.cells #[.int .i64 a1] 3 (0, 0)), pts b0 (.cells #[.int .i64 p0.1, .slice A4 p0.2.1.length c5, .int .i64 p0.2.2.1, .bool p0.2.2.2.1, .int .i64 p0.2.2.2.2.1, .bool p0.2.2.2.2.2] 46 (0, 0))] := Sat.focusP hC10 hS C69 ((at?_idx e56).trans (by rw [hr58]))
      have hS : Sat w52 B [O50 b61 y60, orh 47 (Ept O50) 1 A4 c5 css9 ((o50.1).toNat) p0.2.1, pts b1 (.cells #[.int .i64 a1] 3 (0, 0)), pts b0 (.cells #[.int .i64 p0.1, .slice A4 p0.2.1.length c5, .int .i64 p0.2.2.1, .bool p0.2.2.2.1, .int .i64 p0.2.2.2.2.1, .bool p0.2.2.2.2.2] 46 (0, 0))] := hS.sel [1, 0, 2, 3] (by kernel_rfl)
      obtain ⟨A71, c72, hS⟩ := O50.open hS
      have hS : Sat w52 B [pts b61 (.cells #[.int .i64 y60.1, .int .i64 y60.2.1, .int .i64 y60.2.2.1, .slice A71 y60.2.2.2.length c72] 50 (0, 0)), osl 55 (r0 (.pair (.int .i64) .bool)) 2 A71 c72 y60.2.2.2, orh 47 (Ept O50) 1 A4 c5 css9 ((o50.1).toNat) p0.2.1, pts b1 (.cells #[.int .i64 a1] 3 (0, 0)), pts b0 (.cells #[.int .i64 p0.1, .slice A4 p0.2.1.length c5, .int .i64 p0.2.2.1, .bool p0.2.2.2.1, .int .i64 p0.2.2.2.2.1, .bool p0.2.2.2.2.2] 46 (0, 0))] := hS
      refine WR.st (St.ofR (RSt.loadObj (t := 48) (k := 3) (v := .slice A71 y60.2.2.2.length c72) (.tmp 19) (by kernel_rfl) (by kernel_rfl) (by kernel_rfl) 0 hS rfl (by kernel_rfl) rfl ?_))
      refine WR.runk [4, 5] [6, 7, 8] [8, 20, 21, 22] (L' := [(8, .int .i64 o50.2), (20, .slice A71 y60.2.2.2.length c72), (21, .int .i64 o50.2), (22, .bool a2)]) (w' := w52) (by kernel_rfl) ?_
      obtain ⟨v73, e74, H⟩ := bind_ex H
      refine WR.st (St.ofP (PSt.idx (k := .i64) (.tmp 20) (.tmp 21) (by kernel_rfl) (by kernel_rfl) E48 (by kernel_rfl) (by kernel_rfl) (Sat.rdAt 1 hS rfl) e74 ?_))
      refine WR.runk [7] [8] [8, 22, 24] (L' := [(8, .int .i64 o50.2), (22, .bool a2), (24, .pointer (some ((adr A71 (o50.2).toNat 2).add 1)))]) (w' := w52) (by kernel_rfl) ?_
      have hS : Sat w52 B [osl 55 (r0 (.pair (.int .i64) .bool)) 2 A71 c72 y60.2.2.2, pts b61 (.cells #[.int .i64 y60.1, .int .i64 y60.2.1, .int .i64 y60.2.2.1, .slice A71 y60.2.2.2.length c72] 50 (0, 0)), orh 47 (Ept O50) 1 A4 c5 css9 ((o50.1).toNat) p0.2.1, pts b1 (.cells #[.int .i64 a1] 3 (0, 0)), pts b0 (.cells #[.int .i64 p0.1, .slice A4 p0.2.1.length c5, .int .i64 p0.2.2.1, .bool p0.2.2.2.1, .int .i64 p0.2.2.2.2.1, .bool p0.2.2.2.2.2] 46 (0, 0))] := hS.sel [1, 0, 2, 3, 4] (by kernel_rfl)
      refine WR.st (St.storePart (t := 4) (κ := (.pair (.int .i64) .bool)) (v' := (v73.1, a2)) (.tmp 24) (.tmp 22) 1 (by kernel_rfl) (by kernel_rfl) (by kernel_rfl) (by kernel_rfl) hS (by kernel_rfl) (by kernel_rfl) (by kernel_rfl) (by kernel_rfl) e74 rfl (fun w75 hS => ?_))
      have hS : Sat w75 B [osl 55 (r0 (.pair (.int .i64) .bool)) 2 A71 c72 (List.set y60.2.2.2 (o50.2).toNat (v73.1, a2)), pts b61 (.cells #[.int .i64 y60.1, .int .i64 y60.2.1, .int .i64 y60.2.2.1, .slice A71 y60.2.2.2.length c72] 50 (0, 0)), orh 47 (Ept O50) 1 A4 c5 css9 ((o50.1).toNat) p0.2.1, pts b1 (.cells #[.int .i64 a1] 3 (0, 0)), pts b0 (.cells #[.int .i64 p0.1, .slice A4 p0.2.1.length c5, .int .i64 p0.2.2.1, .bool p0.2.2.2.1, .int .i64 p0.2.2.2.2.1, .bool p0.2.2.2.2.2] 46 (0, 0))] := hS
      have hl76 : List.length (List.set y60.2.2.2 (o50.2).toNat (v73.1, a2)) = List.length y60.2.2.2 := List.length_set
      have hS : Sat w75 B [osl 55 (r0 (.pair (.int .i64) .bool)) 2 A71 c72 (List.set y60.2.2.2 (o50.2).toNat (v73.1, a2)), pts b61 (.cells #[.int .i64 y60.1, .int .i64 y60.2.1, .int .i64 y60.2.2.1, .slice A71 (List.set y60.2.2.2 (o50.2).toNat (v73.1, a2)).length c72] 50 (0, 0)), orh 47 (Ept O50) 1 A4 c5 css9 ((o50.1).toNat) p0.2.1, pts b1 (.cells #[.int .i64 a1] 3 (0, 0)), pts b0 (.cells #[.int .i64 p0.1, .slice A4 p0.2.1.length c5, .int .i64 p0.2.2.1, .bool p0.2.2.2.1, .int .i64 p0.2.2.2.2.1, .bool p0.2.2.2.2.2] 46 (0, 0))] := by simpa only [hl76] using hS
      refine WR.runk [] [] [8] (L' := [(8, .int .i64 o50.2)]) (w' := w75) (by kernel_rfl) ?_
      refine WR.nil ?_
      refine At.go ?_
      refine WC.seq (by kernel_rfl) ?_
      refine WC.reg [0, 1, 2] (by kernel_rfl) (by kernel_rfl) ?_
      refine WR.runk [0, 1, 2] [] [6] (L' := [(6, .bool (decide (o50.2 ≥ 0)))]) (w' := w75) (by kernel_rfl) ?_
      refine WR.nil ?_
      refine At.go ?_
      refine WC.ret (by kernel_rfl) ?_
      obtain rfl := Option.some.inj H
      have hS : Sat w75 B [pts b61 (.cells #[.int .i64 y60.1, .int .i64 y60.2.1, .int .i64 y60.2.2.1, .slice A71 (List.set y60.2.2.2 (o50.2).toNat (v73.1, a2)).length c72] 50 (0, 0)), osl 55 (r0 (.pair (.int .i64) .bool)) 2 A71 c72 (List.set y60.2.2.2 (o50.2).toNat (v73.1, a2)), orh 47 (Ept O50) 1 A4 c5 css9 ((o50.1).toNat) p0.2.1, pts b1 (.cells #[.int .i64 a1] 3 (0, 0)), pts b0 (.cells #[.int .i64 p0.1, .slice A4 p0.2.1.length c5, .int .i64 p0.2.2.1, .bool p0.2.2.2.1, .int .i64 p0.2.2.2.2.1, .bool p0.2.2.2.2.2] 46 (0, 0))] := hS.sel [1, 0, 2, 3, 4] (by kernel_rfl)
      have hS : Sat w75 B [O50 b61 (y60.1, y60.2.1, y60.2.2.1, (List.set y60.2.2.2 (o50.2).toNat (v73.1, a2))), orh 47 (Ept O50) 1 A4 c5 css9 ((o50.1).toNat) p0.2.1, pts b1 (.cells #[.int .i64 a1] 3 (0, 0)), pts b0 (.cells #[.int .i64 p0.1, .slice A4 p0.2.1.length c5, .int .i64 p0.2.2.1, .bool p0.2.2.2.1, .int .i64 p0.2.2.2.2.1, .bool p0.2.2.2.2.2] 46 (0, 0))] := O50.close (y60.1, y60.2.1, y60.2.2.1, (List.set y60.2.2.2 (o50.2).toNat (v73.1, a2))) A71 c72 hS
      have hS : Sat w75 B [orh 47 (Ept O50) 1 A4 c5 css9 ((o50.1).toNat) p0.2.1, O50 b61 (y60.1, y60.2.1, y60.2.2.1, (List.set y60.2.2.2 (o50.2).toNat (v73.1, a2))), pts b1 (.cells #[.int .i64 a1] 3 (0, 0)), pts b0 (.cells #[.int .i64 p0.1, .slice A4 p0.2.1.length c5, .int .i64 p0.2.2.1, .bool p0.2.2.2.1, .int .i64 p0.2.2.2.2.1, .bool p0.2.2.2.2.2] 46 (0, 0))] := hS.sel [1, 0, 2, 3] (by kernel_rfl)
      have hS : Sat w75 B [orw 47 (Ept O50) 1 A4 c5 (List.set p0.2.1 ((o50.1).toNat) (some (y60.1, y60.2.1, y60.2.2.1, (List.set y60.2.2.2 (o50.2).toNat (v73.1, a2))))), pts b1 (.cells #[.int .i64 a1] 3 (0, 0)), pts b0 (.cells #[.int .i64 p0.1, .slice A4 p0.2.1.length c5, .int .i64 p0.2.2.1, .bool p0.2.2.2.1, .int .i64 p0.2.2.2.2.1, .bool p0.2.2.2.2.2] 46 (0, 0))] := Sat.fillP hS C69
      have hl78 : List.length (List.set p0.2.1 ((o50.1).toNat) (some (y60.1, y60.2.1, y60.2.2.1, (List.set y60.2.2.2 (o50.2).toNat (v73.1, a2))))) = List.length p0.2.1 := List.length_set
      have hS : Sat w75 B [orw 47 (Ept O50) 1 A4 c5 (List.set p0.2.1 ((o50.1).toNat) (some (y60.1, y60.2.1, y60.2.2.1, (List.set y60.2.2.2 (o50.2).toNat (v73.1, a2))))), pts b1 (.cells #[.int .i64 a1] 3 (0, 0)), pts b0 (.cells #[.int .i64 p0.1, .slice A4 (List.set p0.2.1 ((o50.1).toNat) (some (y60.1, y60.2.1, y60.2.2.1, (List.set y60.2.2.2 (o50.2).toNat (v73.1, a2))))).length c5, .int .i64 p0.2.2.1, .bool p0.2.2.2.1, .int .i64 p0.2.2.2.2.1, .bool p0.2.2.2.2.2] 46 (0, 0))] := by simpa only [hl78] using hS
      have hS : Sat w75 B [pts b0 (.cells #[.int .i64 p0.1, .slice A4 (List.set p0.2.1 ((o50.1).toNat) (some (y60.1, y60.2.1, y60.2.2.1, (List.set y60.2.2.2 (o50.2).toNat (v73.1, a2))))).length c5, .int .i64 p0.2.2.1, .bool p0.2.2.2.1, .int .i64 p0.2.2.2.2.1, .bool p0.2.2.2.2.2] 46 (0, 0)), orw 47 (Ept O50) 1 A4 c5 (List.set p0.2.1 ((o50.1).toNat) (some (y60.1, y60.2.1, y60.2.2.1, (List.set y60.2.2.2 (o50.2).toNat (v73.1, a2))))), pts b1 (.cells #[.int .i64 a1] 3 (0, 0))] := hS.sel [2, 0, 1] (by kernel_rfl)
      have hS : Sat w75 B [O46 b0 (p0.1, (List.set p0.2.1 ((o50.1).toNat) (some (y60.1, y60.2.1, y60.2.2.1, (List.set y60.2.2.2 (o50.2).toNat (v73.1, a2))))), p0.2.2.1, p0.2.2.2.1, p0.2.2.2.2.1, p0.2.2.2.2.2), pts b1 (.cells #[.int .i64 a1] 3 (0, 0))] := O46.close (p0.1, (List.set p0.2.1 ((o50.1).toNat) (some (y60.1, y60.2.1, y60.2.2.1, (List.set y60.2.2.2 (o50.2).toNat (v73.1, a2))))), p0.2.2.1, p0.2.2.2.1, p0.2.2.2.2.1, p0.2.2.2.2.2) A4 c5 hS
      have hS : Sat w75 B [O46 b0 (p0.1, (List.set p0.2.1 ((o50.1).toNat) (some (y60.1, y60.2.1, y60.2.2.1, (List.set y60.2.2.2 (o50.2).toNat (v73.1, a2))))), p0.2.2.1, p0.2.2.2.1, p0.2.2.2.2.1, p0.2.2.2.2.2)] := hS.sel [0] (by kernel_rfl)
      exact At.body [.bool (decide (o50.2 ≥ 0))] (by kernel_rfl) ⟨_, rfl, rfl, hS⟩
    · replace H := ite_f H hb54
      refine WC.skip (by kernel_rfl) ?_
      refine At.go ?_
      refine WC.seq (by kernel_rfl) ?_
      refine WC.reg [0, 1, 2] (by kernel_rfl) (by kernel_rfl) ?_
      refine WR.runk [0, 1, 2] [] [6] (L' := [(6, .bool (decide (o50.2 ≥ 0)))]) (w' := w52) (by kernel_rfl) ?_
      refine WR.nil ?_
      refine At.go ?_
      refine WC.ret (by kernel_rfl) ?_
      obtain rfl := Option.some.inj H
      have hS : Sat w52 B [orw 47 (Ept O50) 1 A4 c5 p0.2.1, pts b1 (.cells #[.int .i64 a1] 3 (0, 0)), pts b0 (.cells #[.int .i64 p0.1, .slice A4 p0.2.1.length c5, .int .i64 p0.2.2.1, .bool p0.2.2.2.1, .int .i64 p0.2.2.2.2.1, .bool p0.2.2.2.2.2] 46 (0, 0))] := Sat.ungh hK7 hS
      have hS : Sat w52 B [pts b0 (.cells #[.int .i64 p0.1, .slice A4 p0.2.1.length c5, .int .i64 p0.2.2.1, .bool p0.2.2.2.1, .int .i64 p0.2.2.2.2.1, .bool p0.2.2.2.2.2] 46 (0, 0)), orw 47 (Ept O50) 1 A4 c5 p0.2.1, pts b1 (.cells #[.int .i64 a1] 3 (0, 0))] := hS.sel [2, 0, 1] (by kernel_rfl)
      have hS : Sat w52 B [O46 b0 p0, pts b1 (.cells #[.int .i64 a1] 3 (0, 0))] := O46.close p0 A4 c5 hS
      have hS : Sat w52 B [O46 b0 p0] := hS.sel [0] (by kernel_rfl)
      exact At.body [.bool (decide (o50.2 ≥ 0))] (by kernel_rfl) ⟨_, rfl, rfl, hS⟩
  · subst ho82
    dsimp only at H
    refine At.hit ?_
    refine At.go ?_
    refine WC.seq (by kernel_rfl) ?_
    refine WC.reg [0, 1] (by kernel_rfl) (by kernel_rfl) ?_
    refine WR.runk [0, 1] [] [4, 5] (L' := [(4, .pointer none), (5, .int .i64 (-1))]) (w' := w81) (by kernel_rfl) ?_
    refine WR.nil ?_
    refine At.go ?_
    refine WC.ret (by kernel_rfl) ?_
    refine At.bodyK [.pointer none, .int .i64 (-1)] (.tuple #[.pointer none, .int .i64 (-1)]) (by kernel_rfl) rfl ?_
    refine WR.runk [3, 4, 5, 6, 7] [] [2, 7, 8] (L' := [(2, .bool a2), (7, .pointer none), (8, .int .i64 (-1))]) (w' := w81) (by kernel_rfl) ?_
    refine WR.nil ?_
    refine At.go ?_
    refine WC.seq (by kernel_rfl) ?_
    refine WC.seq (by kernel_rfl) ?_
    refine WC.reg [0, 1] (by kernel_rfl) (by kernel_rfl) ?_
    refine WR.runk [0, 1] [] [2, 7, 8, 16] (L' := [(2, .bool a2), (7, .pointer none), (8, .int .i64 (-1)), (16, .bool (decide ((-1) ≥ 0)))]) (w' := w81) (by kernel_rfl) ?_
    refine WR.nil ?_
    refine At.go ?_
    refine WC.cond (by kernel_rfl) (decide ((-1) ≥ 0)) (by kernel_rfl) (by kernel_rfl) (fun hb83 => ?_) (fun hb83 => ?_)
    · replace H := ite_t H hb83
      refine WC.reg [0, 1, 2, 3, 4, 5, 6, 7, 8] (by kernel_rfl) (by kernel_rfl) ?_
      refine WR.runk [0] [1, 2, 3, 4, 5, 6, 7, 8] [2, 8, 17] (L' := [(2, .bool a2), (8, .int .i64 (-1)), (17, .pointer none)]) (w' := w81) (by kernel_rfl) ?_
      exact absurd (show none = some _ from H) (by simp)
    · replace H := ite_f H hb83
      refine WC.skip (by kernel_rfl) ?_
      refine At.go ?_
      refine WC.seq (by kernel_rfl) ?_
      refine WC.reg [0, 1, 2] (by kernel_rfl) (by kernel_rfl) ?_
      refine WR.runk [0, 1, 2] [] [6] (L' := [(6, .bool (decide ((-1) ≥ 0)))]) (w' := w81) (by kernel_rfl) ?_
      refine WR.nil ?_
      refine At.go ?_
      refine WC.ret (by kernel_rfl) ?_
      obtain rfl := Option.some.inj H
      have hS : Sat w81 B [gh K6, pts b1 (.cells #[.int .i64 a1] 3 (0, 0)), pts b0 (.cells #[.int .i64 p0.1, .slice A4 p0.2.1.length c5, .int .i64 p0.2.2.1, .bool p0.2.2.2.1, .int .i64 p0.2.2.2.2.1, .bool p0.2.2.2.2.2] 46 (0, 0))] := hS.sel [2, 0, 1] (by kernel_rfl)
      have hS : Sat w81 B [orw 47 (Ept O50) 1 A4 c5 p0.2.1, pts b1 (.cells #[.int .i64 a1] 3 (0, 0)), pts b0 (.cells #[.int .i64 p0.1, .slice A4 p0.2.1.length c5, .int .i64 p0.2.2.1, .bool p0.2.2.2.1, .int .i64 p0.2.2.2.2.1, .bool p0.2.2.2.2.2] 46 (0, 0))] := Sat.ungh hK7 hS
      have hS : Sat w81 B [pts b0 (.cells #[.int .i64 p0.1, .slice A4 p0.2.1.length c5, .int .i64 p0.2.2.1, .bool p0.2.2.2.1, .int .i64 p0.2.2.2.2.1, .bool p0.2.2.2.2.2] 46 (0, 0)), orw 47 (Ept O50) 1 A4 c5 p0.2.1, pts b1 (.cells #[.int .i64 a1] 3 (0, 0))] := hS.sel [2, 0, 1] (by kernel_rfl)
      have hS : Sat w81 B [O46 b0 p0, pts b1 (.cells #[.int .i64 a1] 3 (0, 0))] := O46.close p0 A4 c5 hS
      have hS : Sat w81 B [O46 b0 p0] := hS.sel [0] (by kernel_rfl)
      exact At.body [.bool (decide ((-1) ≥ 0))] (by kernel_rfl) ⟨_, rfl, rfl, hS⟩
/-! ### 14 (*colophon/fair.Ring).Take -/
def fair_Ring_Take.l2 (a1 : Int) (y19 : Int × Int × Int × (List (Int × Bool))) : Nat → Int → Option (Sum Int Unit)
  | 0, _ => none
  | k + 1, x8_l2 => (if decide (x8_l2 < (y19.2.2.2.length : Int)) then ((at? y19.2.2.2 x8_l2).bind fun v30 => (if (v30.1 == a1) then some (.inl x8_l2) else fair_Ring_Take.l2 a1 y19 k (wi (x8_l2 + 1)))) else some (.inr ()))
def fair_Ring_Take.l1 (p0 : Int × (List (Option (Int × Int × Int × (List (Int × Bool))))) × Int × Bool × Int × Bool) (a1 : Int) : Nat → Int → Option (Sum (Int × Int) Unit)
  | 0, _ => none
  | k + 1, x16_l1 => (if decide (x16_l1 < (p0.2.1.length : Int)) then ((at? p0.2.1 x16_l1).bind fun v12 => (v12.bind fun y19 => ((fair_Ring_Take.l2 a1 y19 FU 0).bind fun o36 => (match o36 with | .inl o38 => (if decide (o38 ≥ 0) then some (.inl (x16_l1, o38)) else fair_Ring_Take.l1 p0 a1 k (wi (x16_l1 + 1))) | .inr o43 => (if decide ((-1) ≥ 0) then some (.inl (x16_l1, (-1))) else fair_Ring_Take.l1 p0 a1 k (wi (x16_l1 + 1))))))) else some (.inr ()))
def fair_Ring_Take.f (p0 : Int × (List (Option (Int × Int × Int × (List (Int × Bool))))) × Int × Bool × Int × Bool) (a1 : Int) : Option (Bool × (Int × (List (Option (Int × Int × Int × (List (Int × Bool))))) × Int × Bool × Int × Bool)) := ((fair_Ring_Take.l1 p0 a1 FU 0).bind fun o48 => (match o48 with | .inl o50 => (if decide (o50.2 < 0) then some (false, p0) else ((at? p0.2.1 o50.1).bind fun v55 => (v55.bind fun y60 => ((slices_Delete.f y60.2.2.2 o50.2 (wi (o50.2 + 1))).bind fun r73 => (if (p0.2.2.2.2.1 == a1) then some (true, (p0.1, (List.set p0.2.1 ((o50.1).toNat) (some (y60.1, y60.2.1, y60.2.2.1, r73))), p0.2.2.1, p0.2.2.2.1, p0.2.2.2.2.1, false)) else some (true, (p0.1, (List.set p0.2.1 ((o50.1).toNat) (some (y60.1, y60.2.1, y60.2.2.1, r73))), p0.2.2.1, p0.2.2.2.1, p0.2.2.2.2.1, p0.2.2.2.2.2))))))) | .inr o91 => (if decide ((-1) < 0) then some (false, p0) else none)))
def fair_Ring_Take.post (B : Rf) (b0 : Nat) (p0 : Int × (List (Option (Int × Int × Int × (List (Int × Bool))))) × Int × Bool × Int × Bool) (w : World) (r : Bool × (Int × (List (Option (Int × Int × Int × (List (Int × Bool))))) × Int × Bool × Int × Bool)) (v : Value) (w' : World) : Prop := v = (.bool r.1 : Value) ∧ Sat w' B [O46 b0 r.2]
theorem fair_Ring_Take.l2_ok {Q} (B : Rf) (b0 : Nat) (p0 : Int × (List (Option (Int × Int × Int × (List (Int × Bool))))) × Int × Bool × Int × Bool) (a1 : Int) (b1 : Nat) (A4 : Option Addr) (c5 : Nat) (K6 : Heap) (y19 : Int × Int × Int × (List (Int × Bool))) (A25 : Option Addr) (c26 : Nat) (R27 : rdS (r0 (.pair (.int .i64) .bool)) 2 K6 A25 c26 y19.2.2.2) (out : Sum Int Unit) (hn0 : ∀ (o0 : Int) (w : World), out = (.inl o0) → Sat w B [pts b0 (.cells #[.int .i64 p0.1, .slice A4 p0.2.1.length c5, .int .i64 p0.2.2.1, .bool p0.2.2.2.1, .int .i64 p0.2.2.2.2.1, .bool p0.2.2.2.2.2] 46 (0, 0)), gh K6, pts b1 (.cells #[.int .i64 a1] 3 (0, 0))] → At Q .ret 19 [(4, .int .i64 o0)] w) (hn1 : ∀ (o1 : Unit) (w : World), out = (.inr o1) → Sat w B [pts b0 (.cells #[.int .i64 p0.1, .slice A4 p0.2.1.length c5, .int .i64 p0.2.2.1, .bool p0.2.2.2.1, .int .i64 p0.2.2.2.2.1, .bool p0.2.2.2.2.2] 46 (0, 0)), gh K6, pts b1 (.cells #[.int .i64 a1] 3 (0, 0))] → At Q (.exit 0) 19 [] w) :
    ∀ (k : Nat) (x8_l2 : Int) (w : World), Sat w B [gh K6, pts b0 (.cells #[.int .i64 p0.1, .slice A4 p0.2.1.length c5, .int .i64 p0.2.2.1, .bool p0.2.2.2.1, .int .i64 p0.2.2.2.2.1, .bool p0.2.2.2.2.2] 46 (0, 0)), pts b1 (.cells #[.int .i64 a1] 3 (0, 0))] → fair_Ring_Take.l2 a1 y19 k x8_l2 = some out → WL Try.prog (cbody (cbody (cr (cl (cr C22))))) Q 19 [(0, .slice A25 y19.2.2.2.length c26), (1, .func (.func 23) #[] #[.pointer (some ⟨b1, 0, none⟩)]), (7, .int .i64 (y19.2.2.2.length : Int)), (8, .int .i64 x8_l2)] w := by
  intro k
  induction k with
  | zero => intro x8_l2 w hS H; exact absurd (show none = some out from H) (by simp)
  | succ k ih =>
    intro x8_l2 w hS H
    unfold fair_Ring_Take.l2 at H
    refine WL.round ?_
    refine WC.seq (by kernel_rfl) ?_
    refine WC.reg [0] (by kernel_rfl) (by kernel_rfl) ?_
    refine WR.runk [0] [] [0, 1, 7, 8, 9] (L' := [(0, .slice A25 y19.2.2.2.length c26), (1, .func (.func 23) #[] #[.pointer (some ⟨b1, 0, none⟩)]), (7, .int .i64 (y19.2.2.2.length : Int)), (8, .int .i64 x8_l2), (9, .bool (decide (x8_l2 < (y19.2.2.2.length : Int))))]) (w' := w) (by kernel_rfl) ?_
    refine WR.nil ?_
    refine At.go ?_
    refine WC.seq (by kernel_rfl) ?_
    refine WC.cond (by kernel_rfl) (decide (x8_l2 < (y19.2.2.2.length : Int))) (by kernel_rfl) (by kernel_rfl) (fun hb29 => ?_) (fun hb29 => ?_)
    · replace H := ite_t H hb29
      refine WC.skip (by kernel_rfl) ?_
      refine At.go ?_
      refine WC.seq (by kernel_rfl) ?_
      refine WC.block (by kernel_rfl) ?_
      refine WC.seq (by kernel_rfl) ?_
      refine WC.reg [0, 1] (by kernel_rfl) (by kernel_rfl) ?_
      refine WR.runk [0, 1] [] [0, 1, 5, 7, 8] (L' := [(0, .slice A25 y19.2.2.2.length c26), (1, .func (.func 23) #[] #[.pointer (some ⟨b1, 0, none⟩)]), (5, .int .i64 x8_l2), (7, .int .i64 (y19.2.2.2.length : Int)), (8, .int .i64 x8_l2)]) (w' := w) (by kernel_rfl) ?_
      refine WR.nil ?_
      refine At.go ?_
      refine WC.seq (by kernel_rfl) ?_
      refine WC.reg [0, 1, 2, 3, 4, 5] (by kernel_rfl) (by kernel_rfl) ?_
      refine WR.runk [0, 1, 2] [3, 4, 5] [0, 1, 5, 7, 8, 11, 12, 13] (L' := [(0, .slice A25 y19.2.2.2.length c26), (1, .func (.func 23) #[] #[.pointer (some ⟨b1, 0, none⟩)]), (5, .int .i64 x8_l2), (7, .int .i64 (y19.2.2.2.length : Int)), (8, .int .i64 x8_l2), (11, .func (.func 23) #[] #[.pointer (some ⟨b1, 0, none⟩)]), (12, .slice A25 y19.2.2.2.length c26), (13, .int .i64 x8_l2)]) (w' := w) (by kernel_rfl) ?_
      obtain ⟨v30, e31, H⟩ := bind_ex H
      refine WR.st (St.ofP (PSt.idx (k := .i64) (.tmp 12) (.tmp 13) (by kernel_rfl) (by kernel_rfl) E48 (by kernel_rfl) (by kernel_rfl) (rdS.up R27 (Sat.ghAt 0 hS rfl)) e31 ?_))
      refine WR.runk [] [4, 5] [0, 1, 5, 7, 8, 11, 14] (L' := [(0, .slice A25 y19.2.2.2.length c26), (1, .func (.func 23) #[] #[.pointer (some ⟨b1, 0, none⟩)]), (5, .int .i64 x8_l2), (7, .int .i64 (y19.2.2.2.length : Int)), (8, .int .i64 x8_l2), (11, .func (.func 23) #[] #[.pointer (some ⟨b1, 0, none⟩)]), (14, .pointer (some (adr A25 x8_l2.toNat 2)))]) (w' := w) (by kernel_rfl) ?_
      refine WR.st (St.ofR (RSt.loadFlat (t := 55) (κ := (.pair (.int .i64) .bool)) (.tmp 14) (by kernel_rfl) (by kernel_rfl) (by kernel_rfl) (by kernel_rfl) (by kernel_rfl) (by kernel_rfl) (rdS.up R27 (Sat.ghAt 0 hS rfl)) e31 ?_))
      refine WR.runk [] [5] [0, 1, 5, 7, 8, 11, 15] (L' := [(0, .slice A25 y19.2.2.2.length c26), (1, .func (.func 23) #[] #[.pointer (some ⟨b1, 0, none⟩)]), (5, .int .i64 x8_l2), (7, .int .i64 (y19.2.2.2.length : Int)), (8, .int .i64 x8_l2), (11, .func (.func 23) #[] #[.pointer (some ⟨b1, 0, none⟩)]), (15, .agg #[.int .i64 v30.1, .bool v30.2])]) (w' := w) (by kernel_rfl) ?_
      refine WR.st (St.call (by kernel_rfl) (f := 23) (args := #[.agg #[.int .i64 v30.1, .bool v30.2], .pointer (some ⟨b1, 0, none⟩)]) (by kernel_rfl) (calls_of_WC (vs := [.agg #[.int .i64 v30.1, .bool v30.2], .pointer (some ⟨b1, 0, none⟩)]) Try.func23 (c := C23) (n := 8) (by kernel_rfl) (by kernel_rfl) (by kernel_rfl) ?_) (fun _ _ h => h))
      refine WC.seq (by kernel_rfl) ?_
      refine WC.reg [0, 1] (by kernel_rfl) (by kernel_rfl) ?_
      refine WR.runk [] [0, 1] [0, 1] (L' := [(0, .agg #[.int .i64 v30.1, .bool v30.2]), (1, .pointer (some ⟨b1, 0, none⟩))]) (w' := w) (by kernel_rfl) ?_
      refine WR.st (St.box hS (by kernel_rfl) (.cells #[.int .i64 v30.1, .bool v30.2] 55) (fun b32 => .pointer (some ⟨b32, 0, none⟩)) (fun _ => by kernel_rfl) (fun b32 w33 hS => ?_))
      refine WR.runk [1] [] [1, 2] (L' := [(1, .pointer (some ⟨b1, 0, none⟩)), (2, .pointer (some ⟨b32, 0, none⟩))]) (w' := w33) (by kernel_rfl) ?_
      refine WR.nil ?_
      refine At.go ?_
      refine WC.seq (by kernel_rfl) ?_
      refine WC.reg [0, 1, 2, 3, 4] (by kernel_rfl) (by kernel_rfl) ?_
      refine WR.runk [0] [1, 2, 3, 4] [1, 4] (L' := [(1, .pointer (some ⟨b1, 0, none⟩)), (4, .pointer (some ⟨b32, 0, none⟩))]) (w' := w33) (by kernel_rfl) ?_
      refine WR.st (St.ofR (RSt.loadObj (t := 3) (k := 0) (v := .int .i64 v30.1) (.tmp 4) (by kernel_rfl) (by kernel_rfl) (by kernel_rfl) 0 hS rfl (by kernel_rfl) rfl ?_))
      refine WR.runk [] [2, 3, 4] [1, 5] (L' := [(1, .pointer (some ⟨b1, 0, none⟩)), (5, .int .i64 v30.1)]) (w' := w33) (by kernel_rfl) ?_
      refine WR.st (St.ofR (RSt.loadObj (t := 3) (k := 0) (v := .int .i64 a1) (.tmp 1) (by kernel_rfl) (by kernel_rfl) (by kernel_rfl) 3 hS rfl (by kernel_rfl) rfl ?_))
      refine WR.runk [3, 4] [] [3] (L' := [(3, .bool (v30.1 == a1))]) (w' := w33) (by kernel_rfl) ?_
      refine WR.nil ?_
      refine At.go ?_
      refine WC.ret (by kernel_rfl) ?_
      refine At.bodyK [.bool (v30.1 == a1)] (.bool (v30.1 == a1)) (by kernel_rfl) rfl ?_
      refine WR.runk [] [] [0, 1, 5, 7, 8, 16] (L' := [(0, .slice A25 y19.2.2.2.length c26), (1, .func (.func 23) #[] #[.pointer (some ⟨b1, 0, none⟩)]), (5, .int .i64 x8_l2), (7, .int .i64 (y19.2.2.2.length : Int)), (8, .int .i64 x8_l2), (16, .bool (v30.1 == a1))]) (w' := w33) (by kernel_rfl) ?_
      refine WR.nil ?_
      refine At.go ?_
      refine WC.cond (by kernel_rfl) (v30.1 == a1) (by kernel_rfl) (by kernel_rfl) (fun hb35 => ?_) (fun hb35 => ?_)
      · replace H := ite_t H hb35
        refine WC.seq (by kernel_rfl) ?_
        refine WC.reg [0, 1] (by kernel_rfl) (by kernel_rfl) ?_
        refine WR.runk [0, 1] [] [4] (L' := [(4, .int .i64 x8_l2)]) (w' := w33) (by kernel_rfl) ?_
        refine WR.nil ?_
        refine At.go ?_
        refine WC.ret (by kernel_rfl) ?_
        refine At.blockRet ?_
        refine At.thenRet ?_
        refine At.thenRet ?_
        obtain rfl := Option.some.inj H
        have hS : Sat w33 B [pts b0 (.cells #[.int .i64 p0.1, .slice A4 p0.2.1.length c5, .int .i64 p0.2.2.1, .bool p0.2.2.2.1, .int .i64 p0.2.2.2.2.1, .bool p0.2.2.2.2.2] 46 (0, 0)), gh K6, pts b1 (.cells #[.int .i64 a1] 3 (0, 0))] := hS.sel [2, 1, 3] (by kernel_rfl)
        refine At.weaken [4] (L' := [(4, .int .i64 x8_l2)]) (by kernel_rfl) ?_
        exact hn0 x8_l2 _ rfl hS
      · replace H := ite_f H hb35
        refine WC.skip (by kernel_rfl) ?_
        refine At.blockNormal ?_
        refine At.go ?_
        refine WC.reg [0, 1] (by kernel_rfl) (by kernel_rfl) ?_
        refine WR.runk [0, 1] [] [0, 1, 7, 8] (L' := [(0, .slice A25 y19.2.2.2.length c26), (1, .func (.func 23) #[] #[.pointer (some ⟨b1, 0, none⟩)]), (7, .int .i64 (y19.2.2.2.length : Int)), (8, .int .i64 (wi (x8_l2 + 1)))]) (w' := w33) (by kernel_rfl) ?_
        refine WR.nil ?_
        have hS : Sat w33 B [gh K6, pts b0 (.cells #[.int .i64 p0.1, .slice A4 p0.2.1.length c5, .int .i64 p0.2.2.1, .bool p0.2.2.2.1, .int .i64 p0.2.2.2.2.1, .bool p0.2.2.2.2.2] 46 (0, 0)), pts b1 (.cells #[.int .i64 a1] 3 (0, 0))] := hS.sel [1, 2, 3] (by kernel_rfl)
        refine At.again ?_
        refine WL.weaken [0, 1, 7, 8] (L' := [(0, .slice A25 y19.2.2.2.length c26), (1, .func (.func 23) #[] #[.pointer (some ⟨b1, 0, none⟩)]), (7, .int .i64 (y19.2.2.2.length : Int)), (8, .int .i64 (wi (x8_l2 + 1)))]) (by kernel_rfl) ?_
        exact ih (wi (x8_l2 + 1)) _ hS H
    · replace H := ite_f H hb29
      refine WC.exit (by kernel_rfl) ?_
      refine At.thenExit ?_
      refine At.thenExit ?_
      obtain rfl := Option.some.inj H
      have hS : Sat w B [pts b0 (.cells #[.int .i64 p0.1, .slice A4 p0.2.1.length c5, .int .i64 p0.2.2.1, .bool p0.2.2.2.1, .int .i64 p0.2.2.2.2.1, .bool p0.2.2.2.2.2] 46 (0, 0)), gh K6, pts b1 (.cells #[.int .i64 a1] 3 (0, 0))] := hS.sel [1, 0, 2] (by kernel_rfl)
      refine At.weaken [] (L' := []) (by kernel_rfl) ?_
      exact hn1 () _ rfl hS
theorem fair_Ring_Take.l1_ok {Q} (B : Rf) (b0 : Nat) (p0 : Int × (List (Option (Int × Int × Int × (List (Int × Bool))))) × Int × Bool × Int × Bool) (a1 : Int) (b1 : Nat) (A4 : Option Addr) (c5 : Nat) (K6 : Heap) (css9 : List (List Value)) (R8 : rdS (rd K6 (.ptr 50 (.pair (.int .i64) (.pair (.int .i64) (.pair (.int .i64) (.slice 55 (.pair (.int .i64) .bool))))))) 1 K6 A4 c5 p0.2.1) (hC10 : orc 47 (Ept O50) 1 A4 c5 css9 p0.2.1 K6) (out : Sum (Int × Int) Unit) (hn0 : ∀ (o0 : Int × Int) (u4_q : Value) (w : World), out = (.inl o0) → Sat w B [gh K6, pts b1 (.cells #[.int .i64 a1] 3 (0, 0)), pts b0 (.cells #[.int .i64 p0.1, .slice A4 p0.2.1.length c5, .int .i64 p0.2.2.1, .bool p0.2.2.2.1, .int .i64 p0.2.2.2.2.1, .bool p0.2.2.2.2.2] 46 (0, 0))] → css9[(o0.1).toNat]? = some [u4_q] → At Q .ret 31 [(4, u4_q), (5, .int .i64 o0.2)] w) (hn1 : ∀ (o1 : Unit) (w : World), out = (.inr o1) → Sat w B [pts b1 (.cells #[.int .i64 a1] 3 (0, 0)), pts b0 (.cells #[.int .i64 p0.1, .slice A4 p0.2.1.length c5, .int .i64 p0.2.2.1, .bool p0.2.2.2.1, .int .i64 p0.2.2.2.2.1, .bool p0.2.2.2.2.2] 46 (0, 0)), gh K6] → At Q (.exit 0) 31 [] w) :
    ∀ (k : Nat) (x16_l1 : Int) (w : World), Sat w B [gh K6, pts b1 (.cells #[.int .i64 a1] 3 (0, 0)), pts b0 (.cells #[.int .i64 p0.1, .slice A4 p0.2.1.length c5, .int .i64 p0.2.2.1, .bool p0.2.2.2.1, .int .i64 p0.2.2.2.2.1, .bool p0.2.2.2.2.2] 46 (0, 0))] → fair_Ring_Take.l1 p0 a1 k x16_l1 = some out → WL Try.prog (cbody (cbody (cr (cl (cr (cr C17)))))) Q 31 [(3, .pointer (some ⟨b1, 0, none⟩)), (14, .slice A4 p0.2.1.length c5), (15, .int .i64 (p0.2.1.length : Int)), (16, .int .i64 x16_l1)] w := by
  intro k
  induction k with
  | zero => intro x16_l1 w hS H; exact absurd (show none = some out from H) (by simp)
  | succ k ih =>
    intro x16_l1 w hS H
    unfold fair_Ring_Take.l1 at H
    refine WL.round ?_
    refine WC.seq (by kernel_rfl) ?_
    refine WC.reg [0] (by kernel_rfl) (by kernel_rfl) ?_
    refine WR.runk [0] [] [3, 14, 15, 16, 17] (L' := [(3, .pointer (some ⟨b1, 0, none⟩)), (14, .slice A4 p0.2.1.length c5), (15, .int .i64 (p0.2.1.length : Int)), (16, .int .i64 x16_l1), (17, .bool (decide (x16_l1 < (p0.2.1.length : Int))))]) (w' := w) (by kernel_rfl) ?_
    refine WR.nil ?_
    refine At.go ?_
    refine WC.seq (by kernel_rfl) ?_
    refine WC.cond (by kernel_rfl) (decide (x16_l1 < (p0.2.1.length : Int))) (by kernel_rfl) (by kernel_rfl) (fun hb11 => ?_) (fun hb11 => ?_)
    · replace H := ite_t H hb11
      refine WC.skip (by kernel_rfl) ?_
      refine At.go ?_
      refine WC.seq (by kernel_rfl) ?_
      refine WC.block (by kernel_rfl) ?_
      refine WC.seq (by kernel_rfl) ?_
      refine WC.reg [0, 1, 2] (by kernel_rfl) (by kernel_rfl) ?_
      refine WR.runk [] [0, 1, 2] [3, 14, 15, 16] (L' := [(3, .pointer (some ⟨b1, 0, none⟩)), (14, .slice A4 p0.2.1.length c5), (15, .int .i64 (p0.2.1.length : Int)), (16, .int .i64 x16_l1)]) (w' := w) (by kernel_rfl) ?_
      obtain ⟨v12, e13, H⟩ := bind_ex H
      refine WR.st (St.ofP (PSt.idx (k := .i64) (.tmp 14) (.tmp 16) (by kernel_rfl) (by kernel_rfl) E44 (by kernel_rfl) (by kernel_rfl) (rdS.upd R8 (Sat.ghAt 0 hS rfl)) e13 ?_))
      refine WR.runk [] [1, 2] [3, 14, 15, 16, 18] (L' := [(3, .pointer (some ⟨b1, 0, none⟩)), (14, .slice A4 p0.2.1.length c5), (15, .int .i64 (p0.2.1.length : Int)), (16, .int .i64 x16_l1), (18, .pointer (some (adr A4 x16_l1.toNat 1)))]) (w' := w) (by kernel_rfl) ?_
      refine WR.st (St.ofR (RSt.loadRow (t := 47) (κ := (.ptr 50 (.pair (.int .i64) (.pair (.int .i64) (.pair (.int .i64) (.slice 55 (.pair (.int .i64) .bool))))))) (Ept.rd (t := 50) (κ := (.pair (.int .i64) (.pair (.int .i64) (.pair (.int .i64) (.slice 55 (.pair (.int .i64) .bool)))))) (O := O50) O50.rd) (.tmp 18) (by kernel_rfl) (by kernel_rfl) (by kernel_rfl) (by kernel_rfl) hC10 e13 (Sat.ghAt 0 hS rfl) (fun u14 C15 R16 => ?_)))
      replace R16 : rd K6 (.ptr 50 (.pair (.int .i64) (.pair (.int .i64) (.pair (.int .i64) (.slice 55 (.pair (.int .i64) .bool)))))) [u14] v12 := R16
      replace C15 : css9[x16_l1.toNat]? = some [u14] := C15
      refine WR.runk [2] [] [3, 7, 14, 15, 16] (L' := [(3, .pointer (some ⟨b1, 0, none⟩)), (7, u14), (14, .slice A4 p0.2.1.length c5), (15, .int .i64 (p0.2.1.length : Int)), (16, .int .i64 x16_l1)]) (w' := w) (by kernel_rfl) ?_
      refine WR.nil ?_
      refine At.go ?_
      refine WC.seq (by kernel_rfl) ?_
      refine WC.reg [0, 1, 2, 3, 4, 5, 6] (by kernel_rfl) (by kernel_rfl) ?_
      refine WR.runk [0] [1, 2, 3, 4, 5, 6] [3, 7, 14, 15, 16, 20] (L' := [(3, .pointer (some ⟨b1, 0, none⟩)), (7, u14), (14, .slice A4 p0.2.1.length c5), (15, .int .i64 (p0.2.1.length : Int)), (16, .int .i64 x16_l1), (20, u14)]) (w' := w) (by kernel_rfl) ?_
      obtain ⟨y19, hr17, H⟩ := bind_ex H
      obtain ⟨b20, fr21, A25, c26, hv22, hb23, R27⟩ := P50.open R16 hr17
      have R24 := R16
      rw [hv22, hr17] at R24
      have C28 : css9[x16_l1.toNat]? = some [.pointer (some ⟨b20, 0, none⟩)] := by rw [← hv22]; exact C15
      try subst hv22
      replace R27 : rdS (r0 (.pair (.int .i64) .bool)) 2 K6 A25 c26 y19.2.2.2 := R27
      refine WR.runk [1, 2] [3, 4, 5, 6] [3, 7, 14, 15, 16, 22] (L' := [(3, .pointer (some ⟨b1, 0, none⟩)), (7, .pointer (some ⟨b20, 0, none⟩)), (14, .slice A4 p0.2.1.length c5), (15, .int .i64 (p0.2.1.length : Int)), (16, .int .i64 x16_l1), (22, .pointer (some ⟨b20, 3, none⟩))]) (w' := w) (by kernel_rfl) ?_
      refine WR.st (St.ofR (RSt.loadRo (t := 48) (k := 3) (v := .slice A25 y19.2.2.2.length c26) (.tmp 22) (by kernel_rfl) (by kernel_rfl) (by kernel_rfl) (Sat.ghAt 0 hS rfl) hb23 (by kernel_rfl) rfl ?_))
      refine WR.runk [4] [5, 6] [3, 7, 14, 15, 16, 23, 24] (L' := [(3, .pointer (some ⟨b1, 0, none⟩)), (7, .pointer (some ⟨b20, 0, none⟩)), (14, .slice A4 p0.2.1.length c5), (15, .int .i64 (p0.2.1.length : Int)), (16, .int .i64 x16_l1), (23, .slice A25 y19.2.2.2.length c26), (24, .func (.func 23) #[] #[.pointer (some ⟨b1, 0, none⟩)])]) (w' := w) (by kernel_rfl) ?_
      refine WR.st (St.call (by kernel_rfl) (f := 22) (args := #[.slice A25 y19.2.2.2.length c26, .func (.func 23) #[] #[.pointer (some ⟨b1, 0, none⟩)]]) (by kernel_rfl) (calls_of_WC (vs := [.slice A25 y19.2.2.2.length c26, .func (.func 23) #[] #[.pointer (some ⟨b1, 0, none⟩)]]) Try.func22 (c := C22) (n := 19) (by kernel_rfl) (by kernel_rfl) (by kernel_rfl) ?_) (fun _ _ h => h))
      refine WC.seq (by kernel_rfl) ?_
      refine WC.reg [0] (by kernel_rfl) (by kernel_rfl) ?_
      refine WR.runk [0] [] [0, 1] (L' := [(0, .slice A25 y19.2.2.2.length c26), (1, .func (.func 23) #[] #[.pointer (some ⟨b1, 0, none⟩)])]) (w' := w) (by kernel_rfl) ?_
      refine WR.nil ?_
      refine At.go ?_
      refine WC.seq (by kernel_rfl) ?_
      refine WC.seq (by kernel_rfl) ?_
      refine WC.reg [0, 1, 2] (by kernel_rfl) (by kernel_rfl) ?_
      refine WR.runk [0, 1, 2] [] [0, 1, 7, 8] (L' := [(0, .slice A25 y19.2.2.2.length c26), (1, .func (.func 23) #[] #[.pointer (some ⟨b1, 0, none⟩)]), (7, .int .i64 (y19.2.2.2.length : Int)), (8, .int .i64 0)]) (w' := w) (by kernel_rfl) ?_
      refine WR.nil ?_
      refine At.go ?_
      refine WC.block (by kernel_rfl) ?_
      have hS : Sat w B [gh K6, pts b0 (.cells #[.int .i64 p0.1, .slice A4 p0.2.1.length c5, .int .i64 p0.2.2.1, .bool p0.2.2.2.1, .int .i64 p0.2.2.2.2.1, .bool p0.2.2.2.2.2] 46 (0, 0)), pts b1 (.cells #[.int .i64 a1] 3 (0, 0))] := hS.sel [0, 2, 1] (by kernel_rfl)
      obtain ⟨o36, e37, H⟩ := bind_ex H
      refine WC.loop (by kernel_rfl) ?_
      refine WL.weaken [0, 1, 7, 8] (L' := [(0, .slice A25 y19.2.2.2.length c26), (1, .func (.func 23) #[] #[.pointer (some ⟨b1, 0, none⟩)]), (7, .int .i64 (y19.2.2.2.length : Int)), (8, .int .i64 0)]) (by kernel_rfl) ?_
      refine fair_Ring_Take.l2_ok B b0 p0 a1 b1 A4 c5 K6 y19 A25 c26 R27 o36 (fun o38 w40 ho41 hS => ?_) (fun o43 w45 ho46 hS => ?_) FU 0 _ hS e37
      · subst ho41
        dsimp only at H
        refine At.blockRet ?_
        refine At.thenRet ?_
        refine At.bodyK [.int .i64 o38] (.int .i64 o38) (by kernel_rfl) rfl ?_
        refine WR.runk [6] [] [3, 7, 8, 14, 15, 16] (L' := [(3, .pointer (some ⟨b1, 0, none⟩)), (7, .pointer (some ⟨b20, 0, none⟩)), (8, .int .i64 o38), (14, .slice A4 p0.2.1.length c5), (15, .int .i64 (p0.2.1.length : Int)), (16, .int .i64 x16_l1)]) (w' := w40) (by kernel_rfl) ?_
        refine WR.nil ?_
        refine At.go ?_
        refine WC.seq (by kernel_rfl) ?_
        refine WC.reg [0, 1] (by kernel_rfl) (by kernel_rfl) ?_
        refine WR.runk [0, 1] [] [3, 7, 8, 14, 15, 16, 27] (L' := [(3, .pointer (some ⟨b1, 0, none⟩)), (7, .pointer (some ⟨b20, 0, none⟩)), (8, .int .i64 o38), (14, .slice A4 p0.2.1.length c5), (15, .int .i64 (p0.2.1.length : Int)), (16, .int .i64 x16_l1), (27, .bool (decide (o38 ≥ 0)))]) (w' := w40) (by kernel_rfl) ?_
        refine WR.nil ?_
        refine At.go ?_
        refine WC.cond (by kernel_rfl) (decide (o38 ≥ 0)) (by kernel_rfl) (by kernel_rfl) (fun hb42 => ?_) (fun hb42 => ?_)
        · replace H := ite_t H hb42
          refine WC.seq (by kernel_rfl) ?_
          refine WC.reg [0, 1, 2, 3] (by kernel_rfl) (by kernel_rfl) ?_
          refine WR.runk [0, 1, 2, 3] [] [4, 5] (L' := [(4, .pointer (some ⟨b20, 0, none⟩)), (5, .int .i64 o38)]) (w' := w40) (by kernel_rfl) ?_
          refine WR.nil ?_
          refine At.go ?_
          refine WC.ret (by kernel_rfl) ?_
          refine At.blockRet ?_
          refine At.thenRet ?_
          refine At.thenRet ?_
          obtain rfl := Option.some.inj H
          have hS : Sat w40 B [gh K6, pts b1 (.cells #[.int .i64 a1] 3 (0, 0)), pts b0 (.cells #[.int .i64 p0.1, .slice A4 p0.2.1.length c5, .int .i64 p0.2.2.1, .bool p0.2.2.2.1, .int .i64 p0.2.2.2.2.1, .bool p0.2.2.2.2.2] 46 (0, 0))] := hS.sel [1, 2, 0] (by kernel_rfl)
          refine At.weaken [4, 5] (L' := [(4, .pointer (some ⟨b20, 0, none⟩)), (5, .int .i64 o38)]) (by kernel_rfl) ?_
          exact hn0 (x16_l1, o38) (.pointer (some ⟨b20, 0, none⟩)) _ rfl hS C28
        · replace H := ite_f H hb42
          refine WC.skip (by kernel_rfl) ?_
          refine At.blockNormal ?_
          refine At.go ?_
          refine WC.reg [0, 1] (by kernel_rfl) (by kernel_rfl) ?_
          refine WR.runk [0, 1] [] [3, 14, 15, 16] (L' := [(3, .pointer (some ⟨b1, 0, none⟩)), (14, .slice A4 p0.2.1.length c5), (15, .int .i64 (p0.2.1.length : Int)), (16, .int .i64 (wi (x16_l1 + 1)))]) (w' := w40) (by kernel_rfl) ?_
          refine WR.nil ?_
          have hS : Sat w40 B [gh K6, pts b1 (.cells #[.int .i64 a1] 3 (0, 0)), pts b0 (.cells #[.int .i64 p0.1, .slice A4 p0.2.1.length c5, .int .i64 p0.2.2.1, .bool p0.2.2.2.1, .int .i64 p0.2.2.2.2.1, .bool p0.2.2.2.2.2] 46 (0, 0))] := hS.sel [1, 2, 0] (by kernel_rfl)
          refine At.again ?_
          refine WL.weaken [3, 14, 15, 16] (L' := [(3, .pointer (some ⟨b1, 0, none⟩)), (14, .slice A4 p0.2.1.length c5), (15, .int .i64 (p0.2.1.length : Int)), (16, .int .i64 (wi (x16_l1 + 1)))]) (by kernel_rfl) ?_
          exact ih (wi (x16_l1 + 1)) _ hS H
      · subst ho46
        dsimp only at H
        refine At.hit ?_
        refine At.go ?_
        refine WC.seq (by kernel_rfl) ?_
        refine WC.reg [0] (by kernel_rfl) (by kernel_rfl) ?_
        refine WR.runk [0] [] [4] (L' := [(4, .int .i64 (-1))]) (w' := w45) (by kernel_rfl) ?_
        refine WR.nil ?_
        refine At.go ?_
        refine WC.ret (by kernel_rfl) ?_
        refine At.bodyK [.int .i64 (-1)] (.int .i64 (-1)) (by kernel_rfl) rfl ?_
        refine WR.runk [6] [] [3, 7, 8, 14, 15, 16] (L' := [(3, .pointer (some ⟨b1, 0, none⟩)), (7, .pointer (some ⟨b20, 0, none⟩)), (8, .int .i64 (-1)), (14, .slice A4 p0.2.1.length c5), (15, .int .i64 (p0.2.1.length : Int)), (16, .int .i64 x16_l1)]) (w' := w45) (by kernel_rfl) ?_
        refine WR.nil ?_
        refine At.go ?_
        refine WC.seq (by kernel_rfl) ?_
        refine WC.reg [0, 1] (by kernel_rfl) (by kernel_rfl) ?_
        refine WR.runk [0, 1] [] [3, 7, 8, 14, 15, 16, 27] (L' := [(3, .pointer (some ⟨b1, 0, none⟩)), (7, .pointer (some ⟨b20, 0, none⟩)), (8, .int .i64 (-1)), (14, .slice A4 p0.2.1.length c5), (15, .int .i64 (p0.2.1.length : Int)), (16, .int .i64 x16_l1), (27, .bool (decide ((-1) ≥ 0)))]) (w' := w45) (by kernel_rfl) ?_
        refine WR.nil ?_
        refine At.go ?_
        refine WC.cond (by kernel_rfl) (decide ((-1) ≥ 0)) (by kernel_rfl) (by kernel_rfl) (fun hb47 => ?_) (fun hb47 => ?_)
        · replace H := ite_t H hb47
          refine WC.seq (by kernel_rfl) ?_
          refine WC.reg [0, 1, 2, 3] (by kernel_rfl) (by kernel_rfl) ?_
          refine WR.runk [0, 1, 2, 3] [] [4, 5] (L' := [(4, .pointer (some ⟨b20, 0, none⟩)), (5, .int .i64 (-1))]) (w' := w45) (by kernel_rfl) ?_
          refine WR.nil ?_
          refine At.go ?_
          refine WC.ret (by kernel_rfl) ?_
          refine At.blockRet ?_
          refine At.thenRet ?_
          refine At.thenRet ?_
          obtain rfl := Option.some.inj H
          have hS : Sat w45 B [gh K6, pts b1 (.cells #[.int .i64 a1] 3 (0, 0)), pts b0 (.cells #[.int .i64 p0.1, .slice A4 p0.2.1.length c5, .int .i64 p0.2.2.1, .bool p0.2.2.2.1, .int .i64 p0.2.2.2.2.1, .bool p0.2.2.2.2.2] 46 (0, 0))] := hS.sel [1, 2, 0] (by kernel_rfl)
          refine At.weaken [4, 5] (L' := [(4, .pointer (some ⟨b20, 0, none⟩)), (5, .int .i64 (-1))]) (by kernel_rfl) ?_
          exact hn0 (x16_l1, (-1)) (.pointer (some ⟨b20, 0, none⟩)) _ rfl hS C28
        · replace H := ite_f H hb47
          refine WC.skip (by kernel_rfl) ?_
          refine At.blockNormal ?_
          refine At.go ?_
          refine WC.reg [0, 1] (by kernel_rfl) (by kernel_rfl) ?_
          refine WR.runk [0, 1] [] [3, 14, 15, 16] (L' := [(3, .pointer (some ⟨b1, 0, none⟩)), (14, .slice A4 p0.2.1.length c5), (15, .int .i64 (p0.2.1.length : Int)), (16, .int .i64 (wi (x16_l1 + 1)))]) (w' := w45) (by kernel_rfl) ?_
          refine WR.nil ?_
          have hS : Sat w45 B [gh K6, pts b1 (.cells #[.int .i64 a1] 3 (0, 0)), pts b0 (.cells #[.int .i64 p0.1, .slice A4 p0.2.1.length c5, .int .i64 p0.2.2.1, .bool p0.2.2.2.1, .int .i64 p0.2.2.2.2.1, .bool p0.2.2.2.2.2] 46 (0, 0))] := hS.sel [1, 2, 0] (by kernel_rfl)
          refine At.again ?_
          refine WL.weaken [3, 14, 15, 16] (L' := [(3, .pointer (some ⟨b1, 0, none⟩)), (14, .slice A4 p0.2.1.length c5), (15, .int .i64 (p0.2.1.length : Int)), (16, .int .i64 (wi (x16_l1 + 1)))]) (by kernel_rfl) ?_
          exact ih (wi (x16_l1 + 1)) _ hS H
    · replace H := ite_f H hb11
      refine WC.exit (by kernel_rfl) ?_
      refine At.thenExit ?_
      refine At.thenExit ?_
      obtain rfl := Option.some.inj H
      have hS : Sat w B [pts b1 (.cells #[.int .i64 a1] 3 (0, 0)), pts b0 (.cells #[.int .i64 p0.1, .slice A4 p0.2.1.length c5, .int .i64 p0.2.2.1, .bool p0.2.2.2.1, .int .i64 p0.2.2.2.2.1, .bool p0.2.2.2.2.2] 46 (0, 0)), gh K6] := hS.sel [1, 2, 0] (by kernel_rfl)
      refine At.weaken [] (L' := []) (by kernel_rfl) ?_
      exact hn1 () _ rfl hS
theorem fair_Ring_Take.calls (B : Rf) (w0 : World) (b0 : Nat) (p0 : Int × (List (Option (Int × Int × Int × (List (Int × Bool))))) × Int × Bool × Int × Bool) (hS : Sat w0 B [O46 b0 p0]) (a1 : Int) (r : Bool × (Int × (List (Option (Int × Int × Int × (List (Int × Bool))))) × Int × Bool × Int × Bool)) (H : fair_Ring_Take.f p0 a1 = some r) :
    Calls Try.prog 14 #[.pointer (some ⟨b0, 0, none⟩), .int .i64 a1] w0 (fun e w' => ∃ v, e = .returned v ∧ fair_Ring_Take.post B b0 p0 w0 r v w') := by
  unfold fair_Ring_Take.f at H
  refine calls_of_WC (vs := [.pointer (some ⟨b0, 0, none⟩), .int .i64 a1]) Try.func14 (c := C14) (n := 35) (by kernel_rfl) (by kernel_rfl) (by kernel_rfl) ?_
  refine WC.seq (by kernel_rfl) ?_
  refine WC.reg [0] (by kernel_rfl) (by kernel_rfl) ?_
  refine WR.runk [0] [] [0, 1] (L' := [(0, .pointer (some ⟨b0, 0, none⟩)), (1, .int .i64 a1)]) (w' := w0) (by kernel_rfl) ?_
  refine WR.nil ?_
  refine At.go ?_
  refine WC.seq (by kernel_rfl) ?_
  refine WC.reg [0, 1, 2, 3, 4, 5, 6, 7] (by kernel_rfl) (by kernel_rfl) ?_
  refine WR.runk [0, 1] [2, 3, 4, 5, 6, 7] [0, 1, 8, 9] (L' := [(0, .pointer (some ⟨b0, 0, none⟩)), (1, .int .i64 a1), (8, .pointer (some ⟨b0, 0, none⟩)), (9, .int .i64 a1)]) (w' := w0) (by kernel_rfl) ?_
  refine WR.st (St.call (by kernel_rfl) (f := 17) (args := #[.pointer (some ⟨b0, 0, none⟩), .int .i64 a1]) (by kernel_rfl) (calls_of_WC (vs := [.pointer (some ⟨b0, 0, none⟩), .int .i64 a1]) Try.func17 (c := C17) (n := 31) (by kernel_rfl) (by kernel_rfl) (by kernel_rfl) ?_) (fun _ _ h => h))
  refine WC.seq (by kernel_rfl) ?_
  refine WC.reg [0, 1, 2] (by kernel_rfl) (by kernel_rfl) ?_
  refine WR.runk [] [0, 1, 2] [0, 1] (L' := [(0, .pointer (some ⟨b0, 0, none⟩)), (1, .int .i64 a1)]) (w' := w0) (by kernel_rfl) ?_
  refine WR.st (St.box hS (by kernel_rfl) (.cells #[.int .i64 a1] 3) (fun b1 => .pointer (some ⟨b1, 0, none⟩)) (fun _ => by kernel_rfl) (fun b1 w2 hS => ?_))
  refine WR.runk [1, 2] [] [0, 3] (L' := [(0, .pointer (some ⟨b0, 0, none⟩)), (3, .pointer (some ⟨b1, 0, none⟩))]) (w' := w2) (by kernel_rfl) ?_
  refine WR.nil ?_
  refine At.go ?_
  refine WC.seq (by kernel_rfl) ?_
  refine WC.seq (by kernel_rfl) ?_
  refine WC.reg [0, 1] (by kernel_rfl) (by kernel_rfl) ?_
  refine WR.runk [0, 1] [] [0, 3, 10] (L' := [(0, .pointer (some ⟨b0, 0, none⟩)), (3, .pointer (some ⟨b1, 0, none⟩)), (10, .bool false)]) (w' := w2) (by kernel_rfl) ?_
  refine WR.nil ?_
  refine At.go ?_
  refine WC.condF (by kernel_rfl) (by kernel_rfl) (by kernel_rfl) ?_
  refine WC.skip (by kernel_rfl) ?_
  refine At.go ?_
  refine WC.seq (by kernel_rfl) ?_
  refine WC.seq (by kernel_rfl) ?_
  refine WC.reg [0, 1, 2, 3, 4, 5] (by kernel_rfl) (by kernel_rfl) ?_
  refine WR.runk [0, 1, 2] [3, 4, 5] [3, 13] (L' := [(3, .pointer (some ⟨b1, 0, none⟩)), (13, .pointer (some ⟨b0, 1, none⟩))]) (w' := w2) (by kernel_rfl) ?_
  have hS : Sat w2 B [O46 b0 p0, pts b1 (.cells #[.int .i64 a1] 3 (0, 0))] := hS.sel [1, 0] (by kernel_rfl)
  obtain ⟨A4, c5, hS⟩ := O46.open hS
  have hS : Sat w2 B [pts b0 (.cells #[.int .i64 p0.1, .slice A4 p0.2.1.length c5, .int .i64 p0.2.2.1, .bool p0.2.2.2.1, .int .i64 p0.2.2.2.2.1, .bool p0.2.2.2.2.2] 46 (0, 0)), orw 47 (Ept O50) 1 A4 c5 p0.2.1, pts b1 (.cells #[.int .i64 a1] 3 (0, 0))] := hS
  refine WR.st (St.ofR (RSt.loadObj (t := 44) (k := 1) (v := .slice A4 p0.2.1.length c5) (.tmp 13) (by kernel_rfl) (by kernel_rfl) (by kernel_rfl) 0 hS rfl (by kernel_rfl) rfl ?_))
  refine WR.runk [4, 5] [] [3, 14, 15, 16] (L' := [(3, .pointer (some ⟨b1, 0, none⟩)), (14, .slice A4 p0.2.1.length c5), (15, .int .i64 (p0.2.1.length : Int)), (16, .int .i64 0)]) (w' := w2) (by kernel_rfl) ?_
  refine WR.nil ?_
  refine At.go ?_
  refine WC.block (by kernel_rfl) ?_
  have hS : Sat w2 B [orw 47 (Ept O50) 1 A4 c5 p0.2.1, pts b0 (.cells #[.int .i64 p0.1, .slice A4 p0.2.1.length c5, .int .i64 p0.2.2.1, .bool p0.2.2.2.1, .int .i64 p0.2.2.2.2.1, .bool p0.2.2.2.2.2] 46 (0, 0)), pts b1 (.cells #[.int .i64 a1] 3 (0, 0))] := hS.sel [1, 0, 2] (by kernel_rfl)
  obtain ⟨K6, hK7, hS⟩ := Sat.gho hS
  have hS : Sat w2 B [gh K6, pts b0 (.cells #[.int .i64 p0.1, .slice A4 p0.2.1.length c5, .int .i64 p0.2.2.1, .bool p0.2.2.2.1, .int .i64 p0.2.2.2.2.1, .bool p0.2.2.2.2.2] 46 (0, 0)), pts b1 (.cells #[.int .i64 a1] 3 (0, 0))] := hS
  have R8 : rdS (rd K6 (.ptr 50 (.pair (.int .i64) (.pair (.int .i64) (.pair (.int .i64) (.slice 55 (.pair (.int .i64) .bool))))))) 1 K6 A4 c5 p0.2.1 := orw.rdS (κ := (.ptr 50 (.pair (.int .i64) (.pair (.int .i64) (.pair (.int .i64) (.slice 55 (.pair (.int .i64) .bool))))))) (Ept.rd (t := 50) (κ := (.pair (.int .i64) (.pair (.int .i64) (.pair (.int .i64) (.slice 55 (.pair (.int .i64) .bool)))))) (O := O50) O50.rd) hK7
  obtain ⟨css9, hC10⟩ := orw.named hK7
  have hS : Sat w2 B [gh K6, pts b1 (.cells #[.int .i64 a1] 3 (0, 0)), pts b0 (.cells #[.int .i64 p0.1, .slice A4 p0.2.1.length c5, .int .i64 p0.2.2.1, .bool p0.2.2.2.1, .int .i64 p0.2.2.2.2.1, .bool p0.2.2.2.2.2] 46 (0, 0))] := hS.sel [0, 2, 1] (by kernel_rfl)
  obtain ⟨o48, e49, H⟩ := bind_ex H
  refine WC.loop (by kernel_rfl) ?_
  refine WL.weaken [3, 14, 15, 16] (L' := [(3, .pointer (some ⟨b1, 0, none⟩)), (14, .slice A4 p0.2.1.length c5), (15, .int .i64 (p0.2.1.length : Int)), (16, .int .i64 0)]) (by kernel_rfl) ?_
  refine fair_Ring_Take.l1_ok B b0 p0 a1 b1 A4 c5 K6 css9 R8 hC10 o48 (fun o50 u4_q51 w52 ho53 hS C4_q51 => ?_) (fun o91 w93 ho94 hS => ?_) FU 0 _ hS e49
  · subst ho53
    dsimp only at H
    refine At.blockRet ?_
    refine At.thenRet ?_
    refine At.bodyK [u4_q51, .int .i64 o50.2] (.tuple #[u4_q51, .int .i64 o50.2]) (by kernel_rfl) rfl ?_
    refine WR.runk [3, 4, 5, 6, 7] [] [0, 1, 5, 6] (L' := [(0, .pointer (some ⟨b0, 0, none⟩)), (1, .int .i64 a1), (5, u4_q51), (6, .int .i64 o50.2)]) (w' := w52) (by kernel_rfl) ?_
    refine WR.nil ?_
    refine At.go ?_
    refine WC.seq (by kernel_rfl) ?_
    refine WC.seq (by kernel_rfl) ?_
    refine WC.reg [0, 1] (by kernel_rfl) (by kernel_rfl) ?_
    refine WR.runk [0, 1] [] [0, 1, 5, 6, 14] (L' := [(0, .pointer (some ⟨b0, 0, none⟩)), (1, .int .i64 a1), (5, u4_q51), (6, .int .i64 o50.2), (14, .bool (decide (o50.2 < 0)))]) (w' := w52) (by kernel_rfl) ?_
    refine WR.nil ?_
    refine At.go ?_
    refine WC.cond (by kernel_rfl) (decide (o50.2 < 0)) (by kernel_rfl) (by kernel_rfl) (fun hb54 => ?_) (fun hb54 => ?_)
    · replace H := ite_t H hb54
      refine WC.seq (by kernel_rfl) ?_
      refine WC.reg [0] (by kernel_rfl) (by kernel_rfl) ?_
      refine WR.runk [0] [] [4] (L' := [(4, .bool false)]) (w' := w52) (by kernel_rfl) ?_
      refine WR.nil ?_
      refine At.go ?_
      refine WC.ret (by kernel_rfl) ?_
      refine At.thenRet ?_
      obtain rfl := Option.some.inj H
      have hS : Sat w52 B [orw 47 (Ept O50) 1 A4 c5 p0.2.1, pts b1 (.cells #[.int .i64 a1] 3 (0, 0)), pts b0 (.cells #[.int .i64 p0.1, .slice A4 p0.2.1.length c5, .int .i64 p0.2.2.1, .bool p0.2.2.2.1, .int .i64 p0.2.2.2.2.1, .bool p0.2.2.2.2.2] 46 (0, 0))] := Sat.ungh hK7 hS
      have hS : Sat w52 B [pts b0 (.cells #[.int .i64 p0.1, .slice A4 p0.2.1.length c5, .int .i64 p0.2.2.1, .bool p0.2.2.2.1, .int .i64 p0.2.2.2.2.1, .bool p0.2.2.2.2.2] 46 (0, 0)), orw 47 (Ept O50) 1 A4 c5 p0.2.1, pts b1 (.cells #[.int .i64 a1] 3 (0, 0))] := hS.sel [2, 0, 1] (by kernel_rfl)
      have hS : Sat w52 B [O46 b0 p0, pts b1 (.cells #[.int .i64 a1] 3 (0, 0))] := O46.close p0 A4 c5 hS
      have hS : Sat w52 B [O46 b0 p0] := hS.sel [0] (by kernel_rfl)
      exact At.body [.bool false] (by kernel_rfl) ⟨_, rfl, rfl, hS⟩
    · replace H := ite_f H hb54
      refine WC.skip (by kernel_rfl) ?_
      refine At.go ?_
      refine WC.seq (by kernel_rfl) ?_
      refine WC.reg [0, 1, 2, 3, 4, 5, 6, 7, 8, 9, 10, 11] (by kernel_rfl) (by kernel_rfl) ?_
      refine WR.runk [0, 1] [2, 3, 4, 5, 6, 7, 8, 9, 10, 11] [0, 1, 6, 15, 16] (L' := [(0, .pointer (some ⟨b0, 0, none⟩)), (1, .int .i64 a1), (6, .int .i64 o50.2), (15, u4_q51), (16, u4_q51)]) (w' := w52) (by kernel_rfl) ?_
      obtain ⟨v55, e56, H⟩ := bind_ex H
      have R57 : rd K6 (.ptr 50 (.pair (.int .i64) (.pair (.int .i64) (.pair (.int .i64) (.slice 55 (.pair (.int .i64) .bool)))))) [u4_q51] v55 := orc.elem (κ := (.ptr 50 (.pair (.int .i64) (.pair (.int .i64) (.pair (.int .i64) (.slice 55 (.pair (.int .i64) .bool))))))) (Ept.rd (t := 50) (κ := (.pair (.int .i64) (.pair (.int .i64) (.pair (.int .i64) (.slice 55 (.pair (.int .i64) .bool)))))) (O := O50) O50.rd) hC10 C4_q51 (at?_idx e56)
      refine WR.runk [] [2, 3, 4, 5, 6, 7, 8, 9, 10, 11] [0, 1, 6, 15, 16] (L' := [(0, .pointer (some ⟨b0, 0, none⟩)), (1, .int .i64 a1), (6, .int .i64 o50.2), (15, u4_q51), (16, u4_q51)]) (w' := w52) (by kernel_rfl) ?_
      obtain ⟨y60, hr58, H⟩ := bind_ex H
      obtain ⟨b61, fr62, A66, c67, hv63, hb64, R68⟩ := P50.open R57 hr58
      have R65 := R57
      rw [hv63, hr58] at R65
      have C69 : css9[(o50.1).toNat]? = some [.pointer (some ⟨b61, 0, none⟩)] := by rw [← hv63]; exact C4_q51
      try subst hv63
      replace R68 : rdS (r0 (.pair (.int .i64) .bool)) 2 K6 A66 c67 y60.2.2.2 := R68
      refine WR.runk [2, 3] [4, 5, 6, 7, 8, 9, 10, 11] [0, 1, 6, 15, 18] (L' := [(0, .pointer (some ⟨b0, 0, none⟩)), (1, .int .i64 a1), (6, .int .i64 o50.2), (15, .pointer (some ⟨b61, 0, none⟩)), (18, .pointer (some ⟨b61, 3, none⟩))]) (w' := w52) (by kernel_rfl) ?_
      have hS : Sat w52 B [orh 47 (Ept O50) 1 A4 c5 css9 ((o50.1).toNat) p0.2.1, O50 b61 y60, pts b1 (.cells #[.int .i64 a1] 3 (0, 0)), pts b0 (.cells #[.int .i64 p0.1, .slice A4 p0.2.1.length c5, .int .i64 p0.2.2.1, .bool p0.2.2.2.1, .int .i64 p0.2.2.2.2.1, .bool p0.2.2.2.2.2] 46 (0, 0))] := Sat.focusP hC10 hS C69 ((at?_idx e56).trans (by rw [hr58]))
      have hS : Sat w52 B [O50 b61 y60, orh 47 (Ept O50) 1 A4 c5 css9 ((o50.1).toNat) p0.2.1, pts b1 (.cells #[.int .i64 a1] 3 (0, 0)), pts b0 (.cells #[.int .i64 p0.1, .slice A4 p0.2.1.length c5, .int .i64 p0.2.2.1, .bool p0.2.2.2.1, .int .i64 p0.2.2.2.2.1, .bool p0.2.2.2.2.2] 46 (0, 0))] := hS.sel [1, 0, 2, 3] (by kernel_rfl)
      obtain ⟨A71, c72, hS⟩ := O50.open hS
      have hS : Sat w52 B [pts b61 (.cells #[.int .i64 y60.1, .int .i64 y60.2.1, .int .i64 y60.2.2.1, .slice A71 y60.2.2.2.length c72] 50 (0, 0)), osl 55 (r0 (.pair (.int .i64) .bool)) 2 A71 c72 y60.2.2.2, orh 47 (Ept O50) 1 A4 c5 css9 ((o50.1).toNat) p0.2.1, pts b1 (.cells #[.int .i64 a1] 3 (0, 0)), pts b0 (.cells #[.int .i64 p0.1, .slice A4 p0.2.1.length c5, .int .i64 p0.2.2.1, .bool p0.2.2.2.1, .int .i64 p0.2.2.2.2.1, .bool p0.2.2.2.2.2] 46 (0, 0))] := hS
      refine WR.st (St.ofR (RSt.loadObj (t := 48) (k := 3) (v := .slice A71 y60.2.2.2.length c72) (.tmp 18) (by kernel_rfl) (by kernel_rfl) (by kernel_rfl) 0 hS rfl (by kernel_rfl) rfl ?_))
      refine WR.runk [5, 6, 7] [8, 9, 10, 11] [0, 1, 15, 19, 20, 22] (L' := [(0, .pointer (some ⟨b0, 0, none⟩)), (1, .int .i64 a1), (15, .pointer (some ⟨b61, 0, none⟩)), (19, .slice A71 y60.2.2.2.length c72), (20, .int .i64 o50.2), (22, .int .i64 (wi (o50.2 + 1)))]) (w' := w52) (by kernel_rfl) ?_
      have hS : Sat w52 B [osl 55 (r0 (.pair (.int .i64) .bool)) 2 A71 c72 y60.2.2.2, pts b61 (.cells #[.int .i64 y60.1, .int .i64 y60.2.1, .int .i64 y60.2.2.1, .slice A71 y60.2.2.2.length c72] 50 (0, 0)), orh 47 (Ept O50) 1 A4 c5 css9 ((o50.1).toNat) p0.2.1, pts b1 (.cells #[.int .i64 a1] 3 (0, 0)), pts b0 (.cells #[.int .i64 p0.1, .slice A4 p0.2.1.length c5, .int .i64 p0.2.2.1, .bool p0.2.2.2.1, .int .i64 p0.2.2.2.2.1, .bool p0.2.2.2.2.2] 46 (0, 0))] := hS.sel [1, 0, 2, 3, 4] (by kernel_rfl)
      obtain ⟨r73, e74, H⟩ := bind_ex H
      obtain ⟨B83, hso82, hsub80, hcs81, hb79⟩ := Sat.lend [osl 55 (r0 (.pair (.int .i64) .bool)) 2 A71 c72 y60.2.2.2] (cs := [pts b61 (.cells #[.int .i64 y60.1, .int .i64 y60.2.1, .int .i64 y60.2.2.1, .slice A71 y60.2.2.2.length c72] 50 (0, 0)), orh 47 (Ept O50) 1 A4 c5 css9 ((o50.1).toNat) p0.2.1, pts b1 (.cells #[.int .i64 a1] 3 (0, 0)), pts b0 (.cells #[.int .i64 p0.1, .slice A4 p0.2.1.length c5, .int .i64 p0.2.2.1, .bool p0.2.2.2.1, .int .i64 p0.2.2.2.2.1, .bool p0.2.2.2.2.2] 46 (0, 0))]) hS
      refine WR.st (St.call (by kernel_rfl) (f := 21) (args := #[.slice A71 y60.2.2.2.length c72, .int .i64 o50.2, .int .i64 (wi (o50.2 + 1))]) (by kernel_rfl) (slices_Delete.calls B83 w52 A71 c72 y60.2.2.2 hso82 o50.2 (wi (o50.2 + 1)) r73 e74) ?_)
      rintro _ w77 ⟨A75, c76, rfl, hS78⟩
      have hS : Sat w77 B [osl 55 (r0 (.pair (.int .i64) .bool)) 2 A75 c76 r73, pts b61 (.cells #[.int .i64 y60.1, .int .i64 y60.2.1, .int .i64 y60.2.2.1, .slice A71 y60.2.2.2.length c72] 50 (0, 0)), orh 47 (Ept O50) 1 A4 c5 css9 ((o50.1).toNat) p0.2.1, pts b1 (.cells #[.int .i64 a1] 3 (0, 0)), pts b0 (.cells #[.int .i64 p0.1, .slice A4 p0.2.1.length c5, .int .i64 p0.2.2.1, .bool p0.2.2.2.1, .int .i64 p0.2.2.2.2.1, .bool p0.2.2.2.2.2] 46 (0, 0))] := hb79 _ _ hS78
      refine WR.runk [9, 10] [11] [0, 1, 23, 25] (L' := [(0, .pointer (some ⟨b0, 0, none⟩)), (1, .int .i64 a1), (23, .slice A75 r73.length c76), (25, .pointer (some ⟨b61, 3, none⟩))]) (w' := w77) (by kernel_rfl) ?_
      have hS : Sat w77 B [pts b61 (.cells #[.int .i64 y60.1, .int .i64 y60.2.1, .int .i64 y60.2.2.1, .slice A71 y60.2.2.2.length c72] 50 (0, 0)), osl 55 (r0 (.pair (.int .i64) .bool)) 2 A75 c76 r73, orh 47 (Ept O50) 1 A4 c5 css9 ((o50.1).toNat) p0.2.1, pts b1 (.cells #[.int .i64 a1] 3 (0, 0)), pts b0 (.cells #[.int .i64 p0.1, .slice A4 p0.2.1.length c5, .int .i64 p0.2.2.1, .bool p0.2.2.2.1, .int .i64 p0.2.2.2.2.1, .bool p0.2.2.2.2.2] 46 (0, 0))] := hS.sel [1, 0, 2, 3, 4] (by kernel_rfl)
      refine WR.st (St.storeObj (t := 48) (k := 3) (cur' := #[.int .i64 y60.1, .int .i64 y60.2.1, .int .i64 y60.2.2.1, .slice A75 r73.length c76]) (.tmp 25) (.tmp 23) (by kernel_rfl) (by kernel_rfl) (by kernel_rfl) hS (by kernel_rfl) (by kernel_rfl) (by kernel_rfl) rfl rfl (fun w84 hS => ?_))
      refine WR.runk [] [] [0, 1] (L' := [(0, .pointer (some ⟨b0, 0, none⟩)), (1, .int .i64 a1)]) (w' := w84) (by kernel_rfl) ?_
      refine WR.nil ?_
      refine At.go ?_
      refine WC.seq (by kernel_rfl) ?_
      refine WC.seq (by kernel_rfl) ?_
      refine WC.reg [0, 1, 2, 3, 4, 5] (by kernel_rfl) (by kernel_rfl) ?_
      refine WR.runk [0, 1, 2] [3, 4, 5] [0, 1, 28] (L' := [(0, .pointer (some ⟨b0, 0, none⟩)), (1, .int .i64 a1), (28, .pointer (some ⟨b0, 4, none⟩))]) (w' := w84) (by kernel_rfl) ?_
      refine WR.st (St.ofR (RSt.loadObj (t := 3) (k := 4) (v := .int .i64 p0.2.2.2.2.1) (.tmp 28) (by kernel_rfl) (by kernel_rfl) (by kernel_rfl) 4 hS rfl (by kernel_rfl) rfl ?_))
      refine WR.runk [4, 5] [] [0, 31] (L' := [(0, .pointer (some ⟨b0, 0, none⟩)), (31, .bool (p0.2.2.2.2.1 == a1))]) (w' := w84) (by kernel_rfl) ?_
      refine WR.nil ?_
      refine At.go ?_
      refine WC.cond (by kernel_rfl) (p0.2.2.2.2.1 == a1) (by kernel_rfl) (by kernel_rfl) (fun hb85 => ?_) (fun hb85 => ?_)
      · replace H := ite_t H hb85
        refine WC.reg [0, 1, 2, 3] (by kernel_rfl) (by kernel_rfl) ?_
        refine WR.runk [0, 1, 2] [3] [34] (L' := [(34, .pointer (some ⟨b0, 5, none⟩))]) (w' := w84) (by kernel_rfl) ?_
        have hS : Sat w84 B [pts b0 (.cells #[.int .i64 p0.1, .slice A4 p0.2.1.length c5, .int .i64 p0.2.2.1, .bool p0.2.2.2.1, .int .i64 p0.2.2.2.2.1, .bool p0.2.2.2.2.2] 46 (0, 0)), pts b61 (.cells #[.int .i64 y60.1, .int .i64 y60.2.1, .int .i64 y60.2.2.1, .slice A75 r73.length c76] 50 (0, 0)), osl 55 (r0 (.pair (.int .i64) .bool)) 2 A75 c76 r73, orh 47 (Ept O50) 1 A4 c5 css9 ((o50.1).toNat) p0.2.1, pts b1 (.cells #[.int .i64 a1] 3 (0, 0))] := hS.sel [4, 0, 1, 2, 3] (by kernel_rfl)
        refine WR.st (St.storeObj (t := 4) (k := 5) (cur' := #[.int .i64 p0.1, .slice A4 p0.2.1.length c5, .int .i64 p0.2.2.1, .bool p0.2.2.2.1, .int .i64 p0.2.2.2.2.1, .bool false]) (.tmp 34) (.const (.bool false)) (by kernel_rfl) (by kernel_rfl) (by kernel_rfl) hS (by kernel_rfl) (by kernel_rfl) (by kernel_rfl) rfl rfl (fun w86 hS => ?_))
        refine WR.runk [] [] [] (L' := []) (w' := w86) (by kernel_rfl) ?_
        refine WR.nil ?_
        refine At.go ?_
        refine WC.seq (by kernel_rfl) ?_
        refine WC.reg [0] (by kernel_rfl) (by kernel_rfl) ?_
        refine WR.runk [0] [] [4] (L' := [(4, .bool true)]) (w' := w86) (by kernel_rfl) ?_
        refine WR.nil ?_
        refine At.go ?_
        refine WC.ret (by kernel_rfl) ?_
        obtain rfl := Option.some.inj H
        have hS : Sat w86 B [pts b61 (.cells #[.int .i64 y60.1, .int .i64 y60.2.1, .int .i64 y60.2.2.1, .slice A75 r73.length c76] 50 (0, 0)), osl 55 (r0 (.pair (.int .i64) .bool)) 2 A75 c76 r73, pts b0 (.cells #[.int .i64 p0.1, .slice A4 p0.2.1.length c5, .int .i64 p0.2.2.1, .bool p0.2.2.2.1, .int .i64 p0.2.2.2.2.1, .bool false] 46 (0, 0)), orh 47 (Ept O50) 1 A4 c5 css9 ((o50.1).toNat) p0.2.1, pts b1 (.cells #[.int .i64 a1] 3 (0, 0))] := hS.sel [1, 2, 0, 3, 4] (by kernel_rfl)
        have hS : Sat w86 B [O50 b61 (y60.1, y60.2.1, y60.2.2.1, r73), pts b0 (.cells #[.int .i64 p0.1, .slice A4 p0.2.1.length c5, .int .i64 p0.2.2.1, .bool p0.2.2.2.1, .int .i64 p0.2.2.2.2.1, .bool false] 46 (0, 0)), orh 47 (Ept O50) 1 A4 c5 css9 ((o50.1).toNat) p0.2.1, pts b1 (.cells #[.int .i64 a1] 3 (0, 0))] := O50.close (y60.1, y60.2.1, y60.2.2.1, r73) A75 c76 hS
        have hS : Sat w86 B [orh 47 (Ept O50) 1 A4 c5 css9 ((o50.1).toNat) p0.2.1, O50 b61 (y60.1, y60.2.1, y60.2.2.1, r73), pts b0 (.cells #[.int .i64 p0.1, .slice A4 p0.2.1.length c5, .int .i64 p0.2.2.1, .bool p0.2.2.2.1, .int .i64 p0.2.2.2.2.1, .bool false] 46 (0, 0)), pts b1 (.cells #[.int .i64 a1] 3 (0, 0))] := hS.sel [2, 0, 1, 3] (by kernel_rfl)
        have hS : Sat w86 B [orw 47 (Ept O50) 1 A4 c5 (List.set p0.2.1 ((o50.1).toNat) (some (y60.1, y60.2.1, y60.2.2.1, r73))), pts b0 (.cells #[.int .i64 p0.1, .slice A4 p0.2.1.length c5, .int .i64 p0.2.2.1, .bool p0.2.2.2.1, .int .i64 p0.2.2.2.2.1, .bool false] 46 (0, 0)), pts b1 (.cells #[.int .i64 a1] 3 (0, 0))] := Sat.fillP hS C69
        have hl88 : List.length (List.set p0.2.1 ((o50.1).toNat) (some (y60.1, y60.2.1, y60.2.2.1, r73))) = List.length p0.2.1 := List.length_set
        have hS : Sat w86 B [orw 47 (Ept O50) 1 A4 c5 (List.set p0.2.1 ((o50.1).toNat) (some (y60.1, y60.2.1, y60.2.2.1, r73))), pts b0 (.cells #[.int .i64 p0.1, .slice A4 (List.set p0.2.1 ((o50.1).toNat) (some (y60.1, y60.2.1, y60.2.2.1, r73))).length c5, .int .i64 p0.2.2.1, .bool p0.2.2.2.1, .int .i64 p0.2.2.2.2.1, .bool false] 46 (0, 0)), pts b1 (.cells #[.int .i64 a1] 3 (0, 0))] := by simpa only [hl88] using hS
        have hS : Sat w86 B [pts b0 (.cells #[.int .i64 p0.1, .slice A4 (List.set p0.2.1 ((o50.1).toNat) (some (y60.1, y60.2.1, y60.2.2.1, r73))).length c5, .int .i64 p0.2.2.1, .bool p0.2.2.2.1, .int .i64 p0.2.2.2.2.1, .bool false] 46 (0, 0)), orw 47 (Ept O50) 1 A4 c5 (List.set p0.2.1 ((o50.1).toNat) (some (y60.1, y60.2.1, y60.2.2.1, r73))), pts b1 (.cells #[.int .i64 a1] 3 (0, 0))] := hS.sel [1, 0, 2] (by kernel_rfl)
        have hS : Sat w86 B [O46 b0 (p0.1, (List.set p0.2.1 ((o50.1).toNat) (some (y60.1, y60.2.1, y60.2.2.1, r73))), p0.2.2.1, p0.2.2.2.1, p0.2.2.2.2.1, false), pts b1 (.cells #[.int .i64 a1] 3 (0, 0))] := O46.close (p0.1, (List.set p0.2.1 ((o50.1).toNat) (some (y60.1, y60.2.1, y60.2.2.1, r73))), p0.2.2.1, p0.2.2.2.1, p0.2.2.2.2.1, false) A4 c5 hS
        have hS : Sat w86 B [O46 b0 (p0.1, (List.set p0.2.1 ((o50.1).toNat) (some (y60.1, y60.2.1, y60.2.2.1, r73))), p0.2.2.1, p0.2.2.2.1, p0.2.2.2.2.1, false)] := hS.sel [0] (by kernel_rfl)
        exact At.body [.bool true] (by kernel_rfl) ⟨_, rfl, rfl, hS⟩
      · replace H := ite_f H hb85
        refine WC.skip (by kernel_rfl) ?_
        refine At.go ?_
        refine WC.seq (by kernel_rfl) ?_
        refine WC.reg [0] (by kernel_rfl) (by kernel_rfl) ?_
        refine WR.runk [0] [] [4] (L' := [(4, .bool true)]) (w' := w84) (by kernel_rfl) ?_
        refine WR.nil ?_
        refine At.go ?_
        refine WC.ret (by kernel_rfl) ?_
        obtain rfl := Option.some.inj H
        have hS : Sat w84 B [pts b61 (.cells #[.int .i64 y60.1, .int .i64 y60.2.1, .int .i64 y60.2.2.1, .slice A75 r73.length c76] 50 (0, 0)), osl 55 (r0 (.pair (.int .i64) .bool)) 2 A75 c76 r73, orh 47 (Ept O50) 1 A4 c5 css9 ((o50.1).toNat) p0.2.1, pts b1 (.cells #[.int .i64 a1] 3 (0, 0)), pts b0 (.cells #[.int .i64 p0.1, .slice A4 p0.2.1.length c5, .int .i64 p0.2.2.1, .bool p0.2.2.2.1, .int .i64 p0.2.2.2.2.1, .bool p0.2.2.2.2.2] 46 (0, 0))] := hS.sel [0, 1, 2, 3, 4] (by kernel_rfl)
        have hS : Sat w84 B [O50 b61 (y60.1, y60.2.1, y60.2.2.1, r73), orh 47 (Ept O50) 1 A4 c5 css9 ((o50.1).toNat) p0.2.1, pts b1 (.cells #[.int .i64 a1] 3 (0, 0)), pts b0 (.cells #[.int .i64 p0.1, .slice A4 p0.2.1.length c5, .int .i64 p0.2.2.1, .bool p0.2.2.2.1, .int .i64 p0.2.2.2.2.1, .bool p0.2.2.2.2.2] 46 (0, 0))] := O50.close (y60.1, y60.2.1, y60.2.2.1, r73) A75 c76 hS
        have hS : Sat w84 B [orh 47 (Ept O50) 1 A4 c5 css9 ((o50.1).toNat) p0.2.1, O50 b61 (y60.1, y60.2.1, y60.2.2.1, r73), pts b1 (.cells #[.int .i64 a1] 3 (0, 0)), pts b0 (.cells #[.int .i64 p0.1, .slice A4 p0.2.1.length c5, .int .i64 p0.2.2.1, .bool p0.2.2.2.1, .int .i64 p0.2.2.2.2.1, .bool p0.2.2.2.2.2] 46 (0, 0))] := hS.sel [1, 0, 2, 3] (by kernel_rfl)
        have hS : Sat w84 B [orw 47 (Ept O50) 1 A4 c5 (List.set p0.2.1 ((o50.1).toNat) (some (y60.1, y60.2.1, y60.2.2.1, r73))), pts b1 (.cells #[.int .i64 a1] 3 (0, 0)), pts b0 (.cells #[.int .i64 p0.1, .slice A4 p0.2.1.length c5, .int .i64 p0.2.2.1, .bool p0.2.2.2.1, .int .i64 p0.2.2.2.2.1, .bool p0.2.2.2.2.2] 46 (0, 0))] := Sat.fillP hS C69
        have hl90 : List.length (List.set p0.2.1 ((o50.1).toNat) (some (y60.1, y60.2.1, y60.2.2.1, r73))) = List.length p0.2.1 := List.length_set
        have hS : Sat w84 B [orw 47 (Ept O50) 1 A4 c5 (List.set p0.2.1 ((o50.1).toNat) (some (y60.1, y60.2.1, y60.2.2.1, r73))), pts b1 (.cells #[.int .i64 a1] 3 (0, 0)), pts b0 (.cells #[.int .i64 p0.1, .slice A4 (List.set p0.2.1 ((o50.1).toNat) (some (y60.1, y60.2.1, y60.2.2.1, r73))).length c5, .int .i64 p0.2.2.1, .bool p0.2.2.2.1, .int .i64 p0.2.2.2.2.1, .bool p0.2.2.2.2.2] 46 (0, 0))] := by simpa only [hl90] using hS
        have hS : Sat w84 B [pts b0 (.cells #[.int .i64 p0.1, .slice A4 (List.set p0.2.1 ((o50.1).toNat) (some (y60.1, y60.2.1, y60.2.2.1, r73))).length c5, .int .i64 p0.2.2.1, .bool p0.2.2.2.1, .int .i64 p0.2.2.2.2.1, .bool p0.2.2.2.2.2] 46 (0, 0)), orw 47 (Ept O50) 1 A4 c5 (List.set p0.2.1 ((o50.1).toNat) (some (y60.1, y60.2.1, y60.2.2.1, r73))), pts b1 (.cells #[.int .i64 a1] 3 (0, 0))] := hS.sel [2, 0, 1] (by kernel_rfl)
        have hS : Sat w84 B [O46 b0 (p0.1, (List.set p0.2.1 ((o50.1).toNat) (some (y60.1, y60.2.1, y60.2.2.1, r73))), p0.2.2.1, p0.2.2.2.1, p0.2.2.2.2.1, p0.2.2.2.2.2), pts b1 (.cells #[.int .i64 a1] 3 (0, 0))] := O46.close (p0.1, (List.set p0.2.1 ((o50.1).toNat) (some (y60.1, y60.2.1, y60.2.2.1, r73))), p0.2.2.1, p0.2.2.2.1, p0.2.2.2.2.1, p0.2.2.2.2.2) A4 c5 hS
        have hS : Sat w84 B [O46 b0 (p0.1, (List.set p0.2.1 ((o50.1).toNat) (some (y60.1, y60.2.1, y60.2.2.1, r73))), p0.2.2.1, p0.2.2.2.1, p0.2.2.2.2.1, p0.2.2.2.2.2)] := hS.sel [0] (by kernel_rfl)
        exact At.body [.bool true] (by kernel_rfl) ⟨_, rfl, rfl, hS⟩
  · subst ho94
    dsimp only at H
    refine At.hit ?_
    refine At.go ?_
    refine WC.seq (by kernel_rfl) ?_
    refine WC.reg [0, 1] (by kernel_rfl) (by kernel_rfl) ?_
    refine WR.runk [0, 1] [] [4, 5] (L' := [(4, .pointer none), (5, .int .i64 (-1))]) (w' := w93) (by kernel_rfl) ?_
    refine WR.nil ?_
    refine At.go ?_
    refine WC.ret (by kernel_rfl) ?_
    refine At.bodyK [.pointer none, .int .i64 (-1)] (.tuple #[.pointer none, .int .i64 (-1)]) (by kernel_rfl) rfl ?_
    refine WR.runk [3, 4, 5, 6, 7] [] [0, 1, 5, 6] (L' := [(0, .pointer (some ⟨b0, 0, none⟩)), (1, .int .i64 a1), (5, .pointer none), (6, .int .i64 (-1))]) (w' := w93) (by kernel_rfl) ?_
    refine WR.nil ?_
    refine At.go ?_
    refine WC.seq (by kernel_rfl) ?_
    refine WC.seq (by kernel_rfl) ?_
    refine WC.reg [0, 1] (by kernel_rfl) (by kernel_rfl) ?_
    refine WR.runk [0, 1] [] [0, 1, 5, 6, 14] (L' := [(0, .pointer (some ⟨b0, 0, none⟩)), (1, .int .i64 a1), (5, .pointer none), (6, .int .i64 (-1)), (14, .bool (decide ((-1) < 0)))]) (w' := w93) (by kernel_rfl) ?_
    refine WR.nil ?_
    refine At.go ?_
    refine WC.cond (by kernel_rfl) (decide ((-1) < 0)) (by kernel_rfl) (by kernel_rfl) (fun hb95 => ?_) (fun hb95 => ?_)
    · replace H := ite_t H hb95
      refine WC.seq (by kernel_rfl) ?_
      refine WC.reg [0] (by kernel_rfl) (by kernel_rfl) ?_
      refine WR.runk [0] [] [4] (L' := [(4, .bool false)]) (w' := w93) (by kernel_rfl) ?_
      refine WR.nil ?_
      refine At.go ?_
      refine WC.ret (by kernel_rfl) ?_
      refine At.thenRet ?_
      obtain rfl := Option.some.inj H
      have hS : Sat w93 B [gh K6, pts b1 (.cells #[.int .i64 a1] 3 (0, 0)), pts b0 (.cells #[.int .i64 p0.1, .slice A4 p0.2.1.length c5, .int .i64 p0.2.2.1, .bool p0.2.2.2.1, .int .i64 p0.2.2.2.2.1, .bool p0.2.2.2.2.2] 46 (0, 0))] := hS.sel [2, 0, 1] (by kernel_rfl)
      have hS : Sat w93 B [orw 47 (Ept O50) 1 A4 c5 p0.2.1, pts b1 (.cells #[.int .i64 a1] 3 (0, 0)), pts b0 (.cells #[.int .i64 p0.1, .slice A4 p0.2.1.length c5, .int .i64 p0.2.2.1, .bool p0.2.2.2.1, .int .i64 p0.2.2.2.2.1, .bool p0.2.2.2.2.2] 46 (0, 0))] := Sat.ungh hK7 hS
      have hS : Sat w93 B [pts b0 (.cells #[.int .i64 p0.1, .slice A4 p0.2.1.length c5, .int .i64 p0.2.2.1, .bool p0.2.2.2.1, .int .i64 p0.2.2.2.2.1, .bool p0.2.2.2.2.2] 46 (0, 0)), orw 47 (Ept O50) 1 A4 c5 p0.2.1, pts b1 (.cells #[.int .i64 a1] 3 (0, 0))] := hS.sel [2, 0, 1] (by kernel_rfl)
      have hS : Sat w93 B [O46 b0 p0, pts b1 (.cells #[.int .i64 a1] 3 (0, 0))] := O46.close p0 A4 c5 hS
      have hS : Sat w93 B [O46 b0 p0] := hS.sel [0] (by kernel_rfl)
      exact At.body [.bool false] (by kernel_rfl) ⟨_, rfl, rfl, hS⟩
    · replace H := ite_f H hb95
      refine WC.skip (by kernel_rfl) ?_
      refine At.go ?_
      refine WC.seq (by kernel_rfl) ?_
      refine WC.reg [0, 1, 2, 3, 4, 5, 6, 7, 8, 9, 10, 11] (by kernel_rfl) (by kernel_rfl) ?_
      refine WR.runk [0, 1] [2, 3, 4, 5, 6, 7, 8, 9, 10, 11] [0, 1, 6, 15, 16] (L' := [(0, .pointer (some ⟨b0, 0, none⟩)), (1, .int .i64 a1), (6, .int .i64 (-1)), (15, .pointer none), (16, .pointer none)]) (w' := w93) (by kernel_rfl) ?_
      exact absurd (show none = some _ from H) (by simp)
/-! ### 10 (*colophon/fair.Ring).Next -/
def fair_Ring_Next_nil0.f : Option (Int × Int × Bool) := some ((-1), (-1), false)
def fair_Ring_Next_nil0.post (w : World) (r : Int × Int × Bool) (v : Value) (w' : World) : Prop := v = .tuple #[.int .i64 r.1, .int .i64 r.2.1, .bool r.2.2] ∧ Sat w' (rf w) []
theorem fair_Ring_Next_nil0.calls (w0 : World) (r : Int × Int × Bool) (H : fair_Ring_Next_nil0.f = some r) :
    Calls Try.prog 10 #[.pointer none] w0 (fun e w' => ∃ v, e = .returned v ∧ fair_Ring_Next_nil0.post w0 r v w') := by
  have hS : Sat w0 (rf w0) [] := Sat.start w0
  unfold fair_Ring_Next_nil0.f at H
  refine calls_of_WC (vs := [.pointer none]) Try.func10 (c := C10) (n := 128) (by kernel_rfl) (by kernel_rfl) (by kernel_rfl) ?_
  refine WC.seq (by kernel_rfl) ?_
  refine WC.reg [0, 1, 2] (by kernel_rfl) (by kernel_rfl) ?_
  refine WR.runk [0, 1, 2] [] [0] (L' := [(0, .pointer none)]) (w' := w0) (by kernel_rfl) ?_
  refine WR.nil ?_
  refine At.go ?_
  refine WC.seq (by kernel_rfl) ?_
  refine WC.seq (by kernel_rfl) ?_
  refine WC.reg [0, 1, 2, 3, 4, 5, 6, 7, 8, 9] (by kernel_rfl) (by kernel_rfl) ?_
  refine WR.runk [0, 1, 2, 3, 4, 5, 6, 7, 8, 9] [] [0, 16] (L' := [(0, .pointer none), (16, .bool true)]) (w' := w0) (by kernel_rfl) ?_
  refine WR.nil ?_
  refine At.go ?_
  refine WC.condT (by kernel_rfl) (by kernel_rfl) (by kernel_rfl) ?_
  refine WC.seq (by kernel_rfl) ?_
  refine WC.reg [0, 1, 2] (by kernel_rfl) (by kernel_rfl) ?_
  refine WR.runk [0, 1, 2] [] [2, 3, 4] (L' := [(2, .int .i64 (-1)), (3, .int .i64 (-1)), (4, .bool false)]) (w' := w0) (by kernel_rfl) ?_
  refine WR.nil ?_
  refine At.go ?_
  refine WC.ret (by kernel_rfl) ?_
  refine At.thenRet ?_
  obtain rfl := Option.some.inj H
  have hS : Sat w0 (rf w0) [] := hS.sel [] (by kernel_rfl)
  exact At.body [.int .i64 (-1), .int .i64 (-1), .bool false] (by kernel_rfl) ⟨_, rfl, rfl, hS⟩
/-! ### 9 (*colophon/fair.Ring).Add -/
def fair_Ring_Add_nil0.f (a1 : Int) (a2 : Int) : Option Bool := some false
def fair_Ring_Add_nil0.post (w : World) (r : Bool) (v : Value) (w' : World) : Prop := v = (.bool r : Value) ∧ Sat w' (rf w) []
theorem fair_Ring_Add_nil0.calls (w0 : World) (a1 : Int) (a2 : Int) (r : Bool) (H : fair_Ring_Add_nil0.f a1 a2 = some r) :
    Calls Try.prog 9 #[.pointer none, .int .i64 a1, .int .i64 a2] w0 (fun e w' => ∃ v, e = .returned v ∧ fair_Ring_Add_nil0.post w0 r v w') := by
  have hS : Sat w0 (rf w0) [] := Sat.start w0
  unfold fair_Ring_Add_nil0.f at H
  refine calls_of_WC (vs := [.pointer none, .int .i64 a1, .int .i64 a2]) Try.func9 (c := C9) (n := 36) (by kernel_rfl) (by kernel_rfl) (by kernel_rfl) ?_
  refine WC.seq (by kernel_rfl) ?_
  refine WC.reg [0] (by kernel_rfl) (by kernel_rfl) ?_
  refine WR.runk [0] [] [0, 1, 2] (L' := [(0, .pointer none), (1, .int .i64 a1), (2, .int .i64 a2)]) (w' := w0) (by kernel_rfl) ?_
  refine WR.nil ?_
  refine At.go ?_
  refine WC.seq (by kernel_rfl) ?_
  refine WC.reg [0, 1, 2, 3] (by kernel_rfl) (by kernel_rfl) ?_
  refine WR.runk [0, 1] [2, 3] [0, 2, 10, 11] (L' := [(0, .pointer none), (2, .int .i64 a2), (10, .pointer none), (11, .int .i64 a1)]) (w' := w0) (by kernel_rfl) ?_
  refine WR.st (St.call (by kernel_rfl) (f := 16) (args := #[.pointer none, .int .i64 a1]) (by kernel_rfl) (calls_of_WC (vs := [.pointer none, .int .i64 a1]) Try.func16 (c := C16) (n := 27) (by kernel_rfl) (by kernel_rfl) (by kernel_rfl) ?_) (fun _ _ h => h))
  refine WC.seq (by kernel_rfl) ?_
  refine WC.reg [0] (by kernel_rfl) (by kernel_rfl) ?_
  refine WR.runk [0] [] [0, 1] (L' := [(0, .pointer none), (1, .int .i64 a1)]) (w' := w0) (by kernel_rfl) ?_
  refine WR.nil ?_
  refine At.go ?_
  refine WC.seq (by kernel_rfl) ?_
  refine WC.seq (by kernel_rfl) ?_
  refine WC.reg [0, 1, 2, 3, 4, 5, 6, 7, 8, 9, 10, 11, 12, 13, 14] (by kernel_rfl) (by kernel_rfl) ?_
  refine WR.runk [0, 1, 2, 3, 4, 5, 6, 7, 8, 9, 10, 11, 12, 13, 14] [] [0, 1, 19] (L' := [(0, .pointer none), (1, .int .i64 a1), (19, .bool true)]) (w' := w0) (by kernel_rfl) ?_
  refine WR.nil ?_
  refine At.go ?_
  refine WC.condT (by kernel_rfl) (by kernel_rfl) (by kernel_rfl) ?_
  refine WC.seq (by kernel_rfl) ?_
  refine WC.reg [0] (by kernel_rfl) (by kernel_rfl) ?_
  refine WR.runk [0] [] [4] (L' := [(4, .pointer none)]) (w' := w0) (by kernel_rfl) ?_
  refine WR.nil ?_
  refine At.go ?_
  refine WC.ret (by kernel_rfl) ?_
  refine At.thenRet ?_
  refine At.bodyK [.pointer none] (.pointer none) (by kernel_rfl) rfl ?_
  refine WR.runk [3] [] [0, 2, 7] (L' := [(0, .pointer none), (2, .int .i64 a2), (7, .pointer none)]) (w' := w0) (by kernel_rfl) ?_
  refine WR.nil ?_
  refine At.go ?_
  refine WC.seq (by kernel_rfl) ?_
  refine WC.seq (by kernel_rfl) ?_
  refine WC.reg [0, 1, 2, 3, 4, 5, 6, 7] (by kernel_rfl) (by kernel_rfl) ?_
  refine WR.runk [0, 1] [2, 3, 4, 5, 6, 7] [2, 7, 14, 15] (L' := [(2, .int .i64 a2), (7, .pointer none), (14, .pointer none), (15, .int .i64 a2)]) (w' := w0) (by kernel_rfl) ?_
  refine WR.st (St.call (by kernel_rfl) (f := 17) (args := #[.pointer none, .int .i64 a2]) (by kernel_rfl) (calls_of_WC (vs := [.pointer none, .int .i64 a2]) Try.func17 (c := C17) (n := 31) (by kernel_rfl) (by kernel_rfl) (by kernel_rfl) ?_) (fun _ _ h => h))
  refine WC.seq (by kernel_rfl) ?_
  refine WC.reg [0, 1, 2] (by kernel_rfl) (by kernel_rfl) ?_
  refine WR.runk [] [0, 1, 2] [0, 1] (L' := [(0, .pointer none), (1, .int .i64 a2)]) (w' := w0) (by kernel_rfl) ?_
  refine WR.st (St.box hS (by kernel_rfl) (.cells #[.int .i64 a2] 3) (fun b1 => .pointer (some ⟨b1, 0, none⟩)) (fun _ => by kernel_rfl) (fun b1 w2 hS => ?_))
  refine WR.runk [1, 2] [] [0, 3] (L' := [(0, .pointer none), (3, .pointer (some ⟨b1, 0, none⟩))]) (w' := w2) (by kernel_rfl) ?_
  refine WR.nil ?_
  refine At.go ?_
  refine WC.seq (by kernel_rfl) ?_
  refine WC.seq (by kernel_rfl) ?_
  refine WC.reg [0, 1] (by kernel_rfl) (by kernel_rfl) ?_
  refine WR.runk [0, 1] [] [0, 3, 10] (L' := [(0, .pointer none), (3, .pointer (some ⟨b1, 0, none⟩)), (10, .bool true)]) (w' := w2) (by kernel_rfl) ?_
  refine WR.nil ?_
  refine At.go ?_
  refine WC.condT (by kernel_rfl) (by kernel_rfl) (by kernel_rfl) ?_
  refine WC.seq (by kernel_rfl) ?_
  refine WC.reg [0, 1] (by kernel_rfl) (by kernel_rfl) ?_
  refine WR.runk [0, 1] [] [4, 5] (L' := [(4, .pointer none), (5, .int .i64 (-1))]) (w' := w2) (by kernel_rfl) ?_
  refine WR.nil ?_
  refine At.go ?_
  refine WC.ret (by kernel_rfl) ?_
  refine At.thenRet ?_
  refine At.bodyK [.pointer none, .int .i64 (-1)] (.tuple #[.pointer none, .int .i64 (-1)]) (by kernel_rfl) rfl ?_
  refine WR.runk [3, 4, 5, 6, 7] [] [2, 7, 9] (L' := [(2, .int .i64 a2), (7, .pointer none), (9, .int .i64 (-1))]) (w' := w2) (by kernel_rfl) ?_
  refine WR.nil ?_
  refine At.go ?_
  refine WC.seq (by kernel_rfl) ?_
  refine WC.reg [0, 1, 2, 3, 4, 5] (by kernel_rfl) (by kernel_rfl) ?_
  refine WR.runk [0, 1, 2, 3, 4, 5] [] [2, 7, 24] (L' := [(2, .int .i64 a2), (7, .pointer none), (24, .bool true)]) (w' := w2) (by kernel_rfl) ?_
  refine WR.nil ?_
  refine At.go ?_
  refine WC.condT (by kernel_rfl) (by kernel_rfl) (by kernel_rfl) ?_
  refine WC.seq (by kernel_rfl) ?_
  refine WC.reg [0] (by kernel_rfl) (by kernel_rfl) ?_
  refine WR.runk [0] [] [6] (L' := [(6, .bool false)]) (w' := w2) (by kernel_rfl) ?_
  refine WR.nil ?_
  refine At.go ?_
  refine WC.ret (by kernel_rfl) ?_
  refine At.thenRet ?_
  obtain rfl := Option.some.inj H
  have hS : Sat w2 (rf w0) [] := hS.sel [] (by kernel_rfl)
  exact At.body [.bool false] (by kernel_rfl) ⟨_, rfl, rfl, hS⟩
/-! ### 14 (*colophon/fair.Ring).Take -/
def fair_Ring_Take_nil0.f (a1 : Int) : Option Bool := (if decide ((-1) < 0) then some false else none)
def fair_Ring_Take_nil0.post (w : World) (r : Bool) (v : Value) (w' : World) : Prop := v = (.bool r : Value) ∧ Sat w' (rf w) []
theorem fair_Ring_Take_nil0.calls (w0 : World) (a1 : Int) (r : Bool) (H : fair_Ring_Take_nil0.f a1 = some r) :
    Calls Try.prog 14 #[.pointer none, .int .i64 a1] w0 (fun e w' => ∃ v, e = .returned v ∧ fair_Ring_Take_nil0.post w0 r v w') := by
  have hS : Sat w0 (rf w0) [] := Sat.start w0
  unfold fair_Ring_Take_nil0.f at H
  refine calls_of_WC (vs := [.pointer none, .int .i64 a1]) Try.func14 (c := C14) (n := 35) (by kernel_rfl) (by kernel_rfl) (by kernel_rfl) ?_
  refine WC.seq (by kernel_rfl) ?_
  refine WC.reg [0] (by kernel_rfl) (by kernel_rfl) ?_
  refine WR.runk [0] [] [0, 1] (L' := [(0, .pointer none), (1, .int .i64 a1)]) (w' := w0) (by kernel_rfl) ?_
  refine WR.nil ?_
  refine At.go ?_
  refine WC.seq (by kernel_rfl) ?_
  refine WC.reg [0, 1, 2, 3, 4, 5, 6, 7] (by kernel_rfl) (by kernel_rfl) ?_
  refine WR.runk [0, 1] [2, 3, 4, 5, 6, 7] [0, 1, 8, 9] (L' := [(0, .pointer none), (1, .int .i64 a1), (8, .pointer none), (9, .int .i64 a1)]) (w' := w0) (by kernel_rfl) ?_
  refine WR.st (St.call (by kernel_rfl) (f := 17) (args := #[.pointer none, .int .i64 a1]) (by kernel_rfl) (calls_of_WC (vs := [.pointer none, .int .i64 a1]) Try.func17 (c := C17) (n := 31) (by kernel_rfl) (by kernel_rfl) (by kernel_rfl) ?_) (fun _ _ h => h))
  refine WC.seq (by kernel_rfl) ?_
  refine WC.reg [0, 1, 2] (by kernel_rfl) (by kernel_rfl) ?_
  refine WR.runk [] [0, 1, 2] [0, 1] (L' := [(0, .pointer none), (1, .int .i64 a1)]) (w' := w0) (by kernel_rfl) ?_
  refine WR.st (St.box hS (by kernel_rfl) (.cells #[.int .i64 a1] 3) (fun b1 => .pointer (some ⟨b1, 0, none⟩)) (fun _ => by kernel_rfl) (fun b1 w2 hS => ?_))
  refine WR.runk [1, 2] [] [0, 3] (L' := [(0, .pointer none), (3, .pointer (some ⟨b1, 0, none⟩))]) (w' := w2) (by kernel_rfl) ?_
  refine WR.nil ?_
  refine At.go ?_
  refine WC.seq (by kernel_rfl) ?_
  refine WC.seq (by kernel_rfl) ?_
  refine WC.reg [0, 1] (by kernel_rfl) (by kernel_rfl) ?_
  refine WR.runk [0, 1] [] [0, 3, 10] (L' := [(0, .pointer none), (3, .pointer (some ⟨b1, 0, none⟩)), (10, .bool true)]) (w' := w2) (by kernel_rfl) ?_
  refine WR.nil ?_
  refine At.go ?_
  refine WC.condT (by kernel_rfl) (by kernel_rfl) (by kernel_rfl) ?_
  refine WC.seq (by kernel_rfl) ?_
  refine WC.reg [0, 1] (by kernel_rfl) (by kernel_rfl) ?_
  refine WR.runk [0, 1] [] [4, 5] (L' := [(4, .pointer none), (5, .int .i64 (-1))]) (w' := w2) (by kernel_rfl) ?_
  refine WR.nil ?_
  refine At.go ?_
  refine WC.ret (by kernel_rfl) ?_
  refine At.thenRet ?_
  refine At.bodyK [.pointer none, .int .i64 (-1)] (.tuple #[.pointer none, .int .i64 (-1)]) (by kernel_rfl) rfl ?_
  refine WR.runk [3, 4, 5, 6, 7] [] [0, 1, 5, 6] (L' := [(0, .pointer none), (1, .int .i64 a1), (5, .pointer none), (6, .int .i64 (-1))]) (w' := w2) (by kernel_rfl) ?_
  refine WR.nil ?_
  refine At.go ?_
  refine WC.seq (by kernel_rfl) ?_
  refine WC.seq (by kernel_rfl) ?_
  refine WC.reg [0, 1] (by kernel_rfl) (by kernel_rfl) ?_
  refine WR.runk [0, 1] [] [0, 1, 5, 6, 14] (L' := [(0, .pointer none), (1, .int .i64 a1), (5, .pointer none), (6, .int .i64 (-1)), (14, .bool (decide ((-1) < 0)))]) (w' := w2) (by kernel_rfl) ?_
  refine WR.nil ?_
  refine At.go ?_
  refine WC.cond (by kernel_rfl) (decide ((-1) < 0)) (by kernel_rfl) (by kernel_rfl) (fun hb4 => ?_) (fun hb4 => ?_)
  · replace H := ite_t H hb4
    refine WC.seq (by kernel_rfl) ?_
    refine WC.reg [0] (by kernel_rfl) (by kernel_rfl) ?_
    refine WR.runk [0] [] [4] (L' := [(4, .bool false)]) (w' := w2) (by kernel_rfl) ?_
    refine WR.nil ?_
    refine At.go ?_
    refine WC.ret (by kernel_rfl) ?_
    refine At.thenRet ?_
    obtain rfl := Option.some.inj H
    have hS : Sat w2 (rf w0) [] := hS.sel [] (by kernel_rfl)
    exact At.body [.bool false] (by kernel_rfl) ⟨_, rfl, rfl, hS⟩
  · replace H := ite_f H hb4
    refine WC.skip (by kernel_rfl) ?_
    refine At.go ?_
    refine WC.seq (by kernel_rfl) ?_
    refine WC.reg [0, 1, 2, 3, 4, 5, 6, 7, 8, 9, 10, 11] (by kernel_rfl) (by kernel_rfl) ?_
    refine WR.runk [0, 1] [2, 3, 4, 5, 6, 7, 8, 9, 10, 11] [0, 1, 6, 15, 16] (L' := [(0, .pointer none), (1, .int .i64 a1), (6, .int .i64 (-1)), (15, .pointer none), (16, .pointer none)]) (w' := w2) (by kernel_rfl) ?_
    exact absurd (show none = some _ from H) (by simp)
/-! ### 13 (*colophon/fair.Ring).Hold -/
def fair_Ring_Hold_nil0.f (a1 : Int) (a2 : Bool) : Option Bool := (if decide ((-1) ≥ 0) then none else some (decide ((-1) ≥ 0)))
def fair_Ring_Hold_nil0.post (w : World) (r : Bool) (v : Value) (w' : World) : Prop := v = (.bool r : Value) ∧ Sat w' (rf w) []
theorem fair_Ring_Hold_nil0.calls (w0 : World) (a1 : Int) (a2 : Bool) (r : Bool) (H : fair_Ring_Hold_nil0.f a1 a2 = some r) :
    Calls Try.prog 13 #[.pointer none, .int .i64 a1, .bool a2] w0 (fun e w' => ∃ v, e = .returned v ∧ fair_Ring_Hold_nil0.post w0 r v w') := by
  have hS : Sat w0 (rf w0) [] := Sat.start w0
  unfold fair_Ring_Hold_nil0.f at H
  refine calls_of_WC (vs := [.pointer none, .int .i64 a1, .bool a2]) Try.func13 (c := C13) (n := 27) (by kernel_rfl) (by kernel_rfl) (by kernel_rfl) ?_
  refine WC.seq (by kernel_rfl) ?_
  refine WC.reg [0] (by kernel_rfl) (by kernel_rfl) ?_
  refine WR.runk [0] [] [0, 1, 2] (L' := [(0, .pointer none), (1, .int .i64 a1), (2, .bool a2)]) (w' := w0) (by kernel_rfl) ?_
  refine WR.nil ?_
  refine At.go ?_
  refine WC.seq (by kernel_rfl) ?_
  refine WC.reg [0, 1, 2, 3, 4, 5, 6, 7] (by kernel_rfl) (by kernel_rfl) ?_
  refine WR.runk [0, 1] [2, 3, 4, 5, 6, 7] [2, 10, 11] (L' := [(2, .bool a2), (10, .pointer none), (11, .int .i64 a1)]) (w' := w0) (by kernel_rfl) ?_
  refine WR.st (St.call (by kernel_rfl) (f := 17) (args := #[.pointer none, .int .i64 a1]) (by kernel_rfl) (calls_of_WC (vs := [.pointer none, .int .i64 a1]) Try.func17 (c := C17) (n := 31) (by kernel_rfl) (by kernel_rfl) (by kernel_rfl) ?_) (fun _ _ h => h))
  refine WC.seq (by kernel_rfl) ?_
  refine WC.reg [0, 1, 2] (by kernel_rfl) (by kernel_rfl) ?_
  refine WR.runk [] [0, 1, 2] [0, 1] (L' := [(0, .pointer none), (1, .int .i64 a1)]) (w' := w0) (by kernel_rfl) ?_
  refine WR.st (St.box hS (by kernel_rfl) (.cells #[.int .i64 a1] 3) (fun b1 => .pointer (some ⟨b1, 0, none⟩)) (fun _ => by kernel_rfl) (fun b1 w2 hS => ?_))
  refine WR.runk [1, 2] [] [0, 3] (L' := [(0, .pointer none), (3, .pointer (some ⟨b1, 0, none⟩))]) (w' := w2) (by kernel_rfl) ?_
  refine WR.nil ?_
  refine At.go ?_
  refine WC.seq (by kernel_rfl) ?_
  refine WC.seq (by kernel_rfl) ?_
  refine WC.reg [0, 1] (by kernel_rfl) (by kernel_rfl) ?_
  refine WR.runk [0, 1] [] [0, 3, 10] (L' := [(0, .pointer none), (3, .pointer (some ⟨b1, 0, none⟩)), (10, .bool true)]) (w' := w2) (by kernel_rfl) ?_
  refine WR.nil ?_
  refine At.go ?_
  refine WC.condT (by kernel_rfl) (by kernel_rfl) (by kernel_rfl) ?_
  refine WC.seq (by kernel_rfl) ?_
  refine WC.reg [0, 1] (by kernel_rfl) (by kernel_rfl) ?_
  refine WR.runk [0, 1] [] [4, 5] (L' := [(4, .pointer none), (5, .int .i64 (-1))]) (w' := w2) (by kernel_rfl) ?_
  refine WR.nil ?_
  refine At.go ?_
  refine WC.ret (by kernel_rfl) ?_
  refine At.thenRet ?_
  refine At.bodyK [.pointer none, .int .i64 (-1)] (.tuple #[.pointer none, .int .i64 (-1)]) (by kernel_rfl) rfl ?_
  refine WR.runk [3, 4, 5, 6, 7] [] [2, 7, 8] (L' := [(2, .bool a2), (7, .pointer none), (8, .int .i64 (-1))]) (w' := w2) (by kernel_rfl) ?_
  refine WR.nil ?_
  refine At.go ?_
  refine WC.seq (by kernel_rfl) ?_
  refine WC.seq (by kernel_rfl) ?_
  refine WC.reg [0, 1] (by kernel_rfl) (by kernel_rfl) ?_
  refine WR.runk [0, 1] [] [2, 7, 8, 16] (L' := [(2, .bool a2), (7, .pointer none), (8, .int .i64 (-1)), (16, .bool (decide ((-1) ≥ 0)))]) (w' := w2) (by kernel_rfl) ?_
  refine WR.nil ?_
  refine At.go ?_
  refine WC.cond (by kernel_rfl) (decide ((-1) ≥ 0)) (by kernel_rfl) (by kernel_rfl) (fun hb4 => ?_) (fun hb4 => ?_)
  · replace H := ite_t H hb4
    refine WC.reg [0, 1, 2, 3, 4, 5, 6, 7, 8] (by kernel_rfl) (by kernel_rfl) ?_
    refine WR.runk [0] [1, 2, 3, 4, 5, 6, 7, 8] [2, 8, 17] (L' := [(2, .bool a2), (8, .int .i64 (-1)), (17, .pointer none)]) (w' := w2) (by kernel_rfl) ?_
    exact absurd (show none = some _ from H) (by simp)
  · replace H := ite_f H hb4
    refine WC.skip (by kernel_rfl) ?_
    refine At.go ?_
    refine WC.seq (by kernel_rfl) ?_
    refine WC.reg [0, 1, 2] (by kernel_rfl) (by kernel_rfl) ?_
    refine WR.runk [0, 1, 2] [] [6] (L' := [(6, .bool (decide ((-1) ≥ 0)))]) (w' := w2) (by kernel_rfl) ?_
    refine WR.nil ?_
    refine At.go ?_
    refine WC.ret (by kernel_rfl) ?_
    obtain rfl := Option.some.inj H
    have hS : Sat w2 (rf w0) [] := hS.sel [] (by kernel_rfl)
    exact At.body [.bool (decide ((-1) ≥ 0))] (by kernel_rfl) ⟨_, rfl, rfl, hS⟩
/-! ### 11 (*colophon/fair.Ring).Charge -/
def fair_Ring_Charge_nil0.f (a1 : Int) : Option Bool := some false
def fair_Ring_Charge_nil0.post (w : World) (r : Bool) (v : Value) (w' : World) : Prop := v = (.bool r : Value) ∧ Sat w' (rf w) []
theorem fair_Ring_Charge_nil0.calls (w0 : World) (a1 : Int) (r : Bool) (H : fair_Ring_Charge_nil0.f a1 = some r) :
    Calls Try.prog 11 #[.pointer none, .int .i64 a1] w0 (fun e w' => ∃ v, e = .returned v ∧ fair_Ring_Charge_nil0.post w0 r v w') := by
  have hS : Sat w0 (rf w0) [] := Sat.start w0
  unfold fair_Ring_Charge_nil0.f at H
  refine calls_of_WC (vs := [.pointer none, .int .i64 a1]) Try.func11 (c := C11) (n := 74) (by kernel_rfl) (by kernel_rfl) (by kernel_rfl) ?_
  refine WC.seq (by kernel_rfl) ?_
  refine WC.reg [0] (by kernel_rfl) (by kernel_rfl) ?_
  refine WR.runk [0] [] [0, 1] (L' := [(0, .pointer none), (1, .int .i64 a1)]) (w' := w0) (by kernel_rfl) ?_
  refine WR.nil ?_
  refine At.go ?_
  refine WC.seq (by kernel_rfl) ?_
  refine WC.seq (by kernel_rfl) ?_
  refine WC.reg [0, 1, 2, 3, 4, 5, 6, 7, 8, 9, 10, 11, 12, 13, 14, 15, 16] (by kernel_rfl) (by kernel_rfl) ?_
  refine WR.runk [0, 1, 2, 3, 4, 5, 6, 7, 8, 9, 10, 11, 12, 13, 14, 15, 16] [] [0, 1, 24] (L' := [(0, .pointer none), (1, .int .i64 a1), (24, .bool true)]) (w' := w0) (by kernel_rfl) ?_
  refine WR.nil ?_
  refine At.go ?_
  refine WC.condT (by kernel_rfl) (by kernel_rfl) (by kernel_rfl) ?_
  refine WC.seq (by kernel_rfl) ?_
  refine WC.reg [0] (by kernel_rfl) (by kernel_rfl) ?_
  refine WR.runk [0] [] [4] (L' := [(4, .bool false)]) (w' := w0) (by kernel_rfl) ?_
  refine WR.nil ?_
  refine At.go ?_
  refine WC.ret (by kernel_rfl) ?_
  refine At.thenRet ?_
  obtain rfl := Option.some.inj H
  have hS : Sat w0 (rf w0) [] := hS.sel [] (by kernel_rfl)
  exact At.body [.bool false] (by kernel_rfl) ⟨_, rfl, rfl, hS⟩
/-! ### 15 (*colophon/fair.Ring).Credit -/
def fair_Ring_Credit.f (p0 : Option (Int × (List (Option (Int × Int × Int × (List (Int × Bool))))) × Int × Bool × Int × Bool)) (a1 : Int) : Option Int := (match p0 with | none => some 0 | some y3 => (if decide (a1 < 0) then some 0 else (if decide (a1 ≥ (y3.2.1.length : Int)) then some 0 else ((at? y3.2.1 a1).bind fun v14 => (match v14 with | none => some 0 | some y20 => some y20.2.1)))))
def fair_Ring_Credit.post (w : World) (r : Int) (v : Value) (w' : World) : Prop := v = (.int .i64 r : Value) ∧ Sat w' (rf w) []
theorem fair_Ring_Credit.calls (w0 : World) (v0 : Value) (p0 : Option (Int × (List (Option (Int × Int × Int × (List (Int × Bool))))) × Int × Bool × Int × Bool)) (R0 : rd (hp w0) (.ptr 46 (.pair (.int .i64) (.pair (.slice 47 (.ptr 50 (.pair (.int .i64) (.pair (.int .i64) (.pair (.int .i64) (.slice 55 (.pair (.int .i64) .bool))))))) (.pair (.int .i64) (.pair .bool (.pair (.int .i64) .bool)))))) [v0] p0) (a1 : Int) (r : Int) (H : fair_Ring_Credit.f p0 a1 = some r) :
    Calls Try.prog 15 #[v0, .int .i64 a1] w0 (fun e w' => ∃ v, e = .returned v ∧ fair_Ring_Credit.post w0 r v w') := by
  have hS : Sat w0 (rf w0) [] := Sat.start w0
  unfold fair_Ring_Credit.f at H
  refine calls_of_WC (vs := [v0, .int .i64 a1]) Try.func15 (c := C15) (n := 15) (by kernel_rfl) (by kernel_rfl) (by kernel_rfl) ?_
  refine WC.seq (by kernel_rfl) ?_
  refine WC.reg [0] (by kernel_rfl) (by kernel_rfl) ?_
  refine WR.runk [0] [] [0, 1] (L' := [(0, v0), (1, .int .i64 a1)]) (w' := w0) (by kernel_rfl) ?_
  refine WR.nil ?_
  refine At.go ?_
  refine WC.seq (by kernel_rfl) ?_
  refine WC.seq (by kernel_rfl) ?_
  refine WC.reg [0, 1, 2, 3] (by kernel_rfl) (by kernel_rfl) ?_
  refine WR.runk [0, 1] [2, 3] [6, 7] (L' := [(6, v0), (7, .int .i64 a1)]) (w' := w0) (by kernel_rfl) ?_
  refine WR.st (St.call (by kernel_rfl) (f := 16) (args := #[v0, .int .i64 a1]) (by kernel_rfl) (calls_of_WC (vs := [v0, .int .i64 a1]) Try.func16 (c := C16) (n := 27) (by kernel_rfl) (by kernel_rfl) (by kernel_rfl) ?_) (fun _ _ h => h))
  refine WC.seq (by kernel_rfl) ?_
  refine WC.reg [0] (by kernel_rfl) (by kernel_rfl) ?_
  refine WR.runk [0] [] [0, 1] (L' := [(0, v0), (1, .int .i64 a1)]) (w' := w0) (by kernel_rfl) ?_
  refine WR.nil ?_
  refine At.go ?_
  refine WC.seq (by kernel_rfl) ?_
  refine WC.seq (by kernel_rfl) ?_
  refine WC.reg [0, 1, 2, 3, 4, 5, 6, 7, 8, 9, 10, 11, 12, 13, 14] (by kernel_rfl) (by kernel_rfl) ?_
  refine WR.runk [0] [1, 2, 3, 4, 5, 6, 7, 8, 9, 10, 11, 12, 13, 14] [0, 1, 5] (L' := [(0, v0), (1, .int .i64 a1), (5, v0)]) (w' := w0) (by kernel_rfl) ?_
  rcases opt_cases p0 with hr1 | ⟨y3, hr1⟩
  · rw [hr1] at H
    dsimp only at H
    have hx2 := rd_ptr_none R0 hr1
    try subst hx2
    refine WR.runk [1, 2, 3, 4, 5, 6, 7, 8, 9, 10, 11, 12, 13, 14] [] [0, 1, 19] (L' := [(0, .pointer none), (1, .int .i64 a1), (19, .bool true)]) (w' := w0) (by kernel_rfl) ?_
    refine WR.nil ?_
    refine At.go ?_
    refine WC.condT (by kernel_rfl) (by kernel_rfl) (by kernel_rfl) ?_
    refine WC.seq (by kernel_rfl) ?_
    refine WC.reg [0] (by kernel_rfl) (by kernel_rfl) ?_
    refine WR.runk [0] [] [4] (L' := [(4, .pointer none)]) (w' := w0) (by kernel_rfl) ?_
    refine WR.nil ?_
    refine At.go ?_
    refine WC.ret (by kernel_rfl) ?_
    refine At.thenRet ?_
    refine At.bodyK [.pointer none] (.pointer none) (by kernel_rfl) rfl ?_
    refine WR.runk [3] [] [5] (L' := [(5, .pointer none)]) (w' := w0) (by kernel_rfl) ?_
    refine WR.nil ?_
    refine At.go ?_
    refine WC.seq (by kernel_rfl) ?_
    refine WC.reg [0, 1] (by kernel_rfl) (by kernel_rfl) ?_
    refine WR.runk [0, 1] [] [5, 10] (L' := [(5, .pointer none), (10, .bool false)]) (w' := w0) (by kernel_rfl) ?_
    refine WR.nil ?_
    refine At.go ?_
    refine WC.condF (by kernel_rfl) (by kernel_rfl) (by kernel_rfl) ?_
    refine WC.skip (by kernel_rfl) ?_
    refine At.go ?_
    refine WC.seq (by kernel_rfl) ?_
    refine WC.reg [0] (by kernel_rfl) (by kernel_rfl) ?_
    refine WR.runk [0] [] [4] (L' := [(4, .int .i64 0)]) (w' := w0) (by kernel_rfl) ?_
    refine WR.nil ?_
    refine At.go ?_
    refine WC.ret (by kernel_rfl) ?_
    obtain rfl := Option.some.inj H
    have hS : Sat w0 (rf w0) [] := hS.sel [] (by kernel_rfl)
    exact At.body [.int .i64 0] (by kernel_rfl) ⟨_, rfl, rfl, hS⟩
  · rw [hr1] at H
    dsimp only at H
    obtain ⟨b4, fr5, A9, c10, hv6, hb7, R11⟩ := P46.open R0 hr1
    have R8 := R0
    rw [hv6, hr1] at R8
    try subst hv6
    replace R11 : rdS (rd (hp w0) (.ptr 50 (.pair (.int .i64) (.pair (.int .i64) (.pair (.int .i64) (.slice 55 (.pair (.int .i64) .bool))))))) 1 (hp w0) A9 c10 y3.2.1 := R11
    refine WR.runk [1, 2, 3, 4, 5, 6] [7, 8, 9, 10, 11, 12, 13, 14] [0, 1, 11] (L' := [(0, .pointer (some ⟨b4, 0, none⟩)), (1, .int .i64 a1), (11, .bool (decide (a1 < 0)))]) (w' := w0) (by kernel_rfl) ?_
    refine WR.split 11 (b := decide (a1 < 0)) (by kernel_rfl) (fun hb12 => ?_) (fun hb12 => ?_)
    · replace H := ite_t H hb12
      refine WR.runk [7, 8, 9, 10, 11, 12, 13, 14] [] [0, 1, 19] (L' := [(0, .pointer (some ⟨b4, 0, none⟩)), (1, .int .i64 a1), (19, .bool true)]) (w' := w0) (by kernel_rfl) ?_
      refine WR.nil ?_
      refine At.go ?_
      refine WC.condT (by kernel_rfl) (by kernel_rfl) (by kernel_rfl) ?_
      refine WC.seq (by kernel_rfl) ?_
      refine WC.reg [0] (by kernel_rfl) (by kernel_rfl) ?_
      refine WR.runk [0] [] [4] (L' := [(4, .pointer none)]) (w' := w0) (by kernel_rfl) ?_
      refine WR.nil ?_
      refine At.go ?_
      refine WC.ret (by kernel_rfl) ?_
      refine At.thenRet ?_
      refine At.bodyK [.pointer none] (.pointer none) (by kernel_rfl) rfl ?_
      refine WR.runk [3] [] [5] (L' := [(5, .pointer none)]) (w' := w0) (by kernel_rfl) ?_
      refine WR.nil ?_
      refine At.go ?_
      refine WC.seq (by kernel_rfl) ?_
      refine WC.reg [0, 1] (by kernel_rfl) (by kernel_rfl) ?_
      refine WR.runk [0, 1] [] [5, 10] (L' := [(5, .pointer none), (10, .bool false)]) (w' := w0) (by kernel_rfl) ?_
      refine WR.nil ?_
      refine At.go ?_
      refine WC.condF (by kernel_rfl) (by kernel_rfl) (by kernel_rfl) ?_
      refine WC.skip (by kernel_rfl) ?_
      refine At.go ?_
      refine WC.seq (by kernel_rfl) ?_
      refine WC.reg [0] (by kernel_rfl) (by kernel_rfl) ?_
      refine WR.runk [0] [] [4] (L' := [(4, .int .i64 0)]) (w' := w0) (by kernel_rfl) ?_
      refine WR.nil ?_
      refine At.go ?_
      refine WC.ret (by kernel_rfl) ?_
      obtain rfl := Option.some.inj H
      have hS : Sat w0 (rf w0) [] := hS.sel [] (by kernel_rfl)
      exact At.body [.int .i64 0] (by kernel_rfl) ⟨_, rfl, rfl, hS⟩
    · replace H := ite_f H hb12
      refine WR.runk [7, 8, 9, 10] [11, 12, 13, 14] [0, 1, 11, 12, 15] (L' := [(0, .pointer (some ⟨b4, 0, none⟩)), (1, .int .i64 a1), (11, .bool false), (12, .int .i64 a1), (15, .pointer (some ⟨b4, 1, none⟩))]) (w' := w0) (by kernel_rfl) ?_
      refine WR.st (St.ofR (RSt.loadRo (t := 44) (k := 1) (v := .slice A9 y3.2.1.length c10) (.tmp 15) (by kernel_rfl) (by kernel_rfl) (by kernel_rfl) hS.sub0 hb7 (by kernel_rfl) rfl ?_))
      refine WR.runk [12, 13, 14] [] [0, 1, 19] (L' := [(0, .pointer (some ⟨b4, 0, none⟩)), (1, .int .i64 a1), (19, .bool (decide (a1 ≥ (y3.2.1.length : Int))))]) (w' := w0) (by kernel_rfl) ?_
      refine WR.nil ?_
      refine At.go ?_
      refine WC.cond (by kernel_rfl) (decide (a1 ≥ (y3.2.1.length : Int))) (by kernel_rfl) (by kernel_rfl) (fun hb13 => ?_) (fun hb13 => ?_)
      · replace H := ite_t H hb13
        refine WC.seq (by kernel_rfl) ?_
        refine WC.reg [0] (by kernel_rfl) (by kernel_rfl) ?_
        refine WR.runk [0] [] [4] (L' := [(4, .pointer none)]) (w' := w0) (by kernel_rfl) ?_
        refine WR.nil ?_
        refine At.go ?_
        refine WC.ret (by kernel_rfl) ?_
        refine At.thenRet ?_
        refine At.bodyK [.pointer none] (.pointer none) (by kernel_rfl) rfl ?_
        refine WR.runk [3] [] [5] (L' := [(5, .pointer none)]) (w' := w0) (by kernel_rfl) ?_
        refine WR.nil ?_
        refine At.go ?_
        refine WC.seq (by kernel_rfl) ?_
        refine WC.reg [0, 1] (by kernel_rfl) (by kernel_rfl) ?_
        refine WR.runk [0, 1] [] [5, 10] (L' := [(5, .pointer none), (10, .bool false)]) (w' := w0) (by kernel_rfl) ?_
        refine WR.nil ?_
        refine At.go ?_
        refine WC.condF (by kernel_rfl) (by kernel_rfl) (by kernel_rfl) ?_
        refine WC.skip (by kernel_rfl) ?_
        refine At.go ?_
        refine WC.seq (by kernel_rfl) ?_
        refine WC.reg [0] (by kernel_rfl) (by kernel_rfl) ?_
        refine WR.runk [0] [] [4] (L' := [(4, .int .i64 0)]) (w' := w0) (by kernel_rfl) ?_
        refine WR.nil ?_
        refine At.go ?_
        refine WC.ret (by kernel_rfl) ?_
        obtain rfl := Option.some.inj H
        have hS : Sat w0 (rf w0) [] := hS.sel [] (by kernel_rfl)
        exact At.body [.int .i64 0] (by kernel_rfl) ⟨_, rfl, rfl, hS⟩
      · replace H := ite_f H hb13
        refine WC.skip (by kernel_rfl) ?_
        refine At.go ?_
        refine WC.seq (by kernel_rfl) ?_
        refine WC.reg [0, 1, 2, 3, 4, 5, 6, 7] (by kernel_rfl) (by kernel_rfl) ?_
        refine WR.runk [0, 1, 2] [3, 4, 5, 6, 7] [1, 22] (L' := [(1, .int .i64 a1), (22, .pointer (some ⟨b4, 1, none⟩))]) (w' := w0) (by kernel_rfl) ?_
        refine WR.st (St.ofR (RSt.loadRo (t := 44) (k := 1) (v := .slice A9 y3.2.1.length c10) (.tmp 22) (by kernel_rfl) (by kernel_rfl) (by kernel_rfl) hS.sub0 hb7 (by kernel_rfl) rfl ?_))
        refine WR.runk [4] [5, 6, 7] [23, 24] (L' := [(23, .slice A9 y3.2.1.length c10), (24, .int .i64 a1)]) (w' := w0) (by kernel_rfl) ?_
        obtain ⟨v14, e15, H⟩ := bind_ex H
        refine WR.st (St.ofP (PSt.idx (k := .i64) (.tmp 23) (.tmp 24) (by kernel_rfl) (by kernel_rfl) E44 (by kernel_rfl) (by kernel_rfl) (rdS.up R11 hS.sub0) e15 ?_))
        refine WR.runk [] [6, 7] [25] (L' := [(25, .pointer (some (adr A9 a1.toNat 1)))]) (w' := w0) (by kernel_rfl) ?_
        refine WR.st (St.ofR (RSt.loadPtr (t := 47) (.tmp 25) (by kernel_rfl) (by kernel_rfl) (by kernel_rfl) (by kernel_rfl) R11 e15 hS.sub0 (fun u16 R17 => ?_)))
        replace R17 : rd (hp w0) (.ptr 50 (.pair (.int .i64) (.pair (.int .i64) (.pair (.int .i64) (.slice 55 (.pair (.int .i64) .bool)))))) [u16] v14 := R17
        refine WR.runk [7] [] [4] (L' := [(4, u16)]) (w' := w0) (by kernel_rfl) ?_
        refine WR.nil ?_
        refine At.go ?_
        refine WC.ret (by kernel_rfl) ?_
        refine At.bodyK [u16] (u16) (by kernel_rfl) rfl ?_
        refine WR.runk [3] [] [5] (L' := [(5, u16)]) (w' := w0) (by kernel_rfl) ?_
        refine WR.nil ?_
        refine At.go ?_
        refine WC.seq (by kernel_rfl) ?_
        refine WC.reg [0, 1] (by kernel_rfl) (by kernel_rfl) ?_
        refine WR.runk [0] [1] [5, 9] (L' := [(5, u16), (9, u16)]) (w' := w0) (by kernel_rfl) ?_
        rcases opt_cases v14 with hr18 | ⟨y20, hr18⟩
        · rw [hr18] at H
          dsimp only at H
          have hx19 := rd_ptr_none R17 hr18
          try subst hx19
          refine WR.runk [1] [] [5, 10] (L' := [(5, .pointer none), (10, .bool false)]) (w' := w0) (by kernel_rfl) ?_
          refine WR.nil ?_
          refine At.go ?_
          refine WC.condF (by kernel_rfl) (by kernel_rfl) (by kernel_rfl) ?_
          refine WC.skip (by kernel_rfl) ?_
          refine At.go ?_
          refine WC.seq (by kernel_rfl) ?_
          refine WC.reg [0] (by kernel_rfl) (by kernel_rfl) ?_
          refine WR.runk [0] [] [4] (L' := [(4, .int .i64 0)]) (w' := w0) (by kernel_rfl) ?_
          refine WR.nil ?_
          refine At.go ?_
          refine WC.ret (by kernel_rfl) ?_
          obtain rfl := Option.some.inj H
          have hS : Sat w0 (rf w0) [] := hS.sel [] (by kernel_rfl)
          exact At.body [.int .i64 0] (by kernel_rfl) ⟨_, rfl, rfl, hS⟩
        · rw [hr18] at H
          dsimp only at H
          obtain ⟨b21, fr22, A26, c27, hv23, hb24, R28⟩ := P50.open R17 hr18
          have R25 := R17
          rw [hv23, hr18] at R25
          try subst hv23
          replace R28 : rdS (r0 (.pair (.int .i64) .bool)) 2 (hp w0) A26 c27 y20.2.2.2 := R28
          refine WR.runk [1] [] [5, 10] (L' := [(5, .pointer (some ⟨b21, 0, none⟩)), (10, .bool true)]) (w' := w0) (by kernel_rfl) ?_
          refine WR.nil ?_
          refine At.go ?_
          refine WC.condT (by kernel_rfl) (by kernel_rfl) (by kernel_rfl) ?_
          refine WC.seq (by kernel_rfl) ?_
          refine WC.reg [0, 1, 2, 3, 4] (by kernel_rfl) (by kernel_rfl) ?_
          refine WR.runk [0, 1, 2] [3, 4] [13] (L' := [(13, .pointer (some ⟨b21, 1, none⟩))]) (w' := w0) (by kernel_rfl) ?_
          refine WR.st (St.ofR (RSt.loadRo (t := 3) (k := 1) (v := .int .i64 y20.2.1) (.tmp 13) (by kernel_rfl) (by kernel_rfl) (by kernel_rfl) hS.sub0 hb24 (by kernel_rfl) rfl ?_))
          refine WR.runk [4] [] [4] (L' := [(4, .int .i64 y20.2.1)]) (w' := w0) (by kernel_rfl) ?_
          refine WR.nil ?_
          refine At.go ?_
          refine WC.ret (by kernel_rfl) ?_
          refine At.thenRet ?_
          obtain rfl := Option.some.inj H
          have hS : Sat w0 (rf w0) [] := hS.sel [] (by kernel_rfl)
          exact At.body [.int .i64 y20.2.1] (by kernel_rfl) ⟨_, rfl, rfl, hS⟩
end Go.Proofs.Ytnffhpnlehcoiaa
