/-
  Printed by gen.py (my own tool): for each Go function a plain Lean function and the proof that a call of it does what that function says.
-/
import Derived.Test.YtnffhpnlehcoiaaGP1
set_option linter.unusedVariables false
set_option linter.unusedSimpArgs false
set_option maxRecDepth 100000
namespace Go.Proofs.Ytnffhpnlehcoiaa
open Go Go.Gol
/-! ### 10 (*colophon/fair.Ring).Next -/
def fair_Ring_Next.l1 (p0 : Int × (List (Option (Int × Int × Int × (List (Int × Bool))))) × Int × Bool × Int × Bool) : Nat → Int → Option (Sum Int Unit)
  | 0, _ => none
  | k + 1, x8_l1 => (if decide (x8_l1 < (p0.2.1.length : Int)) then ((at? p0.2.1 x8_l1).bind fun v9 => ((fair_Ring_Next_1.f v9).bind fun r14 => (if r14 then some (.inl x8_l1) else fair_Ring_Next.l1 p0 k (wi (x8_l1 + 1))))) else some (.inr ()))
def fair_Ring_Next.j2 (p0 : Int × (List (Option (Int × Int × Int × (List (Int × Bool))))) × Int × Bool × Int × Bool) : Option Bool := ((fair_Ring_Next.l1 p0 FU 0).bind fun o24 => (match o24 with | .inl o26 => some (!(decide (o26 ≥ 0))) | .inr o30 => some (!(decide ((-1) ≥ 0)))))
def fair_Ring_Next.j1 (p0 : Int × (List (Option (Int × Int × Int × (List (Int × Bool))))) × Int × Bool × Int × Bool) : Option (Sum Unit Unit) := ((fair_Ring_Next.j2 p0).bind fun o34 => (if o34 then some (.inl ()) else some (.inr ())))
def fair_Ring_Next.j4 (q0_l2 : Int × (List (Option (Int × Int × Int × (List (Int × Bool))))) × Int × Bool × Int × Bool) (v59 : Option (Int × Int × Int × (List (Int × Bool)))) (r64 : Int) : Option (Int × Bool) := (if q0_l2.2.2.2.1 then (if decide (r64 ≥ 0) then (v59.bind fun y77 => some (q0_l2.2.2.1, decide (y77.2.1 > 0))) else some (q0_l2.2.2.1, false)) else some (q0_l2.2.2.1, false))
def fair_Ring_Next.j3 (q0_l2 : Int × (List (Option (Int × Int × Int × (List (Int × Bool))))) × Int × Bool × Int × Bool) (v59 : Option (Int × Int × Int × (List (Int × Bool)))) (r64 : Int) : Option (Sum (Int × Int × Int × Bool) Int) := ((fair_Ring_Next.j4 q0_l2 v59 r64).bind fun o87 => (if o87.2 then ((at? q0_l2.2.1 o87.1).bind fun v93 => (v93.bind fun y98 => ((at? y98.2.2.2 r64).bind fun v108 => some (.inl (q0_l2.2.2.1, v108.1, v108.1, true))))) else some (.inr o87.1)))
def fair_Ring_Next.j6 (q0_l2 : Int × (List (Option (Int × Int × Int × (List (Int × Bool))))) × Int × Bool × Int × Bool) (r64 : Int) : Option Bool := (if q0_l2.2.2.2.1 then some (decide (r64 < 0)) else some false)
def fair_Ring_Next.j5 (q0_l2 : Int × (List (Option (Int × Int × Int × (List (Int × Bool))))) × Int × Bool × Int × Bool) (r64 : Int) (o120 : Int) : Option (List (Option (Int × Int × Int × (List (Int × Bool))))) := ((fair_Ring_Next.j6 q0_l2 r64).bind fun o125 => (if o125 then ((at? q0_l2.2.1 o120).bind fun v131 => (v131.bind fun y136 => some (List.set q0_l2.2.1 o120.toNat (some (y136.1, imin y136.2.1 0, y136.2.2.1, y136.2.2.2))))) else some q0_l2.2.1))
def fair_Ring_Next.l2 : Nat → (Int × (List (Option (Int × Int × Int × (List (Int × Bool))))) × Int × Bool × Int × Bool) → Option (Int × Int × Bool × (Int × (List (Option (Int × Int × Int × (List (Int × Bool))))) × Int × Bool × Int × Bool))
  | 0, _ => none
  | k + 1, q0_l2 => ((at? q0_l2.2.1 q0_l2.2.2.1).bind fun v59 => ((fair_line_ready.f v59).bind fun r64 => ((fair_Ring_Next.j3 q0_l2 v59 r64).bind fun o114 => (match o114 with | .inl o116 => some (o116.1, o116.2.1, true, (q0_l2.1, q0_l2.2.1, q0_l2.2.2.1, q0_l2.2.2.2.1, o116.2.2.1, o116.2.2.2)) | .inr o120 => ((fair_Ring_Next.j5 q0_l2 r64 o120).bind fun o151 => ((chk? (decide ((o151.length : Int) ≠ 0))).bind fun _ => ((at? o151 (Int.tmod (wi (q0_l2.2.2.1 + 1)) (o151.length : Int))).bind fun v168 => ((fair_line_ready.f v168).bind fun r173 => (if decide (r173 ≥ 0) then (v168.bind fun y187 => fair_Ring_Next.l2 k (q0_l2.1, (List.set o151 ((Int.tmod (wi (q0_l2.2.2.1 + 1)) (o151.length : Int)).toNat) (some (y187.1, wi (y187.2.1 + (wi (q0_l2.1 * y187.1))), y187.2.2.1, y187.2.2.2))), Int.tmod (wi (q0_l2.2.2.1 + 1)) (o151.length : Int), true, q0_l2.2.2.2.2.1, q0_l2.2.2.2.2.2)) else fair_Ring_Next.l2 k (q0_l2.1, o151, Int.tmod (wi (q0_l2.2.2.1 + 1)) (o151.length : Int), true, q0_l2.2.2.2.2.1, q0_l2.2.2.2.2.2))))))))))
def fair_Ring_Next.f (p0 : Int × (List (Option (Int × Int × Int × (List (Int × Bool))))) × Int × Bool × Int × Bool) : Option (Int × Int × Bool × (Int × (List (Option (Int × Int × Int × (List (Int × Bool))))) × Int × Bool × Int × Bool)) := ((fair_Ring_Next.j1 p0).bind fun o40 => (match o40 with | .inl o42 => some ((-1), (-1), false, p0) | .inr o46 => ((fair_Ring_Next.l2 FU p0).bind fun o202 => some (o202.1, o202.2.1, o202.2.2.1, o202.2.2.2))))
def fair_Ring_Next.post (B : Rf) (b0 : Nat) (p0 : Int × (List (Option (Int × Int × Int × (List (Int × Bool))))) × Int × Bool × Int × Bool) (w : World) (r : Int × Int × Bool × (Int × (List (Option (Int × Int × Int × (List (Int × Bool))))) × Int × Bool × Int × Bool)) (v : Value) (w' : World) : Prop := v = .tuple #[.int .i64 r.1, .int .i64 r.2.1, .bool r.2.2.1] ∧ Sat w' B [O46 b0 r.2.2.2]
theorem fair_Ring_Next.l1_ok {Q} (B : Rf) (b0 : Nat) (p0 : Int × (List (Option (Int × Int × Int × (List (Int × Bool))))) × Int × Bool × Int × Bool) (A1 : Option Addr) (c2 : Nat) (K3 : Heap) (css6 : List (List Value)) (R5 : rdS (rd K3 (.ptr 50 (.pair (.int .i64) (.pair (.int .i64) (.pair (.int .i64) (.slice 55 (.pair (.int .i64) .bool))))))) 1 K3 A1 c2 p0.2.1) (hC7 : orc 47 (Ept O50) 1 A1 c2 css6 p0.2.1 K3) (out : Sum Int Unit) (hn0 : ∀ (o0 : Int) (w : World), out = (.inl o0) → Sat w B [pts b0 (.cells #[.int .i64 p0.1, .slice A1 p0.2.1.length c2, .int .i64 p0.2.2.1, .bool p0.2.2.2.1, .int .i64 p0.2.2.2.2.1, .bool p0.2.2.2.2.2] 46 (0, 0)), gh K3] → At Q .ret 19 [(4, .int .i64 o0)] w) (hn1 : ∀ (o1 : Unit) (w : World), out = (.inr o1) → Sat w B [pts b0 (.cells #[.int .i64 p0.1, .slice A1 p0.2.1.length c2, .int .i64 p0.2.2.1, .bool p0.2.2.2.1, .int .i64 p0.2.2.2.2.1, .bool p0.2.2.2.2.2] 46 (0, 0)), gh K3] → At Q (.exit 0) 19 [] w) :
    ∀ (k : Nat) (x8_l1 : Int) (w : World), Sat w B [gh K3, pts b0 (.cells #[.int .i64 p0.1, .slice A1 p0.2.1.length c2, .int .i64 p0.2.2.1, .bool p0.2.2.2.1, .int .i64 p0.2.2.2.2.1, .bool p0.2.2.2.2.2] 46 (0, 0))] → fair_Ring_Next.l1 p0 k x8_l1 = some out → WL Try.prog (cbody (cbody (cr (cl (cr C24))))) Q 19 [(0, .slice A1 p0.2.1.length c2), (1, .func (.func 19) #[] #[]), (7, .int .i64 (p0.2.1.length : Int)), (8, .int .i64 x8_l1)] w := by
  intro k
  induction k with
  | zero => intro x8_l1 w hS H; exact absurd (show none = some out from H) (by simp)
  | succ k ih =>
    intro x8_l1 w hS H
    unfold fair_Ring_Next.l1 at H
    refine WL.round ?_
    refine WC.seq (by kernel_rfl) ?_
    refine WC.reg [0] (by kernel_rfl) (by kernel_rfl) ?_
    refine WR.runk [0] [] [0, 1, 7, 8, 9] (L' := [(0, .slice A1 p0.2.1.length c2), (1, .func (.func 19) #[] #[]), (7, .int .i64 (p0.2.1.length : Int)), (8, .int .i64 x8_l1), (9, .bool (decide (x8_l1 < (p0.2.1.length : Int))))]) (w' := w) (by kernel_rfl) ?_
    refine WR.nil ?_
    refine At.go ?_
    refine WC.seq (by kernel_rfl) ?_
    refine WC.cond (by kernel_rfl) (decide (x8_l1 < (p0.2.1.length : Int))) (by kernel_rfl) (by kernel_rfl) (fun hb8 => ?_) (fun hb8 => ?_)
    · replace H := ite_t H hb8
      refine WC.skip (by kernel_rfl) ?_
      refine At.go ?_
      refine WC.seq (by kernel_rfl) ?_
      refine WC.block (by kernel_rfl) ?_
      refine WC.seq (by kernel_rfl) ?_
      refine WC.reg [0, 1] (by kernel_rfl) (by kernel_rfl) ?_
      refine WR.runk [0, 1] [] [0, 1, 5, 7, 8] (L' := [(0, .slice A1 p0.2.1.length c2), (1, .func (.func 19) #[] #[]), (5, .int .i64 x8_l1), (7, .int .i64 (p0.2.1.length : Int)), (8, .int .i64 x8_l1)]) (w' := w) (by kernel_rfl) ?_
      refine WR.nil ?_
      refine At.go ?_
      refine WC.seq (by kernel_rfl) ?_
      refine WC.reg [0, 1, 2, 3, 4, 5] (by kernel_rfl) (by kernel_rfl) ?_
      refine WR.runk [0, 1, 2] [3, 4, 5] [0, 1, 5, 7, 8, 11, 12, 13] (L' := [(0, .slice A1 p0.2.1.length c2), (1, .func (.func 19) #[] #[]), (5, .int .i64 x8_l1), (7, .int .i64 (p0.2.1.length : Int)), (8, .int .i64 x8_l1), (11, .func (.func 19) #[] #[]), (12, .slice A1 p0.2.1.length c2), (13, .int .i64 x8_l1)]) (w' := w) (by kernel_rfl) ?_
      obtain ⟨v9, e10, H⟩ := bind_ex H
      refine WR.st (St.ofP (PSt.idx (k := .i64) (.tmp 12) (.tmp 13) (by kernel_rfl) (by kernel_rfl) E44 (by kernel_rfl) (by kernel_rfl) (rdS.upd R5 (Sat.ghAt 0 hS rfl)) e10 ?_))
      refine WR.runk [] [4, 5] [0, 1, 5, 7, 8, 11, 14] (L' := [(0, .slice A1 p0.2.1.length c2), (1, .func (.func 19) #[] #[]), (5, .int .i64 x8_l1), (7, .int .i64 (p0.2.1.length : Int)), (8, .int .i64 x8_l1), (11, .func (.func 19) #[] #[]), (14, .pointer (some (adr A1 x8_l1.toNat 1)))]) (w' := w) (by kernel_rfl) ?_
      refine WR.st (St.ofR (RSt.loadRow (t := 47) (κ := (.ptr 50 (.pair (.int .i64) (.pair (.int .i64) (.pair (.int .i64) (.slice 55 (.pair (.int .i64) .bool))))))) (Ept.rd (t := 50) (κ := (.pair (.int .i64) (.pair (.int .i64) (.pair (.int .i64) (.slice 55 (.pair (.int .i64) .bool)))))) (O := O50) O50.rd) (.tmp 14) (by kernel_rfl) (by kernel_rfl) (by kernel_rfl) (by kernel_rfl) hC7 e10 (Sat.ghAt 0 hS rfl) (fun u11 C12 R13 => ?_)))
      replace R13 : rd K3 (.ptr 50 (.pair (.int .i64) (.pair (.int .i64) (.pair (.int .i64) (.slice 55 (.pair (.int .i64) .bool)))))) [u11] v9 := R13
      replace C12 : css6[x8_l1.toNat]? = some [u11] := C12
      refine WR.runk [] [5] [0, 1, 5, 7, 8, 11, 15] (L' := [(0, .slice A1 p0.2.1.length c2), (1, .func (.func 19) #[] #[]), (5, .int .i64 x8_l1), (7, .int .i64 (p0.2.1.length : Int)), (8, .int .i64 x8_l1), (11, .func (.func 19) #[] #[]), (15, u11)]) (w' := w) (by kernel_rfl) ?_
      obtain ⟨r14, e15, H⟩ := bind_ex H
      refine WR.st (St.call (by kernel_rfl) (f := 19) (args := #[u11]) (by kernel_rfl) (fair_Ring_Next_1.calls w (u11) v9 (rd.mono (Sat.ghAt 0 hS rfl) _ _ _ R13) r14 e15) ?_)
      rintro _ w21 ⟨rfl, hS22⟩
      have hS : Sat w21 B [gh K3, pts b0 (.cells #[.int .i64 p0.1, .slice A1 p0.2.1.length c2, .int .i64 p0.2.2.1, .bool p0.2.2.2.1, .int .i64 p0.2.2.2.2.1, .bool p0.2.2.2.2.2] 46 (0, 0))] := hS.ext hS22
      refine WR.runk [] [] [0, 1, 5, 7, 8, 16] (L' := [(0, .slice A1 p0.2.1.length c2), (1, .func (.func 19) #[] #[]), (5, .int .i64 x8_l1), (7, .int .i64 (p0.2.1.length : Int)), (8, .int .i64 x8_l1), (16, .bool r14)]) (w' := w21) (by kernel_rfl) ?_
      refine WR.nil ?_
      refine At.go ?_
      refine WC.cond (by kernel_rfl) r14 (by kernel_rfl) (by kernel_rfl) (fun hb23 => ?_) (fun hb23 => ?_)
      · replace H := ite_t H hb23
        refine WC.seq (by kernel_rfl) ?_
        refine WC.reg [0, 1] (by kernel_rfl) (by kernel_rfl) ?_
        refine WR.runk [0, 1] [] [4] (L' := [(4, .int .i64 x8_l1)]) (w' := w21) (by kernel_rfl) ?_
        refine WR.nil ?_
        refine At.go ?_
        refine WC.ret (by kernel_rfl) ?_
        refine At.blockRet ?_
        refine At.thenRet ?_
        refine At.thenRet ?_
        obtain rfl := Option.some.inj H
        have hS : Sat w21 B [pts b0 (.cells #[.int .i64 p0.1, .slice A1 p0.2.1.length c2, .int .i64 p0.2.2.1, .bool p0.2.2.2.1, .int .i64 p0.2.2.2.2.1, .bool p0.2.2.2.2.2] 46 (0, 0)), gh K3] := hS.sel [1, 0] (by kernel_rfl)
        refine At.weaken [4] (L' := [(4, .int .i64 x8_l1)]) (by kernel_rfl) ?_
        exact hn0 x8_l1 _ rfl hS
      · replace H := ite_f H hb23
        refine WC.skip (by kernel_rfl) ?_
        refine At.blockNormal ?_
        refine At.go ?_
        refine WC.reg [0, 1] (by kernel_rfl) (by kernel_rfl) ?_
        refine WR.runk [0, 1] [] [0, 1, 7, 8] (L' := [(0, .slice A1 p0.2.1.length c2), (1, .func (.func 19) #[] #[]), (7, .int .i64 (p0.2.1.length : Int)), (8, .int .i64 (wi (x8_l1 + 1)))]) (w' := w21) (by kernel_rfl) ?_
        refine WR.nil ?_
        have hS : Sat w21 B [gh K3, pts b0 (.cells #[.int .i64 p0.1, .slice A1 p0.2.1.length c2, .int .i64 p0.2.2.1, .bool p0.2.2.2.1, .int .i64 p0.2.2.2.2.1, .bool p0.2.2.2.2.2] 46 (0, 0))] := hS.sel [0, 1] (by kernel_rfl)
        refine At.again ?_
        refine WL.weaken [0, 1, 7, 8] (L' := [(0, .slice A1 p0.2.1.length c2), (1, .func (.func 19) #[] #[]), (7, .int .i64 (p0.2.1.length : Int)), (8, .int .i64 (wi (x8_l1 + 1)))]) (by kernel_rfl) ?_
        exact ih (wi (x8_l1 + 1)) _ hS H
    · replace H := ite_f H hb8
      refine WC.exit (by kernel_rfl) ?_
      refine At.thenExit ?_
      refine At.thenExit ?_
      obtain rfl := Option.some.inj H
      have hS : Sat w B [pts b0 (.cells #[.int .i64 p0.1, .slice A1 p0.2.1.length c2, .int .i64 p0.2.2.1, .bool p0.2.2.2.1, .int .i64 p0.2.2.2.2.1, .bool p0.2.2.2.2.2] 46 (0, 0)), gh K3] := hS.sel [1, 0] (by kernel_rfl)
      refine At.weaken [] (L' := []) (by kernel_rfl) ?_
      exact hn1 () _ rfl hS
theorem fair_Ring_Next.j2_ok {Q} (B : Rf) (b0 : Nat) (p0 : Int × (List (Option (Int × Int × Int × (List (Int × Bool))))) × Int × Bool × Int × Bool) (out : Bool) (hn0 : ∀ (w : World), Sat w B [O46 b0 p0] → At Q .normal 128 [(0, .pointer (some ⟨b0, 0, none⟩)), (16, .bool out)] w) (w : World) : Sat w B [O46 b0 p0] → fair_Ring_Next.j2 p0 = some out → WC Try.prog (cl (cl (cr C10))) Q 128 [(0, .pointer (some ⟨b0, 0, none⟩))] w := by
  intro hS H
  unfold fair_Ring_Next.j2 at H
  refine WC.reg [0, 1, 2, 3, 4, 5, 6, 7, 8, 9] (by kernel_rfl) (by kernel_rfl) ?_
  refine WR.runk [0, 1, 2, 3, 4, 5] [6, 7, 8, 9] [0, 9, 12] (L' := [(0, .pointer (some ⟨b0, 0, none⟩)), (9, .bool false), (12, .pointer (some ⟨b0, 1, none⟩))]) (w' := w) (by kernel_rfl) ?_
  obtain ⟨A1, c2, hS⟩ := O46.open hS
  have hS : Sat w B [pts b0 (.cells #[.int .i64 p0.1, .slice A1 p0.2.1.length c2, .int .i64 p0.2.2.1, .bool p0.2.2.2.1, .int .i64 p0.2.2.2.2.1, .bool p0.2.2.2.2.2] 46 (0, 0)), orw 47 (Ept O50) 1 A1 c2 p0.2.1] := hS
  refine WR.st (St.ofR (RSt.loadObj (t := 44) (k := 1) (v := .slice A1 p0.2.1.length c2) (.tmp 12) (by kernel_rfl) (by kernel_rfl) (by kernel_rfl) 0 hS rfl (by kernel_rfl) rfl ?_))
  refine WR.runk [] [7, 8, 9] [0, 9, 13] (L' := [(0, .pointer (some ⟨b0, 0, none⟩)), (9, .bool false), (13, .slice A1 p0.2.1.length c2)]) (w' := w) (by kernel_rfl) ?_
  refine WR.st (St.call (by kernel_rfl) (f := 18) (args := #[.slice A1 p0.2.1.length c2, .func (.func 19) #[] #[]]) (by kernel_rfl) (calls_of_WC (vs := [.slice A1 p0.2.1.length c2, .func (.func 19) #[] #[]]) Try.func18 (c := C18) (n := 9) (by kernel_rfl) (by kernel_rfl) (by kernel_rfl) ?_) (fun _ _ h => h))
  refine WC.seq (by kernel_rfl) ?_
  refine WC.reg [0] (by kernel_rfl) (by kernel_rfl) ?_
  refine WR.runk [0] [] [0, 1] (L' := [(0, .slice A1 p0.2.1.length c2), (1, .func (.func 19) #[] #[])]) (w' := w) (by kernel_rfl) ?_
  refine WR.nil ?_
  refine At.go ?_
  refine WC.seq (by kernel_rfl) ?_
  refine WC.reg [0, 1, 2, 3, 4] (by kernel_rfl) (by kernel_rfl) ?_
  refine WR.runk [0, 1] [2, 3, 4] [5, 6] (L' := [(5, .slice A1 p0.2.1.length c2), (6, .func (.func 19) #[] #[])]) (w' := w) (by kernel_rfl) ?_
  refine WR.st (St.call (by kernel_rfl) (f := 24) (args := #[.slice A1 p0.2.1.length c2, .func (.func 19) #[] #[]]) (by kernel_rfl) (calls_of_WC (vs := [.slice A1 p0.2.1.length c2, .func (.func 19) #[] #[]]) Try.func24 (c := C24) (n := 19) (by kernel_rfl) (by kernel_rfl) (by kernel_rfl) ?_) (fun _ _ h => h))
  refine WC.seq (by kernel_rfl) ?_
  refine WC.reg [0] (by kernel_rfl) (by kernel_rfl) ?_
  refine WR.runk [0] [] [0, 1] (L' := [(0, .slice A1 p0.2.1.length c2), (1, .func (.func 19) #[] #[])]) (w' := w) (by kernel_rfl) ?_
  refine WR.nil ?_
  refine At.go ?_
  refine WC.seq (by kernel_rfl) ?_
  refine WC.seq (by kernel_rfl) ?_
  refine WC.reg [0, 1, 2] (by kernel_rfl) (by kernel_rfl) ?_
  refine WR.runk [0, 1, 2] [] [0, 1, 7, 8] (L' := [(0, .slice A1 p0.2.1.length c2), (1, .func (.func 19) #[] #[]), (7, .int .i64 (p0.2.1.length : Int)), (8, .int .i64 0)]) (w' := w) (by kernel_rfl) ?_
  refine WR.nil ?_
  refine At.go ?_
  refine WC.block (by kernel_rfl) ?_
  have hS : Sat w B [orw 47 (Ept O50) 1 A1 c2 p0.2.1, pts b0 (.cells #[.int .i64 p0.1, .slice A1 p0.2.1.length c2, .int .i64 p0.2.2.1, .bool p0.2.2.2.1, .int .i64 p0.2.2.2.2.1, .bool p0.2.2.2.2.2] 46 (0, 0))] := hS.sel [1, 0] (by kernel_rfl)
  obtain ⟨K3, hK4, hS⟩ := Sat.gho hS
  have hS : Sat w B [gh K3, pts b0 (.cells #[.int .i64 p0.1, .slice A1 p0.2.1.length c2, .int .i64 p0.2.2.1, .bool p0.2.2.2.1, .int .i64 p0.2.2.2.2.1, .bool p0.2.2.2.2.2] 46 (0, 0))] := hS
  have R5 : rdS (rd K3 (.ptr 50 (.pair (.int .i64) (.pair (.int .i64) (.pair (.int .i64) (.slice 55 (.pair (.int .i64) .bool))))))) 1 K3 A1 c2 p0.2.1 := orw.rdS (κ := (.ptr 50 (.pair (.int .i64) (.pair (.int .i64) (.pair (.int .i64) (.slice 55 (.pair (.int .i64) .bool))))))) (Ept.rd (t := 50) (κ := (.pair (.int .i64) (.pair (.int .i64) (.pair (.int .i64) (.slice 55 (.pair (.int .i64) .bool)))))) (O := O50) O50.rd) hK4
  obtain ⟨css6, hC7⟩ := orw.named hK4
  have hS : Sat w B [gh K3, pts b0 (.cells #[.int .i64 p0.1, .slice A1 p0.2.1.length c2, .int .i64 p0.2.2.1, .bool p0.2.2.2.1, .int .i64 p0.2.2.2.2.1, .bool p0.2.2.2.2.2] 46 (0, 0))] := hS.sel [0, 1] (by kernel_rfl)
  obtain ⟨o24, e25, H⟩ := bind_ex H
  refine WC.loop (by kernel_rfl) ?_
  refine WL.weaken [0, 1, 7, 8] (L' := [(0, .slice A1 p0.2.1.length c2), (1, .func (.func 19) #[] #[]), (7, .int .i64 (p0.2.1.length : Int)), (8, .int .i64 0)]) (by kernel_rfl) ?_
  refine fair_Ring_Next.l1_ok B b0 p0 A1 c2 K3 css6 R5 hC7 o24 (fun o26 w28 ho29 hS => ?_) (fun o30 w32 ho33 hS => ?_) FU 0 _ hS e25
  · subst ho29
    dsimp only at H
    refine At.blockRet ?_
    refine At.thenRet ?_
    refine At.bodyK [.int .i64 o26] (.int .i64 o26) (by kernel_rfl) rfl ?_
    refine WR.runk [3, 4] [] [4] (L' := [(4, .bool (decide (o26 ≥ 0)))]) (w' := w28) (by kernel_rfl) ?_
    refine WR.nil ?_
    refine At.go ?_
    refine WC.ret (by kernel_rfl) ?_
    refine At.bodyK [.bool (decide (o26 ≥ 0))] (.bool (decide (o26 ≥ 0))) (by kernel_rfl) rfl ?_
    refine WR.runk [8, 9] [] [0, 16] (L' := [(0, .pointer (some ⟨b0, 0, none⟩)), (16, .bool (!(decide (o26 ≥ 0))))]) (w' := w28) (by kernel_rfl) ?_
    refine WR.nil ?_
    obtain rfl := Option.some.inj H
    have hS : Sat w28 B [gh K3, pts b0 (.cells #[.int .i64 p0.1, .slice A1 p0.2.1.length c2, .int .i64 p0.2.2.1, .bool p0.2.2.2.1, .int .i64 p0.2.2.2.2.1, .bool p0.2.2.2.2.2] 46 (0, 0))] := hS.sel [1, 0] (by kernel_rfl)
    have hS : Sat w28 B [orw 47 (Ept O50) 1 A1 c2 p0.2.1, pts b0 (.cells #[.int .i64 p0.1, .slice A1 p0.2.1.length c2, .int .i64 p0.2.2.1, .bool p0.2.2.2.1, .int .i64 p0.2.2.2.2.1, .bool p0.2.2.2.2.2] 46 (0, 0))] := Sat.ungh hK4 hS
    have hS : Sat w28 B [pts b0 (.cells #[.int .i64 p0.1, .slice A1 p0.2.1.length c2, .int .i64 p0.2.2.1, .bool p0.2.2.2.1, .int .i64 p0.2.2.2.2.1, .bool p0.2.2.2.2.2] 46 (0, 0)), orw 47 (Ept O50) 1 A1 c2 p0.2.1] := hS.sel [1, 0] (by kernel_rfl)
    have hS : Sat w28 B [O46 b0 p0] := O46.close p0 A1 c2 hS
    have hS : Sat w28 B [O46 b0 p0] := hS.sel [0] (by kernel_rfl)
    refine At.weaken [0, 16] (L' := [(0, .pointer (some ⟨b0, 0, none⟩)), (16, .bool (!(decide (o26 ≥ 0))))]) (by kernel_rfl) ?_
    exact hn0 _ hS
  · subst ho33
    dsimp only at H
    refine At.hit ?_
    refine At.go ?_
    refine WC.seq (by kernel_rfl) ?_
    refine WC.reg [0] (by kernel_rfl) (by kernel_rfl) ?_
    refine WR.runk [0] [] [4] (L' := [(4, .int .i64 (-1))]) (w' := w32) (by kernel_rfl) ?_
    refine WR.nil ?_
    refine At.go ?_
    refine WC.ret (by kernel_rfl) ?_
    refine At.bodyK [.int .i64 (-1)] (.int .i64 (-1)) (by kernel_rfl) rfl ?_
    refine WR.runk [3, 4] [] [4] (L' := [(4, .bool (decide ((-1) ≥ 0)))]) (w' := w32) (by kernel_rfl) ?_
    refine WR.nil ?_
    refine At.go ?_
    refine WC.ret (by kernel_rfl) ?_
    refine At.bodyK [.bool (decide ((-1) ≥ 0))] (.bool (decide ((-1) ≥ 0))) (by kernel_rfl) rfl ?_
    refine WR.runk [8, 9] [] [0, 16] (L' := [(0, .pointer (some ⟨b0, 0, none⟩)), (16, .bool (!(decide ((-1) ≥ 0))))]) (w' := w32) (by kernel_rfl) ?_
    refine WR.nil ?_
    obtain rfl := Option.some.inj H
    have hS : Sat w32 B [gh K3, pts b0 (.cells #[.int .i64 p0.1, .slice A1 p0.2.1.length c2, .int .i64 p0.2.2.1, .bool p0.2.2.2.1, .int .i64 p0.2.2.2.2.1, .bool p0.2.2.2.2.2] 46 (0, 0))] := hS.sel [1, 0] (by kernel_rfl)
    have hS : Sat w32 B [orw 47 (Ept O50) 1 A1 c2 p0.2.1, pts b0 (.cells #[.int .i64 p0.1, .slice A1 p0.2.1.length c2, .int .i64 p0.2.2.1, .bool p0.2.2.2.1, .int .i64 p0.2.2.2.2.1, .bool p0.2.2.2.2.2] 46 (0, 0))] := Sat.ungh hK4 hS
    have hS : Sat w32 B [pts b0 (.cells #[.int .i64 p0.1, .slice A1 p0.2.1.length c2, .int .i64 p0.2.2.1, .bool p0.2.2.2.1, .int .i64 p0.2.2.2.2.1, .bool p0.2.2.2.2.2] 46 (0, 0)), orw 47 (Ept O50) 1 A1 c2 p0.2.1] := hS.sel [1, 0] (by kernel_rfl)
    have hS : Sat w32 B [O46 b0 p0] := O46.close p0 A1 c2 hS
    have hS : Sat w32 B [O46 b0 p0] := hS.sel [0] (by kernel_rfl)
    refine At.weaken [0, 16] (L' := [(0, .pointer (some ⟨b0, 0, none⟩)), (16, .bool (!(decide ((-1) ≥ 0))))]) (by kernel_rfl) ?_
    exact hn0 _ hS
theorem fair_Ring_Next.j1_ok {Q} (B : Rf) (b0 : Nat) (p0 : Int × (List (Option (Int × Int × Int × (List (Int × Bool))))) × Int × Bool × Int × Bool) (out : Sum Unit Unit) (hn0 : ∀ (o0 : Unit) (w : World), out = (.inl o0) → Sat w B [O46 b0 p0] → At Q .ret 128 [(2, .int .i64 (-1)), (3, .int .i64 (-1)), (4, .bool false)] w) (hn1 : ∀ (o1 : Unit) (w : World), out = (.inr o1) → Sat w B [O46 b0 p0] → At Q .normal 128 [(0, .pointer (some ⟨b0, 0, none⟩))] w) (w : World) : Sat w B [O46 b0 p0] → fair_Ring_Next.j1 p0 = some out → WC Try.prog (cl (cr C10)) Q 128 [(0, .pointer (some ⟨b0, 0, none⟩))] w := by
  intro hS H
  unfold fair_Ring_Next.j1 at H
  refine WC.seq (by kernel_rfl) ?_
  obtain ⟨o34, e35, H⟩ := bind_ex H
  refine WC.weaken [0] (L' := [(0, .pointer (some ⟨b0, 0, none⟩))]) (by kernel_rfl) ?_
  refine fair_Ring_Next.j2_ok B b0 p0 o34 (fun w37 hS => ?_) _ hS e35
  refine At.go ?_
  refine WC.cond (by kernel_rfl) o34 (by kernel_rfl) (by kernel_rfl) (fun hb39 => ?_) (fun hb39 => ?_)
  · replace H := ite_t H hb39
    refine WC.seq (by kernel_rfl) ?_
    refine WC.reg [0, 1, 2] (by kernel_rfl) (by kernel_rfl) ?_
    refine WR.runk [0, 1, 2] [] [2, 3, 4] (L' := [(2, .int .i64 (-1)), (3, .int .i64 (-1)), (4, .bool false)]) (w' := w37) (by kernel_rfl) ?_
    refine WR.nil ?_
    refine At.go ?_
    refine WC.ret (by kernel_rfl) ?_
    obtain rfl := Option.some.inj H
    have hS : Sat w37 B [O46 b0 p0] := hS.sel [0] (by kernel_rfl)
    refine At.weaken [2, 3, 4] (L' := [(2, .int .i64 (-1)), (3, .int .i64 (-1)), (4, .bool false)]) (by kernel_rfl) ?_
    exact hn0 () _ rfl hS
  · replace H := ite_f H hb39
    refine WC.skip (by kernel_rfl) ?_
    obtain rfl := Option.some.inj H
    have hS : Sat w37 B [O46 b0 p0] := hS.sel [0] (by kernel_rfl)
    refine At.weaken [0] (L' := [(0, .pointer (some ⟨b0, 0, none⟩))]) (by kernel_rfl) ?_
    exact hn1 () _ rfl hS
theorem fair_Ring_Next.j4_ok {Q} (B : Rf) (b0 : Nat) (q0_l2 : Int × (List (Option (Int × Int × Int × (List (Int × Bool))))) × Int × Bool × Int × Bool) (A52 : Option Addr) (c53 : Nat) (K54 : Heap) (css57 : List (List Value)) (v59 : Option (Int × Int × Int × (List (Int × Bool)))) (u61 : Value) (r64 : Int) (C62 : css57[(q0_l2.2.2.1).toNat]? = some [u61]) (R63 : rd K54 (.ptr 50 (.pair (.int .i64) (.pair (.int .i64) (.pair (.int .i64) (.slice 55 (.pair (.int .i64) .bool)))))) [u61] v59) (out : Int × Bool) (hn0 : ∀ (u5_q : Value) (w : World), Sat w B [gh K54, pts b0 (.cells #[.int .i64 q0_l2.1, .slice A52 q0_l2.2.1.length c53, .int .i64 q0_l2.2.2.1, .bool q0_l2.2.2.2.1, .int .i64 q0_l2.2.2.2.2.1, .bool q0_l2.2.2.2.2.2] 46 (0, 0))] → css57[(out.1).toNat]? = some [u5_q] → At Q .normal 128 [(0, .pointer (some ⟨b0, 0, none⟩)), (5, u5_q), (6, .int .i64 r64), (43, .bool out.2)] w) (w : World) : Sat w B [gh K54, pts b0 (.cells #[.int .i64 q0_l2.1, .slice A52 q0_l2.2.1.length c53, .int .i64 q0_l2.2.2.1, .bool q0_l2.2.2.2.1, .int .i64 q0_l2.2.2.2.2.1, .bool q0_l2.2.2.2.2.2] 46 (0, 0))] → fair_Ring_Next.j4 q0_l2 v59 r64 = some out → WC Try.prog (cl (cl (cr (cr (cbody (cbody (cbody (cr (cr C10))))))))) Q 128 [(0, .pointer (some ⟨b0, 0, none⟩)), (5, u61), (6, .int .i64 r64)] w := by
  intro hS H
  unfold fair_Ring_Next.j4 at H
  refine WC.reg [0, 1, 2, 3, 4, 5, 6, 7, 8, 9, 10, 11, 12, 13, 14] (by kernel_rfl) (by kernel_rfl) ?_
  refine WR.runk [0, 1, 2] [3, 4, 5, 6, 7, 8, 9, 10, 11, 12, 13, 14] [0, 5, 6, 31] (L' := [(0, .pointer (some ⟨b0, 0, none⟩)), (5, u61), (6, .int .i64 r64), (31, .pointer (some ⟨b0, 3, none⟩))]) (w' := w) (by kernel_rfl) ?_
  refine WR.st (St.ofR (RSt.loadObj (t := 4) (k := 3) (v := .bool q0_l2.2.2.2.1) (.tmp 31) (by kernel_rfl) (by kernel_rfl) (by kernel_rfl) 1 hS rfl (by kernel_rfl) rfl ?_))
  refine WR.runk [4] [5, 6, 7, 8, 9, 10, 11, 12, 13, 14] [0, 5, 6, 33] (L' := [(0, .pointer (some ⟨b0, 0, none⟩)), (5, u61), (6, .int .i64 r64), (33, .bool q0_l2.2.2.2.1)]) (w' := w) (by kernel_rfl) ?_
  refine WR.split 33 (b := q0_l2.2.2.2.1) (by kernel_rfl) (fun hb73 => ?_) (fun hb73 => ?_)
  · replace H := ite_t H hb73
    refine WR.runk [5, 6, 7, 8] [9, 10, 11, 12, 13, 14] [0, 5, 6, 34, 35, 37] (L' := [(0, .pointer (some ⟨b0, 0, none⟩)), (5, u61), (6, .int .i64 r64), (34, .int .i64 r64), (35, .bool (decide (r64 ≥ 0))), (37, .bool (decide (r64 ≥ 0)))]) (w' := w) (by kernel_rfl) ?_
    refine WR.split 37 (b := decide (r64 ≥ 0)) (by kernel_rfl) (fun hb74 => ?_) (fun hb74 => ?_)
    · replace H := ite_t H hb74
      refine WR.runk [9] [10, 11, 12, 13, 14] [0, 5, 6, 34, 35, 37, 38] (L' := [(0, .pointer (some ⟨b0, 0, none⟩)), (5, u61), (6, .int .i64 r64), (34, .int .i64 r64), (35, .bool (decide (r64 ≥ 0))), (37, .bool true), (38, u61)]) (w' := w) (by kernel_rfl) ?_
      obtain ⟨y77, hr75, H⟩ := bind_ex H
      obtain ⟨b78, fr79, A83, c84, hv80, hb81, R85⟩ := P50.open R63 hr75
      have R82 := R63
      rw [hv80, hr75] at R82
      have C86 : css57[(q0_l2.2.2.1).toNat]? = some [.pointer (some ⟨b78, 0, none⟩)] := by rw [← hv80]; exact C62
      try subst hv80
      replace R85 : rdS (r0 (.pair (.int .i64) .bool)) 2 K54 A83 c84 y77.2.2.2 := R85
      refine WR.runk [10, 11] [12, 13, 14] [0, 5, 6, 34, 35, 37, 38, 39, 40] (L' := [(0, .pointer (some ⟨b0, 0, none⟩)), (5, .pointer (some ⟨b78, 0, none⟩)), (6, .int .i64 r64), (34, .int .i64 r64), (35, .bool (decide (r64 ≥ 0))), (37, .bool true), (38, .pointer (some ⟨b78, 0, none⟩)), (39, .pointer (some ⟨b78, 0, none⟩)), (40, .pointer (some ⟨b78, 1, none⟩))]) (w' := w) (by kernel_rfl) ?_
      refine WR.st (St.ofR (RSt.loadRo (t := 3) (k := 1) (v := .int .i64 y77.2.1) (.tmp 40) (by kernel_rfl) (by kernel_rfl) (by kernel_rfl) (Sat.ghAt 0 hS rfl) hb81 (by kernel_rfl) rfl ?_))
      refine WR.runk [13, 14] [] [0, 5, 6, 34, 35, 38, 39, 40, 41, 42, 43] (L' := [(0, .pointer (some ⟨b0, 0, none⟩)), (5, .pointer (some ⟨b78, 0, none⟩)), (6, .int .i64 r64), (34, .int .i64 r64), (35, .bool (decide (r64 ≥ 0))), (38, .pointer (some ⟨b78, 0, none⟩)), (39, .pointer (some ⟨b78, 0, none⟩)), (40, .pointer (some ⟨b78, 1, none⟩)), (41, .int .i64 y77.2.1), (42, .bool (decide (y77.2.1 > 0))), (43, .bool (decide (y77.2.1 > 0)))]) (w' := w) (by kernel_rfl) ?_
      refine WR.nil ?_
      obtain rfl := Option.some.inj H
      have hS : Sat w B [gh K54, pts b0 (.cells #[.int .i64 q0_l2.1, .slice A52 q0_l2.2.1.length c53, .int .i64 q0_l2.2.2.1, .bool q0_l2.2.2.2.1, .int .i64 q0_l2.2.2.2.2.1, .bool q0_l2.2.2.2.2.2] 46 (0, 0))] := hS.sel [0, 1] (by kernel_rfl)
      refine At.weaken [0, 5, 6, 43] (L' := [(0, .pointer (some ⟨b0, 0, none⟩)), (5, .pointer (some ⟨b78, 0, none⟩)), (6, .int .i64 r64), (43, .bool (decide (y77.2.1 > 0)))]) (by kernel_rfl) ?_
      exact hn0 (.pointer (some ⟨b78, 0, none⟩)) _ hS C86
    · replace H := ite_f H hb74
      refine WR.runk [9, 10, 11, 12, 13, 14] [] [0, 5, 6, 34, 35, 38, 39, 40, 41, 42, 43] (L' := [(0, .pointer (some ⟨b0, 0, none⟩)), (5, u61), (6, .int .i64 r64), (34, .int .i64 r64), (35, .bool (decide (r64 ≥ 0))), (38, undef), (39, undef), (40, undef), (41, undef), (42, undef), (43, .bool false)]) (w' := w) (by kernel_rfl) ?_
      refine WR.nil ?_
      obtain rfl := Option.some.inj H
      have hS : Sat w B [gh K54, pts b0 (.cells #[.int .i64 q0_l2.1, .slice A52 q0_l2.2.1.length c53, .int .i64 q0_l2.2.2.1, .bool q0_l2.2.2.2.1, .int .i64 q0_l2.2.2.2.2.1, .bool q0_l2.2.2.2.2.2] 46 (0, 0))] := hS.sel [0, 1] (by kernel_rfl)
      refine At.weaken [0, 5, 6, 43] (L' := [(0, .pointer (some ⟨b0, 0, none⟩)), (5, u61), (6, .int .i64 r64), (43, .bool false)]) (by kernel_rfl) ?_
      exact hn0 u61 _ hS C62
  · replace H := ite_f H hb73
    refine WR.runk [5, 6, 7, 8, 9, 10, 11, 12, 13, 14] [] [0, 5, 6, 34, 35, 38, 39, 40, 41, 42, 43] (L' := [(0, .pointer (some ⟨b0, 0, none⟩)), (5, u61), (6, .int .i64 r64), (34, undef), (35, undef), (38, undef), (39, undef), (40, undef), (41, undef), (42, undef), (43, .bool false)]) (w' := w) (by kernel_rfl) ?_
    refine WR.nil ?_
    obtain rfl := Option.some.inj H
    have hS : Sat w B [gh K54, pts b0 (.cells #[.int .i64 q0_l2.1, .slice A52 q0_l2.2.1.length c53, .int .i64 q0_l2.2.2.1, .bool q0_l2.2.2.2.1, .int .i64 q0_l2.2.2.2.2.1, .bool q0_l2.2.2.2.2.2] 46 (0, 0))] := hS.sel [0, 1] (by kernel_rfl)
    refine At.weaken [0, 5, 6, 43] (L' := [(0, .pointer (some ⟨b0, 0, none⟩)), (5, u61), (6, .int .i64 r64), (43, .bool false)]) (by kernel_rfl) ?_
    exact hn0 u61 _ hS C62
theorem fair_Ring_Next.j3_ok {Q} (B : Rf) (b0 : Nat) (q0_l2 : Int × (List (Option (Int × Int × Int × (List (Int × Bool))))) × Int × Bool × Int × Bool) (A52 : Option Addr) (c53 : Nat) (K54 : Heap) (css57 : List (List Value)) (v59 : Option (Int × Int × Int × (List (Int × Bool)))) (u61 : Value) (r64 : Int) (hC58 : orc 47 (Ept O50) 1 A52 c53 css57 q0_l2.2.1 K54) (C62 : css57[(q0_l2.2.2.1).toNat]? = some [u61]) (R63 : rd K54 (.ptr 50 (.pair (.int .i64) (.pair (.int .i64) (.pair (.int .i64) (.slice 55 (.pair (.int .i64) .bool)))))) [u61] v59) (out : Sum (Int × Int × Int × Bool) Int) (hn0 : ∀ (o0 : Int × Int × Int × Bool) (w : World), out = (.inl o0) → Sat w B [pts b0 (.cells #[.int .i64 q0_l2.1, .slice A52 q0_l2.2.1.length c53, .int .i64 q0_l2.2.2.1, .bool q0_l2.2.2.2.1, .int .i64 o0.2.2.1, .bool o0.2.2.2] 46 (0, 0)), gh K54] → At Q .ret 128 [(2, .int .i64 o0.1), (3, .int .i64 o0.2.1), (4, .bool true)] w) (hn1 : ∀ (o1 : Int) (u5_q : Value) (w : World), out = (.inr o1) → Sat w B [gh K54, pts b0 (.cells #[.int .i64 q0_l2.1, .slice A52 q0_l2.2.1.length c53, .int .i64 q0_l2.2.2.1, .bool q0_l2.2.2.2.1, .int .i64 q0_l2.2.2.2.2.1, .bool q0_l2.2.2.2.2.2] 46 (0, 0))] → css57[o1.toNat]? = some [u5_q] → At Q .normal 128 [(0, .pointer (some ⟨b0, 0, none⟩)), (5, u5_q), (6, .int .i64 r64)] w) (w : World) : Sat w B [gh K54, pts b0 (.cells #[.int .i64 q0_l2.1, .slice A52 q0_l2.2.1.length c53, .int .i64 q0_l2.2.2.1, .bool q0_l2.2.2.2.1, .int .i64 q0_l2.2.2.2.2.1, .bool q0_l2.2.2.2.2.2] 46 (0, 0))] → fair_Ring_Next.j3 q0_l2 v59 r64 = some out → WC Try.prog (cl (cr (cr (cbody (cbody (cbody (cr (cr C10)))))))) Q 128 [(0, .pointer (some ⟨b0, 0, none⟩)), (5, u61), (6, .int .i64 r64)] w := by
  intro hS H
  unfold fair_Ring_Next.j3 at H
  refine WC.seq (by kernel_rfl) ?_
  obtain ⟨o87, e88, H⟩ := bind_ex H
  refine WC.weaken [0, 5, 6] (L' := [(0, .pointer (some ⟨b0, 0, none⟩)), (5, u61), (6, .int .i64 r64)]) (by kernel_rfl) ?_
  refine fair_Ring_Next.j4_ok B b0 q0_l2 A52 c53 K54 css57 v59 u61 r64 C62 R63 o87 (fun u5_q89 w90 hS C5_q89 => ?_) _ hS e88
  refine At.go ?_
  refine WC.cond (by kernel_rfl) o87.2 (by kernel_rfl) (by kernel_rfl) (fun hb92 => ?_) (fun hb92 => ?_)
  · replace H := ite_t H hb92
    refine WC.seq (by kernel_rfl) ?_
    refine WC.reg [0, 1, 2, 3, 4, 5, 6, 7, 8, 9, 10, 11, 12, 13, 14, 15] (by kernel_rfl) (by kernel_rfl) ?_
    refine WR.runk [0, 1, 2] [3, 4, 5, 6, 7, 8, 9, 10, 11, 12, 13, 14, 15] [0, 6, 44, 45, 46] (L' := [(0, .pointer (some ⟨b0, 0, none⟩)), (6, .int .i64 r64), (44, .pointer (some ⟨b0, 0, none⟩)), (45, .pointer (some ⟨b0, 0, none⟩)), (46, u5_q89)]) (w' := w90) (by kernel_rfl) ?_
    obtain ⟨v93, e94, H⟩ := bind_ex H
    have R95 : rd K54 (.ptr 50 (.pair (.int .i64) (.pair (.int .i64) (.pair (.int .i64) (.slice 55 (.pair (.int .i64) .bool)))))) [u5_q89] v93 := orc.elem (κ := (.ptr 50 (.pair (.int .i64) (.pair (.int .i64) (.pair (.int .i64) (.slice 55 (.pair (.int .i64) .bool))))))) (Ept.rd (t := 50) (κ := (.pair (.int .i64) (.pair (.int .i64) (.pair (.int .i64) (.slice 55 (.pair (.int .i64) .bool)))))) (O := O50) O50.rd) hC58 C5_q89 (at?_idx e94)
    refine WR.runk [] [3, 4, 5, 6, 7, 8, 9, 10, 11, 12, 13, 14, 15] [0, 6, 44, 45, 46] (L' := [(0, .pointer (some ⟨b0, 0, none⟩)), (6, .int .i64 r64), (44, .pointer (some ⟨b0, 0, none⟩)), (45, .pointer (some ⟨b0, 0, none⟩)), (46, u5_q89)]) (w' := w90) (by kernel_rfl) ?_
    obtain ⟨y98, hr96, H⟩ := bind_ex H
    obtain ⟨b99, fr100, A104, c105, hv101, hb102, R106⟩ := P50.open R95 hr96
    have R103 := R95
    rw [hv101, hr96] at R103
    have C107 : css57[(o87.1).toNat]? = some [.pointer (some ⟨b99, 0, none⟩)] := by rw [← hv101]; exact C5_q89
    try subst hv101
    replace R106 : rdS (r0 (.pair (.int .i64) .bool)) 2 K54 A104 c105 y98.2.2.2 := R106
    refine WR.runk [3, 4] [5, 6, 7, 8, 9, 10, 11, 12, 13, 14, 15] [0, 6, 44, 45, 48] (L' := [(0, .pointer (some ⟨b0, 0, none⟩)), (6, .int .i64 r64), (44, .pointer (some ⟨b0, 0, none⟩)), (45, .pointer (some ⟨b0, 0, none⟩)), (48, .pointer (some ⟨b99, 3, none⟩))]) (w' := w90) (by kernel_rfl) ?_
    refine WR.st (St.ofR (RSt.loadRo (t := 48) (k := 3) (v := .slice A104 y98.2.2.2.length c105) (.tmp 48) (by kernel_rfl) (by kernel_rfl) (by kernel_rfl) (Sat.ghAt 0 hS rfl) hb102 (by kernel_rfl) rfl ?_))
    refine WR.runk [6] [7, 8, 9, 10, 11, 12, 13, 14, 15] [0, 44, 45, 49, 50] (L' := [(0, .pointer (some ⟨b0, 0, none⟩)), (44, .pointer (some ⟨b0, 0, none⟩)), (45, .pointer (some ⟨b0, 0, none⟩)), (49, .slice A104 y98.2.2.2.length c105), (50, .int .i64 r64)]) (w' := w90) (by kernel_rfl) ?_
    obtain ⟨v108, e109, H⟩ := bind_ex H
    refine WR.st (St.ofP (PSt.idx (k := .i64) (.tmp 49) (.tmp 50) (by kernel_rfl) (by kernel_rfl) E48 (by kernel_rfl) (by kernel_rfl) (rdS.up R106 (Sat.ghAt 0 hS rfl)) e109 ?_))
    refine WR.runk [8] [9, 10, 11, 12, 13, 14, 15] [0, 44, 45, 52] (L' := [(0, .pointer (some ⟨b0, 0, none⟩)), (44, .pointer (some ⟨b0, 0, none⟩)), (45, .pointer (some ⟨b0, 0, none⟩)), (52, .pointer (some ((adr A104 r64.toNat 2).add 0)))]) (w' := w90) (by kernel_rfl) ?_
    refine WR.st (St.ofR (RSt.loadPart (t := 3) (κ := (.pair (.int .i64) .bool)) (.tmp 52) 0 (by kernel_rfl) (by kernel_rfl) (by kernel_rfl) (by kernel_rfl) (by kernel_rfl) (rdS.up R106 (Sat.ghAt 0 hS rfl)) e109 (u := .int .i64 v108.1) (by kernel_rfl) ?_))
    refine WR.runk [10, 11] [12, 13, 14, 15] [0, 45, 53, 55] (L' := [(0, .pointer (some ⟨b0, 0, none⟩)), (45, .pointer (some ⟨b0, 0, none⟩)), (53, .int .i64 v108.1), (55, .pointer (some ⟨b0, 4, none⟩))]) (w' := w90) (by kernel_rfl) ?_
    have hS : Sat w90 B [pts b0 (.cells #[.int .i64 q0_l2.1, .slice A52 q0_l2.2.1.length c53, .int .i64 q0_l2.2.2.1, .bool q0_l2.2.2.2.1, .int .i64 q0_l2.2.2.2.2.1, .bool q0_l2.2.2.2.2.2] 46 (0, 0)), gh K54] := hS.sel [1, 0] (by kernel_rfl)
    refine WR.st (St.storeObj (t := 3) (k := 4) (cur' := #[.int .i64 q0_l2.1, .slice A52 q0_l2.2.1.length c53, .int .i64 q0_l2.2.2.1, .bool q0_l2.2.2.2.1, .int .i64 v108.1, .bool q0_l2.2.2.2.2.2]) (.tmp 55) (.tmp 53) (by kernel_rfl) (by kernel_rfl) (by kernel_rfl) hS (by kernel_rfl) (by kernel_rfl) (by kernel_rfl) rfl rfl (fun w110 hS => ?_))
    refine WR.runk [13, 14] [15] [0, 57] (L' := [(0, .pointer (some ⟨b0, 0, none⟩)), (57, .pointer (some ⟨b0, 5, none⟩))]) (w' := w110) (by kernel_rfl) ?_
    refine WR.st (St.storeObj (t := 4) (k := 5) (cur' := #[.int .i64 q0_l2.1, .slice A52 q0_l2.2.1.length c53, .int .i64 q0_l2.2.2.1, .bool q0_l2.2.2.2.1, .int .i64 v108.1, .bool true]) (.tmp 57) (.const (.bool true)) (by kernel_rfl) (by kernel_rfl) (by kernel_rfl) hS (by kernel_rfl) (by kernel_rfl) (by kernel_rfl) rfl rfl (fun w111 hS => ?_))
    refine WR.runk [] [] [0] (L' := [(0, .pointer (some ⟨b0, 0, none⟩))]) (w' := w111) (by kernel_rfl) ?_
    refine WR.nil ?_
    refine At.go ?_
    refine WC.seq (by kernel_rfl) ?_
    refine WC.drawn (by kernel_rfl) (by kernel_rfl) 11 (by kernel_rfl) (fun w112 hw113 => ?_)
    have hS := hS.heap hw113.1 hw113.2
    refine WD.weaken [0] (L' := [(0, .pointer (some ⟨b0, 0, none⟩))]) (by kernel_rfl) ?_
    refine WD.pure (i := 0) (v := .pointer (some ⟨b0, 0, none⟩)) (by kernel_rfl) (by kernel_rfl) (fun _ => by kernel_rfl) ?_
    refine WD.weaken [0, 58] (L' := [(0, .pointer (some ⟨b0, 0, none⟩)), (58, .pointer (some ⟨b0, 0, none⟩))]) (by kernel_rfl) ?_
    refine WD.pure (i := 1) (v := .pointer (some ⟨b0, 0, none⟩)) (by kernel_rfl) (by kernel_rfl) (fun _ => by kernel_rfl) ?_
    refine WD.weaken [0, 59] (L' := [(0, .pointer (some ⟨b0, 0, none⟩)), (59, .pointer (some ⟨b0, 0, none⟩))]) (by kernel_rfl) ?_
    refine WD.pure (i := 2) (v := .pointer (some ⟨b0, 2, none⟩)) (by kernel_rfl) (by kernel_rfl) (fun _ => by kernel_rfl) ?_
    refine WD.weaken [0, 60] (L' := [(0, .pointer (some ⟨b0, 0, none⟩)), (60, .pointer (some ⟨b0, 2, none⟩))]) (by kernel_rfl) ?_
    refine WD.ofR (i := 3) (by kernel_rfl) (RSt.loadObj (t := 3) (k := 2) (v := .int .i64 q0_l2.2.2.1) (.tmp 60) (by kernel_rfl) (by kernel_rfl) (by kernel_rfl) 0 hS rfl (by kernel_rfl) rfl ?_)
    refine WD.weaken [0, 61] (L' := [(0, .pointer (some ⟨b0, 0, none⟩)), (61, .int .i64 q0_l2.2.2.1)]) (by kernel_rfl) ?_
    refine WD.pure (i := 4) (v := .pointer (some ⟨b0, 0, none⟩)) (by kernel_rfl) (by kernel_rfl) (fun _ => by kernel_rfl) ?_
    refine WD.weaken [61, 62] (L' := [(61, .int .i64 q0_l2.2.2.1), (62, .pointer (some ⟨b0, 0, none⟩))]) (by kernel_rfl) ?_
    refine WD.pure (i := 5) (v := .pointer (some ⟨b0, 0, none⟩)) (by kernel_rfl) (by kernel_rfl) (fun _ => by kernel_rfl) ?_
    refine WD.weaken [61, 63] (L' := [(61, .int .i64 q0_l2.2.2.1), (63, .pointer (some ⟨b0, 0, none⟩))]) (by kernel_rfl) ?_
    refine WD.pure (i := 6) (v := .pointer (some ⟨b0, 4, none⟩)) (by kernel_rfl) (by kernel_rfl) (fun _ => by kernel_rfl) ?_
    refine WD.weaken [61, 64] (L' := [(61, .int .i64 q0_l2.2.2.1), (64, .pointer (some ⟨b0, 4, none⟩))]) (by kernel_rfl) ?_
    refine WD.ofR (i := 7) (by kernel_rfl) (RSt.loadObj (t := 3) (k := 4) (v := .int .i64 v108.1) (.tmp 64) (by kernel_rfl) (by kernel_rfl) (by kernel_rfl) 0 hS rfl (by kernel_rfl) rfl ?_)
    refine WD.weaken [61, 65] (L' := [(61, .int .i64 q0_l2.2.2.1), (65, .int .i64 v108.1)]) (by kernel_rfl) ?_
    refine WD.pure (i := 8) (v := .int .i64 q0_l2.2.2.1) (by kernel_rfl) (by kernel_rfl) (fun _ => by kernel_rfl) ?_
    refine WD.weaken [2, 65] (L' := [(2, .int .i64 q0_l2.2.2.1), (65, .int .i64 v108.1)]) (by kernel_rfl) ?_
    refine WD.pure (i := 9) (v := .int .i64 v108.1) (by kernel_rfl) (by kernel_rfl) (fun _ => by kernel_rfl) ?_
    refine WD.weaken [2, 3] (L' := [(2, .int .i64 q0_l2.2.2.1), (3, .int .i64 v108.1)]) (by kernel_rfl) ?_
    refine WD.pure (i := 10) (v := .bool true) (by kernel_rfl) (by kernel_rfl) (fun _ => by kernel_rfl) ?_
    refine WD.weaken [2, 3, 4] (L' := [(2, .int .i64 q0_l2.2.2.1), (3, .int .i64 v108.1), (4, .bool true)]) (by kernel_rfl) ?_
    refine WD.nil (by kernel_rfl) ?_
    refine At.go ?_
    refine WC.ret (by kernel_rfl) ?_
    obtain rfl := Option.some.inj H
    have hS : Sat w112 B [pts b0 (.cells #[.int .i64 q0_l2.1, .slice A52 q0_l2.2.1.length c53, .int .i64 q0_l2.2.2.1, .bool q0_l2.2.2.2.1, .int .i64 v108.1, .bool true] 46 (0, 0)), gh K54] := hS.sel [0, 1] (by kernel_rfl)
    refine At.weaken [2, 3, 4] (L' := [(2, .int .i64 q0_l2.2.2.1), (3, .int .i64 v108.1), (4, .bool true)]) (by kernel_rfl) ?_
    exact hn0 (q0_l2.2.2.1, v108.1, v108.1, true) _ rfl hS
  · replace H := ite_f H hb92
    refine WC.skip (by kernel_rfl) ?_
    obtain rfl := Option.some.inj H
    have hS : Sat w90 B [gh K54, pts b0 (.cells #[.int .i64 q0_l2.1, .slice A52 q0_l2.2.1.length c53, .int .i64 q0_l2.2.2.1, .bool q0_l2.2.2.2.1, .int .i64 q0_l2.2.2.2.2.1, .bool q0_l2.2.2.2.2.2] 46 (0, 0))] := hS.sel [0, 1] (by kernel_rfl)
    refine At.weaken [0, 5, 6] (L' := [(0, .pointer (some ⟨b0, 0, none⟩)), (5, u5_q89), (6, .int .i64 r64)]) (by kernel_rfl) ?_
    exact hn1 o87.1 u5_q89 _ rfl hS C5_q89
theorem fair_Ring_Next.j6_ok {Q} (B : Rf) (b0 : Nat) (q0_l2 : Int × (List (Option (Int × Int × Int × (List (Int × Bool))))) × Int × Bool × Int × Bool) (A52 : Option Addr) (c53 : Nat) (K54 : Heap) (r64 : Int) (u5_q121 : Value) (out : Bool) (hn0 : ∀ (w : World), Sat w B [gh K54, pts b0 (.cells #[.int .i64 q0_l2.1, .slice A52 q0_l2.2.1.length c53, .int .i64 q0_l2.2.2.1, .bool q0_l2.2.2.2.1, .int .i64 q0_l2.2.2.2.2.1, .bool q0_l2.2.2.2.2.2] 46 (0, 0))] → At Q .normal 128 [(0, .pointer (some ⟨b0, 0, none⟩)), (5, u5_q121), (73, .bool out)] w) (w : World) : Sat w B [gh K54, pts b0 (.cells #[.int .i64 q0_l2.1, .slice A52 q0_l2.2.1.length c53, .int .i64 q0_l2.2.2.1, .bool q0_l2.2.2.2.1, .int .i64 q0_l2.2.2.2.2.1, .bool q0_l2.2.2.2.2.2] 46 (0, 0))] → fair_Ring_Next.j6 q0_l2 r64 = some out → WC Try.prog (cl (cl (cr (cr (cr (cbody (cbody (cbody (cr (cr C10)))))))))) Q 128 [(0, .pointer (some ⟨b0, 0, none⟩)), (5, u5_q121), (6, .int .i64 r64)] w := by
  intro hS H
  unfold fair_Ring_Next.j6 at H
  refine WC.reg [0, 1, 2, 3, 4, 5, 6, 7] (by kernel_rfl) (by kernel_rfl) ?_
  refine WR.runk [0, 1, 2] [3, 4, 5, 6, 7] [0, 5, 6, 68] (L' := [(0, .pointer (some ⟨b0, 0, none⟩)), (5, u5_q121), (6, .int .i64 r64), (68, .pointer (some ⟨b0, 3, none⟩))]) (w' := w) (by kernel_rfl) ?_
  refine WR.st (St.ofR (RSt.loadObj (t := 4) (k := 3) (v := .bool q0_l2.2.2.2.1) (.tmp 68) (by kernel_rfl) (by kernel_rfl) (by kernel_rfl) 1 hS rfl (by kernel_rfl) rfl ?_))
  refine WR.runk [4] [5, 6, 7] [0, 5, 6, 70] (L' := [(0, .pointer (some ⟨b0, 0, none⟩)), (5, u5_q121), (6, .int .i64 r64), (70, .bool q0_l2.2.2.2.1)]) (w' := w) (by kernel_rfl) ?_
  refine WR.split 70 (b := q0_l2.2.2.2.1) (by kernel_rfl) (fun hb124 => ?_) (fun hb124 => ?_)
  · replace H := ite_t H hb124
    refine WR.runk [5, 6, 7] [] [0, 5, 71, 72, 73] (L' := [(0, .pointer (some ⟨b0, 0, none⟩)), (5, u5_q121), (71, .int .i64 r64), (72, .bool (decide (r64 < 0))), (73, .bool (decide (r64 < 0)))]) (w' := w) (by kernel_rfl) ?_
    refine WR.nil ?_
    obtain rfl := Option.some.inj H
    have hS : Sat w B [gh K54, pts b0 (.cells #[.int .i64 q0_l2.1, .slice A52 q0_l2.2.1.length c53, .int .i64 q0_l2.2.2.1, .bool q0_l2.2.2.2.1, .int .i64 q0_l2.2.2.2.2.1, .bool q0_l2.2.2.2.2.2] 46 (0, 0))] := hS.sel [0, 1] (by kernel_rfl)
    refine At.weaken [0, 5, 73] (L' := [(0, .pointer (some ⟨b0, 0, none⟩)), (5, u5_q121), (73, .bool (decide (r64 < 0)))]) (by kernel_rfl) ?_
    exact hn0 _ hS
  · replace H := ite_f H hb124
    refine WR.runk [5, 6, 7] [] [0, 5, 71, 72, 73] (L' := [(0, .pointer (some ⟨b0, 0, none⟩)), (5, u5_q121), (71, undef), (72, undef), (73, .bool false)]) (w' := w) (by kernel_rfl) ?_
    refine WR.nil ?_
    obtain rfl := Option.some.inj H
    have hS : Sat w B [gh K54, pts b0 (.cells #[.int .i64 q0_l2.1, .slice A52 q0_l2.2.1.length c53, .int .i64 q0_l2.2.2.1, .bool q0_l2.2.2.2.1, .int .i64 q0_l2.2.2.2.2.1, .bool q0_l2.2.2.2.2.2] 46 (0, 0))] := hS.sel [0, 1] (by kernel_rfl)
    refine At.weaken [0, 5, 73] (L' := [(0, .pointer (some ⟨b0, 0, none⟩)), (5, u5_q121), (73, .bool false)]) (by kernel_rfl) ?_
    exact hn0 _ hS
theorem fair_Ring_Next.j5_ok {Q} (B : Rf) (b0 : Nat) (q0_l2 : Int × (List (Option (Int × Int × Int × (List (Int × Bool))))) × Int × Bool × Int × Bool) (A52 : Option Addr) (c53 : Nat) (K54 : Heap) (css57 : List (List Value)) (r64 : Int) (o120 : Int) (u5_q121 : Value) (hK55 : orw 47 (Ept O50) 1 A52 c53 q0_l2.2.1 K54) (hC58 : orc 47 (Ept O50) 1 A52 c53 css57 q0_l2.2.1 K54) (C5_q121 : css57[o120.toNat]? = some [u5_q121]) (out : (List (Option (Int × Int × Int × (List (Int × Bool)))))) (hn0 : ∀ (Aq0p1_q : Option Addr) (cq0p1_q : Nat) (w : World), Sat w B [pts b0 (.cells #[.int .i64 q0_l2.1, .slice Aq0p1_q out.length cq0p1_q, .int .i64 q0_l2.2.2.1, .bool q0_l2.2.2.2.1, .int .i64 q0_l2.2.2.2.2.1, .bool q0_l2.2.2.2.2.2] 46 (0, 0)), orw 47 (Ept O50) 1 Aq0p1_q cq0p1_q out] → At Q .normal 128 [(0, .pointer (some ⟨b0, 0, none⟩))] w) (w : World) : Sat w B [gh K54, pts b0 (.cells #[.int .i64 q0_l2.1, .slice A52 q0_l2.2.1.length c53, .int .i64 q0_l2.2.2.1, .bool q0_l2.2.2.2.1, .int .i64 q0_l2.2.2.2.2.1, .bool q0_l2.2.2.2.2.2] 46 (0, 0))] → fair_Ring_Next.j5 q0_l2 r64 o120 = some out → WC Try.prog (cl (cr (cr (cr (cbody (cbody (cbody (cr (cr C10))))))))) Q 128 [(0, .pointer (some ⟨b0, 0, none⟩)), (5, u5_q121), (6, .int .i64 r64)] w := by
  intro hS H
  unfold fair_Ring_Next.j5 at H
  refine WC.seq (by kernel_rfl) ?_
  obtain ⟨o125, e126, H⟩ := bind_ex H
  refine WC.weaken [0, 5, 6] (L' := [(0, .pointer (some ⟨b0, 0, none⟩)), (5, u5_q121), (6, .int .i64 r64)]) (by kernel_rfl) ?_
  refine fair_Ring_Next.j6_ok B b0 q0_l2 A52 c53 K54 r64 u5_q121 o125 (fun w128 hS => ?_) _ hS e126
  refine At.go ?_
  refine WC.cond (by kernel_rfl) o125 (by kernel_rfl) (by kernel_rfl) (fun hb130 => ?_) (fun hb130 => ?_)
  · replace H := ite_t H hb130
    refine WC.reg [0, 1, 2, 3, 4, 5, 6, 7, 8] (by kernel_rfl) (by kernel_rfl) ?_
    refine WR.runk [0, 1] [2, 3, 4, 5, 6, 7, 8] [0, 74, 75] (L' := [(0, .pointer (some ⟨b0, 0, none⟩)), (74, u5_q121), (75, u5_q121)]) (w' := w128) (by kernel_rfl) ?_
    obtain ⟨v131, e132, H⟩ := bind_ex H
    have R133 : rd K54 (.ptr 50 (.pair (.int .i64) (.pair (.int .i64) (.pair (.int .i64) (.slice 55 (.pair (.int .i64) .bool)))))) [u5_q121] v131 := orc.elem (κ := (.ptr 50 (.pair (.int .i64) (.pair (.int .i64) (.pair (.int .i64) (.slice 55 (.pair (.int .i64) .bool))))))) (Ept.rd (t := 50) (κ := (.pair (.int .i64) (.pair (.int .i64) (.pair (.int .i64) (.slice 55 (.pair (.int .i64) .bool)))))) (O := O50) O50.rd) hC58 C5_q121 (at?_idx e132)
    refine WR.runk [] [2, 3, 4, 5, 6, 7, 8] [0, 74, 75] (L' := [(0, .pointer (some ⟨b0, 0, none⟩)), (74, u5_q121), (75, u5_q121)]) (w' := w128) (by kernel_rfl) ?_
    obtain ⟨y136, hr134, H⟩ := bind_ex H
    obtain ⟨b137, fr138, A142, c143, hv139, hb140, R144⟩ := P50.open R133 hr134
    have R141 := R133
    rw [hv139, hr134] at R141
    have C145 : css57[o120.toNat]? = some [.pointer (some ⟨b137, 0, none⟩)] := by rw [← hv139]; exact C5_q121
    try subst hv139
    replace R144 : rdS (r0 (.pair (.int .i64) .bool)) 2 K54 A142 c143 y136.2.2.2 := R144
    refine WR.runk [2, 3] [4, 5, 6, 7, 8] [0, 74, 77] (L' := [(0, .pointer (some ⟨b0, 0, none⟩)), (74, .pointer (some ⟨b137, 0, none⟩)), (77, .pointer (some ⟨b137, 1, none⟩))]) (w' := w128) (by kernel_rfl) ?_
    refine WR.st (St.ofR (RSt.loadRo (t := 3) (k := 1) (v := .int .i64 y136.2.1) (.tmp 77) (by kernel_rfl) (by kernel_rfl) (by kernel_rfl) (Sat.ghAt 0 hS rfl) hb140 (by kernel_rfl) rfl ?_))
    refine WR.runk [5, 6, 7] [8] [0, 79, 81] (L' := [(0, .pointer (some ⟨b0, 0, none⟩)), (79, .int .i64 (imin y136.2.1 0)), (81, .pointer (some ⟨b137, 1, none⟩))]) (w' := w128) (by kernel_rfl) ?_
    have hS : Sat w128 B [orh 47 (Ept O50) 1 A52 c53 css57 o120.toNat q0_l2.2.1, O50 b137 y136, pts b0 (.cells #[.int .i64 q0_l2.1, .slice A52 q0_l2.2.1.length c53, .int .i64 q0_l2.2.2.1, .bool q0_l2.2.2.2.1, .int .i64 q0_l2.2.2.2.2.1, .bool q0_l2.2.2.2.2.2] 46 (0, 0))] := Sat.focusP hC58 hS C145 ((at?_idx e132).trans (by rw [hr134]))
    have hS : Sat w128 B [O50 b137 y136, orh 47 (Ept O50) 1 A52 c53 css57 o120.toNat q0_l2.2.1, pts b0 (.cells #[.int .i64 q0_l2.1, .slice A52 q0_l2.2.1.length c53, .int .i64 q0_l2.2.2.1, .bool q0_l2.2.2.2.1, .int .i64 q0_l2.2.2.2.2.1, .bool q0_l2.2.2.2.2.2] 46 (0, 0))] := hS.sel [1, 0, 2] (by kernel_rfl)
    obtain ⟨A147, c148, hS⟩ := O50.open hS
    have hS : Sat w128 B [pts b137 (.cells #[.int .i64 y136.1, .int .i64 y136.2.1, .int .i64 y136.2.2.1, .slice A147 y136.2.2.2.length c148] 50 (0, 0)), osl 55 (r0 (.pair (.int .i64) .bool)) 2 A147 c148 y136.2.2.2, orh 47 (Ept O50) 1 A52 c53 css57 o120.toNat q0_l2.2.1, pts b0 (.cells #[.int .i64 q0_l2.1, .slice A52 q0_l2.2.1.length c53, .int .i64 q0_l2.2.2.1, .bool q0_l2.2.2.2.1, .int .i64 q0_l2.2.2.2.2.1, .bool q0_l2.2.2.2.2.2] 46 (0, 0))] := hS
    refine WR.st (St.storeObj (t := 3) (k := 1) (cur' := #[.int .i64 y136.1, .int .i64 (imin y136.2.1 0), .int .i64 y136.2.2.1, .slice A147 y136.2.2.2.length c148]) (.tmp 81) (.tmp 79) (by kernel_rfl) (by kernel_rfl) (by kernel_rfl) hS (by kernel_rfl) (by kernel_rfl) (by kernel_rfl) rfl rfl (fun w149 hS => ?_))
    refine WR.runk [] [] [0] (L' := [(0, .pointer (some ⟨b0, 0, none⟩))]) (w' := w149) (by kernel_rfl) ?_
    refine WR.nil ?_
    obtain rfl := Option.some.inj H
    have hS : Sat w149 B [pts b137 (.cells #[.int .i64 y136.1, .int .i64 (imin y136.2.1 0), .int .i64 y136.2.2.1, .slice A147 y136.2.2.2.length c148] 50 (0, 0)), osl 55 (r0 (.pair (.int .i64) .bool)) 2 A147 c148 y136.2.2.2, orh 47 (Ept O50) 1 A52 c53 css57 o120.toNat q0_l2.2.1, pts b0 (.cells #[.int .i64 q0_l2.1, .slice A52 q0_l2.2.1.length c53, .int .i64 q0_l2.2.2.1, .bool q0_l2.2.2.2.1, .int .i64 q0_l2.2.2.2.2.1, .bool q0_l2.2.2.2.2.2] 46 (0, 0))] := hS.sel [0, 1, 2, 3] (by kernel_rfl)
    have hS : Sat w149 B [O50 b137 (y136.1, imin y136.2.1 0, y136.2.2.1, y136.2.2.2), orh 47 (Ept O50) 1 A52 c53 css57 o120.toNat q0_l2.2.1, pts b0 (.cells #[.int .i64 q0_l2.1, .slice A52 q0_l2.2.1.length c53, .int .i64 q0_l2.2.2.1, .bool q0_l2.2.2.2.1, .int .i64 q0_l2.2.2.2.2.1, .bool q0_l2.2.2.2.2.2] 46 (0, 0))] := O50.close (y136.1, imin y136.2.1 0, y136.2.2.1, y136.2.2.2) A147 c148 hS
    have hS : Sat w149 B [orh 47 (Ept O50) 1 A52 c53 css57 o120.toNat q0_l2.2.1, O50 b137 (y136.1, imin y136.2.1 0, y136.2.2.1, y136.2.2.2), pts b0 (.cells #[.int .i64 q0_l2.1, .slice A52 q0_l2.2.1.length c53, .int .i64 q0_l2.2.2.1, .bool q0_l2.2.2.2.1, .int .i64 q0_l2.2.2.2.2.1, .bool q0_l2.2.2.2.2.2] 46 (0, 0))] := hS.sel [1, 0, 2] (by kernel_rfl)
    have hS : Sat w149 B [orw 47 (Ept O50) 1 A52 c53 (List.set q0_l2.2.1 o120.toNat (some (y136.1, imin y136.2.1 0, y136.2.2.1, y136.2.2.2))), pts b0 (.cells #[.int .i64 q0_l2.1, .slice A52 q0_l2.2.1.length c53, .int .i64 q0_l2.2.2.1, .bool q0_l2.2.2.2.1, .int .i64 q0_l2.2.2.2.2.1, .bool q0_l2.2.2.2.2.2] 46 (0, 0))] := Sat.fillP hS C145
    have hl150 : List.length (List.set q0_l2.2.1 o120.toNat (some (y136.1, imin y136.2.1 0, y136.2.2.1, y136.2.2.2))) = List.length q0_l2.2.1 := List.length_set
    have hS : Sat w149 B [orw 47 (Ept O50) 1 A52 c53 (List.set q0_l2.2.1 o120.toNat (some (y136.1, imin y136.2.1 0, y136.2.2.1, y136.2.2.2))), pts b0 (.cells #[.int .i64 q0_l2.1, .slice A52 (List.set q0_l2.2.1 o120.toNat (some (y136.1, imin y136.2.1 0, y136.2.2.1, y136.2.2.2))).length c53, .int .i64 q0_l2.2.2.1, .bool q0_l2.2.2.2.1, .int .i64 q0_l2.2.2.2.2.1, .bool q0_l2.2.2.2.2.2] 46 (0, 0))] := by simpa only [hl150] using hS
    have hS : Sat w149 B [pts b0 (.cells #[.int .i64 q0_l2.1, .slice A52 (List.set q0_l2.2.1 o120.toNat (some (y136.1, imin y136.2.1 0, y136.2.2.1, y136.2.2.2))).length c53, .int .i64 q0_l2.2.2.1, .bool q0_l2.2.2.2.1, .int .i64 q0_l2.2.2.2.2.1, .bool q0_l2.2.2.2.2.2] 46 (0, 0)), orw 47 (Ept O50) 1 A52 c53 (List.set q0_l2.2.1 o120.toNat (some (y136.1, imin y136.2.1 0, y136.2.2.1, y136.2.2.2)))] := hS.sel [1, 0] (by kernel_rfl)
    refine At.weaken [0] (L' := [(0, .pointer (some ⟨b0, 0, none⟩))]) (by kernel_rfl) ?_
    exact hn0 A52 c53 _ hS
  · replace H := ite_f H hb130
    refine WC.skip (by kernel_rfl) ?_
    obtain rfl := Option.some.inj H
    have hS : Sat w128 B [orw 47 (Ept O50) 1 A52 c53 q0_l2.2.1, pts b0 (.cells #[.int .i64 q0_l2.1, .slice A52 q0_l2.2.1.length c53, .int .i64 q0_l2.2.2.1, .bool q0_l2.2.2.2.1, .int .i64 q0_l2.2.2.2.2.1, .bool q0_l2.2.2.2.2.2] 46 (0, 0))] := Sat.ungh hK55 hS
    have hS : Sat w128 B [pts b0 (.cells #[.int .i64 q0_l2.1, .slice A52 q0_l2.2.1.length c53, .int .i64 q0_l2.2.2.1, .bool q0_l2.2.2.2.1, .int .i64 q0_l2.2.2.2.2.1, .bool q0_l2.2.2.2.2.2] 46 (0, 0)), orw 47 (Ept O50) 1 A52 c53 q0_l2.2.1] := hS.sel [1, 0] (by kernel_rfl)
    refine At.weaken [0] (L' := [(0, .pointer (some ⟨b0, 0, none⟩))]) (by kernel_rfl) ?_
    exact hn0 A52 c53 _ hS
theorem fair_Ring_Next.l2_ok {Q} (B : Rf) (b0 : Nat) (out : Int × Int × Bool × (Int × (List (Option (Int × Int × Int × (List (Int × Bool))))) × Int × Bool × Int × Bool)) (hn0 : ∀ (w : World), Sat w B [O46 b0 out.2.2.2] → At Q .ret 128 [(2, .int .i64 out.1), (3, .int .i64 out.2.1), (4, .bool out.2.2.1)] w) :
    ∀ (k : Nat) (q0_l2 : Int × (List (Option (Int × Int × Int × (List (Int × Bool))))) × Int × Bool × Int × Bool) (w : World), Sat w B [O46 b0 q0_l2] → fair_Ring_Next.l2 k q0_l2 = some out → WL Try.prog (cbody (cbody (cr (cr C10)))) Q 128 [(0, .pointer (some ⟨b0, 0, none⟩))] w := by
  intro k
  induction k with
  | zero => intro q0_l2 w hS H; exact absurd (show none = some out from H) (by simp)
  | succ k ih =>
    intro q0_l2 w hS H
    unfold fair_Ring_Next.l2 at H
    refine WL.round ?_
    refine WC.block (by kernel_rfl) ?_
    refine WC.seq (by kernel_rfl) ?_
    refine WC.drawn (by kernel_rfl) (by kernel_rfl) 11 (by kernel_rfl) (fun w50 hw51 => ?_)
    have hS := hS.heap hw51.1 hw51.2
    refine WD.weaken [0] (L' := [(0, .pointer (some ⟨b0, 0, none⟩))]) (by kernel_rfl) ?_
    refine WD.pure (i := 0) (v := .pointer (some ⟨b0, 0, none⟩)) (by kernel_rfl) (by kernel_rfl) (fun _ => by kernel_rfl) ?_
    refine WD.weaken [0, 17] (L' := [(0, .pointer (some ⟨b0, 0, none⟩)), (17, .pointer (some ⟨b0, 0, none⟩))]) (by kernel_rfl) ?_
    refine WD.pure (i := 1) (v := .pointer (some ⟨b0, 0, none⟩)) (by kernel_rfl) (by kernel_rfl) (fun _ => by kernel_rfl) ?_
    refine WD.weaken [0, 18] (L' := [(0, .pointer (some ⟨b0, 0, none⟩)), (18, .pointer (some ⟨b0, 0, none⟩))]) (by kernel_rfl) ?_
    refine WD.pure (i := 2) (v := .pointer (some ⟨b0, 1, none⟩)) (by kernel_rfl) (by kernel_rfl) (fun _ => by kernel_rfl) ?_
    refine WD.weaken [0, 19] (L' := [(0, .pointer (some ⟨b0, 0, none⟩)), (19, .pointer (some ⟨b0, 1, none⟩))]) (by kernel_rfl) ?_
    obtain ⟨A52, c53, hS⟩ := O46.open hS
    have hS : Sat w50 B [pts b0 (.cells #[.int .i64 q0_l2.1, .slice A52 q0_l2.2.1.length c53, .int .i64 q0_l2.2.2.1, .bool q0_l2.2.2.2.1, .int .i64 q0_l2.2.2.2.2.1, .bool q0_l2.2.2.2.2.2] 46 (0, 0)), orw 47 (Ept O50) 1 A52 c53 q0_l2.2.1] := hS
    refine WD.ofR (i := 3) (by kernel_rfl) (RSt.loadObj (t := 44) (k := 1) (v := .slice A52 q0_l2.2.1.length c53) (.tmp 19) (by kernel_rfl) (by kernel_rfl) (by kernel_rfl) 0 hS rfl (by kernel_rfl) rfl ?_)
    refine WD.weaken [0, 20] (L' := [(0, .pointer (some ⟨b0, 0, none⟩)), (20, .slice A52 q0_l2.2.1.length c53)]) (by kernel_rfl) ?_
    refine WD.pure (i := 4) (v := .pointer (some ⟨b0, 0, none⟩)) (by kernel_rfl) (by kernel_rfl) (fun _ => by kernel_rfl) ?_
    refine WD.weaken [0, 20, 21] (L' := [(0, .pointer (some ⟨b0, 0, none⟩)), (20, .slice A52 q0_l2.2.1.length c53), (21, .pointer (some ⟨b0, 0, none⟩))]) (by kernel_rfl) ?_
    refine WD.pure (i := 5) (v := .pointer (some ⟨b0, 0, none⟩)) (by kernel_rfl) (by kernel_rfl) (fun _ => by kernel_rfl) ?_
    refine WD.weaken [0, 20, 22] (L' := [(0, .pointer (some ⟨b0, 0, none⟩)), (20, .slice A52 q0_l2.2.1.length c53), (22, .pointer (some ⟨b0, 0, none⟩))]) (by kernel_rfl) ?_
    refine WD.pure (i := 6) (v := .pointer (some ⟨b0, 2, none⟩)) (by kernel_rfl) (by kernel_rfl) (fun _ => by kernel_rfl) ?_
    refine WD.weaken [0, 20, 23] (L' := [(0, .pointer (some ⟨b0, 0, none⟩)), (20, .slice A52 q0_l2.2.1.length c53), (23, .pointer (some ⟨b0, 2, none⟩))]) (by kernel_rfl) ?_
    refine WD.ofR (i := 7) (by kernel_rfl) (RSt.loadObj (t := 3) (k := 2) (v := .int .i64 q0_l2.2.2.1) (.tmp 23) (by kernel_rfl) (by kernel_rfl) (by kernel_rfl) 0 hS rfl (by kernel_rfl) rfl ?_)
    refine WD.weaken [0, 20, 24] (L' := [(0, .pointer (some ⟨b0, 0, none⟩)), (20, .slice A52 q0_l2.2.1.length c53), (24, .int .i64 q0_l2.2.2.1)]) (by kernel_rfl) ?_
    have hS : Sat w50 B [orw 47 (Ept O50) 1 A52 c53 q0_l2.2.1, pts b0 (.cells #[.int .i64 q0_l2.1, .slice A52 q0_l2.2.1.length c53, .int .i64 q0_l2.2.2.1, .bool q0_l2.2.2.2.1, .int .i64 q0_l2.2.2.2.2.1, .bool q0_l2.2.2.2.2.2] 46 (0, 0))] := hS.sel [1, 0] (by kernel_rfl)
    obtain ⟨K54, hK55, hS⟩ := Sat.gho hS
    have hS : Sat w50 B [gh K54, pts b0 (.cells #[.int .i64 q0_l2.1, .slice A52 q0_l2.2.1.length c53, .int .i64 q0_l2.2.2.1, .bool q0_l2.2.2.2.1, .int .i64 q0_l2.2.2.2.2.1, .bool q0_l2.2.2.2.2.2] 46 (0, 0))] := hS
    have R56 : rdS (rd K54 (.ptr 50 (.pair (.int .i64) (.pair (.int .i64) (.pair (.int .i64) (.slice 55 (.pair (.int .i64) .bool))))))) 1 K54 A52 c53 q0_l2.2.1 := orw.rdS (κ := (.ptr 50 (.pair (.int .i64) (.pair (.int .i64) (.pair (.int .i64) (.slice 55 (.pair (.int .i64) .bool))))))) (Ept.rd (t := 50) (κ := (.pair (.int .i64) (.pair (.int .i64) (.pair (.int .i64) (.slice 55 (.pair (.int .i64) .bool)))))) (O := O50) O50.rd) hK55
    obtain ⟨css57, hC58⟩ := orw.named hK55
    obtain ⟨v59, e60, H⟩ := bind_ex H
    refine WD.ofP (i := 8) (by kernel_rfl) (PSt.idx (k := .i64) (.tmp 20) (.tmp 24) (by kernel_rfl) (by kernel_rfl) E44 (by kernel_rfl) (by kernel_rfl) (rdS.upd R56 (Sat.ghAt 0 hS rfl)) e60 ?_)
    refine WD.weaken [0, 25] (L' := [(0, .pointer (some ⟨b0, 0, none⟩)), (25, .pointer (some (adr A52 (q0_l2.2.2.1).toNat 1)))]) (by kernel_rfl) ?_
    refine WD.ofR (i := 9) (by kernel_rfl) (RSt.loadRow (t := 47) (κ := (.ptr 50 (.pair (.int .i64) (.pair (.int .i64) (.pair (.int .i64) (.slice 55 (.pair (.int .i64) .bool))))))) (Ept.rd (t := 50) (κ := (.pair (.int .i64) (.pair (.int .i64) (.pair (.int .i64) (.slice 55 (.pair (.int .i64) .bool)))))) (O := O50) O50.rd) (.tmp 25) (by kernel_rfl) (by kernel_rfl) (by kernel_rfl) (by kernel_rfl) hC58 e60 (Sat.ghAt 0 hS rfl) (fun u61 C62 R63 => ?_))
    replace R63 : rd K54 (.ptr 50 (.pair (.int .i64) (.pair (.int .i64) (.pair (.int .i64) (.slice 55 (.pair (.int .i64) .bool)))))) [u61] v59 := R63
    replace C62 : css57[(q0_l2.2.2.1).toNat]? = some [u61] := C62
    refine WD.weaken [0, 26] (L' := [(0, .pointer (some ⟨b0, 0, none⟩)), (26, u61)]) (by kernel_rfl) ?_
    refine WD.pure (i := 10) (v := u61) (by kernel_rfl) (by kernel_rfl) (fun _ => by kernel_rfl) ?_
    refine WD.weaken [0, 5] (L' := [(0, .pointer (some ⟨b0, 0, none⟩)), (5, u61)]) (by kernel_rfl) ?_
    refine WD.nil (by kernel_rfl) ?_
    refine At.go ?_
    refine WC.seq (by kernel_rfl) ?_
    refine WC.reg [0, 1, 2] (by kernel_rfl) (by kernel_rfl) ?_
    refine WR.runk [0] [1, 2] [0, 5, 27] (L' := [(0, .pointer (some ⟨b0, 0, none⟩)), (5, u61), (27, u61)]) (w' := w50) (by kernel_rfl) ?_
    obtain ⟨r64, e65, H⟩ := bind_ex H
    refine WR.st (St.call (by kernel_rfl) (f := 20) (args := #[u61]) (by kernel_rfl) (fair_line_ready.calls w50 (u61) v59 (rd.mono (Sat.ghAt 0 hS rfl) _ _ _ R63) r64 e65) ?_)
    rintro _ w71 ⟨rfl, hS72⟩
    have hS : Sat w71 B [gh K54, pts b0 (.cells #[.int .i64 q0_l2.1, .slice A52 q0_l2.2.1.length c53, .int .i64 q0_l2.2.2.1, .bool q0_l2.2.2.2.1, .int .i64 q0_l2.2.2.2.2.1, .bool q0_l2.2.2.2.2.2] 46 (0, 0))] := hS.ext hS72
    refine WR.runk [2] [] [0, 5, 6] (L' := [(0, .pointer (some ⟨b0, 0, none⟩)), (5, u61), (6, .int .i64 r64)]) (w' := w71) (by kernel_rfl) ?_
    refine WR.nil ?_
    refine At.go ?_
    refine WC.seq (by kernel_rfl) ?_
    obtain ⟨o114, e115, H⟩ := bind_ex H
    refine WC.weaken [0, 5, 6] (L' := [(0, .pointer (some ⟨b0, 0, none⟩)), (5, u61), (6, .int .i64 r64)]) (by kernel_rfl) ?_
    refine fair_Ring_Next.j3_ok B b0 q0_l2 A52 c53 K54 css57 v59 u61 r64 hC58 C62 R63 o114 (fun o116 w118 ho119 hS => ?_) (fun o120 u5_q121 w122 ho123 hS C5_q121 => ?_) _ hS e115
    · subst ho119
      dsimp only at H
      refine At.thenRet ?_
      refine At.blockRet ?_
      refine At.thenRet ?_
      obtain rfl := Option.some.inj H
      have hS : Sat w118 B [gh K54, pts b0 (.cells #[.int .i64 q0_l2.1, .slice A52 q0_l2.2.1.length c53, .int .i64 q0_l2.2.2.1, .bool q0_l2.2.2.2.1, .int .i64 o116.2.2.1, .bool o116.2.2.2] 46 (0, 0))] := hS.sel [1, 0] (by kernel_rfl)
      have hS : Sat w118 B [orw 47 (Ept O50) 1 A52 c53 q0_l2.2.1, pts b0 (.cells #[.int .i64 q0_l2.1, .slice A52 q0_l2.2.1.length c53, .int .i64 q0_l2.2.2.1, .bool q0_l2.2.2.2.1, .int .i64 o116.2.2.1, .bool o116.2.2.2] 46 (0, 0))] := Sat.ungh hK55 hS
      have hS : Sat w118 B [pts b0 (.cells #[.int .i64 q0_l2.1, .slice A52 q0_l2.2.1.length c53, .int .i64 q0_l2.2.2.1, .bool q0_l2.2.2.2.1, .int .i64 o116.2.2.1, .bool o116.2.2.2] 46 (0, 0)), orw 47 (Ept O50) 1 A52 c53 q0_l2.2.1] := hS.sel [1, 0] (by kernel_rfl)
      have hS : Sat w118 B [O46 b0 (q0_l2.1, q0_l2.2.1, q0_l2.2.2.1, q0_l2.2.2.2.1, o116.2.2.1, o116.2.2.2)] := O46.close (q0_l2.1, q0_l2.2.1, q0_l2.2.2.1, q0_l2.2.2.2.1, o116.2.2.1, o116.2.2.2) A52 c53 hS
      have hS : Sat w118 B [O46 b0 (q0_l2.1, q0_l2.2.1, q0_l2.2.2.1, q0_l2.2.2.2.1, o116.2.2.1, o116.2.2.2)] := hS.sel [0] (by kernel_rfl)
      refine At.weaken [2, 3, 4] (L' := [(2, .int .i64 o116.1), (3, .int .i64 o116.2.1), (4, .bool true)]) (by kernel_rfl) ?_
      exact hn0 _ hS
    · subst ho123
      dsimp only at H
      refine At.go ?_
      refine WC.seq (by kernel_rfl) ?_
      obtain ⟨o151, e152, H⟩ := bind_ex H
      refine WC.weaken [0, 5, 6] (L' := [(0, .pointer (some ⟨b0, 0, none⟩)), (5, u5_q121), (6, .int .i64 r64)]) (by kernel_rfl) ?_
      refine fair_Ring_Next.j5_ok B b0 q0_l2 A52 c53 K54 css57 r64 o120 u5_q121 hK55 hC58 C5_q121 o151 (fun Aq0p1_q153 cq0p1_q153 w154 hS => ?_) _ hS e152
      refine At.go ?_
      refine WC.seq (by kernel_rfl) ?_
      refine WC.drawn (by kernel_rfl) (by kernel_rfl) 15 (by kernel_rfl) (fun w156 hw157 => ?_)
      have hS := hS.heap hw157.1 hw157.2
      refine WD.weaken [0] (L' := [(0, .pointer (some ⟨b0, 0, none⟩))]) (by kernel_rfl) ?_
      refine WD.pure (i := 0) (v := .pointer (some ⟨b0, 0, none⟩)) (by kernel_rfl) (by kernel_rfl) (fun _ => by kernel_rfl) ?_
      refine WD.weaken [0, 82] (L' := [(0, .pointer (some ⟨b0, 0, none⟩)), (82, .pointer (some ⟨b0, 0, none⟩))]) (by kernel_rfl) ?_
      refine WD.pure (i := 1) (v := .pointer (some ⟨b0, 0, none⟩)) (by kernel_rfl) (by kernel_rfl) (fun _ => by kernel_rfl) ?_
      refine WD.weaken [0, 82, 83] (L' := [(0, .pointer (some ⟨b0, 0, none⟩)), (82, .pointer (some ⟨b0, 0, none⟩)), (83, .pointer (some ⟨b0, 0, none⟩))]) (by kernel_rfl) ?_
      refine WD.pure (i := 2) (v := .pointer (some ⟨b0, 0, none⟩)) (by kernel_rfl) (by kernel_rfl) (fun _ => by kernel_rfl) ?_
      refine WD.weaken [0, 82, 84] (L' := [(0, .pointer (some ⟨b0, 0, none⟩)), (82, .pointer (some ⟨b0, 0, none⟩)), (84, .pointer (some ⟨b0, 0, none⟩))]) (by kernel_rfl) ?_
      refine WD.pure (i := 3) (v := .pointer (some ⟨b0, 2, none⟩)) (by kernel_rfl) (by kernel_rfl) (fun _ => by kernel_rfl) ?_
      refine WD.weaken [0, 82, 85] (L' := [(0, .pointer (some ⟨b0, 0, none⟩)), (82, .pointer (some ⟨b0, 0, none⟩)), (85, .pointer (some ⟨b0, 2, none⟩))]) (by kernel_rfl) ?_
      refine WD.ofR (i := 4) (by kernel_rfl) (RSt.loadObj (t := 3) (k := 2) (v := .int .i64 q0_l2.2.2.1) (.tmp 85) (by kernel_rfl) (by kernel_rfl) (by kernel_rfl) 0 hS rfl (by kernel_rfl) rfl ?_)
      refine WD.weaken [0, 82, 86] (L' := [(0, .pointer (some ⟨b0, 0, none⟩)), (82, .pointer (some ⟨b0, 0, none⟩)), (86, .int .i64 q0_l2.2.2.1)]) (by kernel_rfl) ?_
      refine WD.pure (i := 5) (v := .int .i64 (wi (q0_l2.2.2.1 + 1))) (by kernel_rfl) (by kernel_rfl) (fun _ => by kernel_rfl) ?_
      refine WD.weaken [0, 82, 87] (L' := [(0, .pointer (some ⟨b0, 0, none⟩)), (82, .pointer (some ⟨b0, 0, none⟩)), (87, .int .i64 (wi (q0_l2.2.2.1 + 1)))]) (by kernel_rfl) ?_
      refine WD.pure (i := 6) (v := .pointer (some ⟨b0, 0, none⟩)) (by kernel_rfl) (by kernel_rfl) (fun _ => by kernel_rfl) ?_
      refine WD.weaken [0, 82, 87, 88] (L' := [(0, .pointer (some ⟨b0, 0, none⟩)), (82, .pointer (some ⟨b0, 0, none⟩)), (87, .int .i64 (wi (q0_l2.2.2.1 + 1))), (88, .pointer (some ⟨b0, 0, none⟩))]) (by kernel_rfl) ?_
      refine WD.pure (i := 7) (v := .pointer (some ⟨b0, 0, none⟩)) (by kernel_rfl) (by kernel_rfl) (fun _ => by kernel_rfl) ?_
      refine WD.weaken [0, 82, 87, 89] (L' := [(0, .pointer (some ⟨b0, 0, none⟩)), (82, .pointer (some ⟨b0, 0, none⟩)), (87, .int .i64 (wi (q0_l2.2.2.1 + 1))), (89, .pointer (some ⟨b0, 0, none⟩))]) (by kernel_rfl) ?_
      refine WD.pure (i := 8) (v := .pointer (some ⟨b0, 1, none⟩)) (by kernel_rfl) (by kernel_rfl) (fun _ => by kernel_rfl) ?_
      refine WD.weaken [0, 82, 87, 90] (L' := [(0, .pointer (some ⟨b0, 0, none⟩)), (82, .pointer (some ⟨b0, 0, none⟩)), (87, .int .i64 (wi (q0_l2.2.2.1 + 1))), (90, .pointer (some ⟨b0, 1, none⟩))]) (by kernel_rfl) ?_
      refine WD.ofR (i := 9) (by kernel_rfl) (RSt.loadObj (t := 44) (k := 1) (v := .slice Aq0p1_q153 o151.length cq0p1_q153) (.tmp 90) (by kernel_rfl) (by kernel_rfl) (by kernel_rfl) 0 hS rfl (by kernel_rfl) rfl ?_)
      refine WD.weaken [0, 82, 87, 91] (L' := [(0, .pointer (some ⟨b0, 0, none⟩)), (82, .pointer (some ⟨b0, 0, none⟩)), (87, .int .i64 (wi (q0_l2.2.2.1 + 1))), (91, .slice Aq0p1_q153 o151.length cq0p1_q153)]) (by kernel_rfl) ?_
      refine WD.pure (i := 10) (v := .int .i64 (o151.length : Int)) (by kernel_rfl) (by kernel_rfl) (fun _ => by kernel_rfl) ?_
      refine WD.weaken [0, 82, 87, 92] (L' := [(0, .pointer (some ⟨b0, 0, none⟩)), (82, .pointer (some ⟨b0, 0, none⟩)), (87, .int .i64 (wi (q0_l2.2.2.1 + 1))), (92, .int .i64 (o151.length : Int))]) (by kernel_rfl) ?_
      obtain ⟨_, e158, H⟩ := bind_ex H
      refine WD.ofP (i := 11) (by kernel_rfl) (PSt.div (k := .i64) (t := 3) (t2 := 3) (a := (wi (q0_l2.2.2.1 + 1))) (b := (o151.length : Int)) .rem (by decide) (.tmp 87) (.tmp 92) (by kernel_rfl) (by kernel_rfl) (by kernel_rfl) (by kernel_rfl) (of_decide_eq_true (chk?_some e158)) ?_)
      refine WD.weaken [0, 82, 93] (L' := [(0, .pointer (some ⟨b0, 0, none⟩)), (82, .pointer (some ⟨b0, 0, none⟩)), (93, .int .i64 (Int.tmod (wi (q0_l2.2.2.1 + 1)) (o151.length : Int)))]) (by kernel_rfl) ?_
      refine WD.pure (i := 12) (v := .pointer (some ⟨b0, 0, none⟩)) (by kernel_rfl) (by kernel_rfl) (fun _ => by kernel_rfl) ?_
      refine WD.weaken [0, 93, 94] (L' := [(0, .pointer (some ⟨b0, 0, none⟩)), (93, .int .i64 (Int.tmod (wi (q0_l2.2.2.1 + 1)) (o151.length : Int))), (94, .pointer (some ⟨b0, 0, none⟩))]) (by kernel_rfl) ?_
      refine WD.pure (i := 13) (v := .pointer (some ⟨b0, 2, none⟩)) (by kernel_rfl) (by kernel_rfl) (fun _ => by kernel_rfl) ?_
      refine WD.weaken [0, 93, 95] (L' := [(0, .pointer (some ⟨b0, 0, none⟩)), (93, .int .i64 (Int.tmod (wi (q0_l2.2.2.1 + 1)) (o151.length : Int))), (95, .pointer (some ⟨b0, 2, none⟩))]) (by kernel_rfl) ?_
      refine WD.act (i := 14) (by kernel_rfl) (St.storeObj (t := 3) (k := 2) (cur' := #[.int .i64 q0_l2.1, .slice Aq0p1_q153 o151.length cq0p1_q153, .int .i64 (Int.tmod (wi (q0_l2.2.2.1 + 1)) (o151.length : Int)), .bool q0_l2.2.2.2.1, .int .i64 q0_l2.2.2.2.2.1, .bool q0_l2.2.2.2.2.2]) (.tmp 95) (.tmp 93) (by kernel_rfl) (by kernel_rfl) (by kernel_rfl) hS (by kernel_rfl) (by kernel_rfl) (by kernel_rfl) rfl rfl (fun w159 hS => ?_))
      refine ⟨(asked.anc (by kernel_rfl) (asked.anc (by kernel_rfl) (asked.nil _ _))), ?_⟩
      refine WD.weaken [0] (L' := [(0, .pointer (some ⟨b0, 0, none⟩))]) (by kernel_rfl) ?_
      refine WD.nil (by kernel_rfl) ?_
      refine At.go ?_
      refine WC.seq (by kernel_rfl) ?_
      refine WC.reg [0, 1, 2, 3] (by kernel_rfl) (by kernel_rfl) ?_
      refine WR.runk [0, 1, 2] [3] [0, 98] (L' := [(0, .pointer (some ⟨b0, 0, none⟩)), (98, .pointer (some ⟨b0, 3, none⟩))]) (w' := w159) (by kernel_rfl) ?_
      refine WR.st (St.storeObj (t := 4) (k := 3) (cur' := #[.int .i64 q0_l2.1, .slice Aq0p1_q153 o151.length cq0p1_q153, .int .i64 (Int.tmod (wi (q0_l2.2.2.1 + 1)) (o151.length : Int)), .bool true, .int .i64 q0_l2.2.2.2.2.1, .bool q0_l2.2.2.2.2.2]) (.tmp 98) (.const (.bool true)) (by kernel_rfl) (by kernel_rfl) (by kernel_rfl) hS (by kernel_rfl) (by kernel_rfl) (by kernel_rfl) rfl rfl (fun w160 hS => ?_))
      refine WR.runk [] [] [0] (L' := [(0, .pointer (some ⟨b0, 0, none⟩))]) (w' := w160) (by kernel_rfl) ?_
      refine WR.nil ?_
      refine At.go ?_
      refine WC.seq (by kernel_rfl) ?_
      refine WC.drawn (by kernel_rfl) (by kernel_rfl) 11 (by kernel_rfl) (fun w161 hw162 => ?_)
      have hS := hS.heap hw162.1 hw162.2
      refine WD.weaken [0] (L' := [(0, .pointer (some ⟨b0, 0, none⟩))]) (by kernel_rfl) ?_
      refine WD.pure (i := 0) (v := .pointer (some ⟨b0, 0, none⟩)) (by kernel_rfl) (by kernel_rfl) (fun _ => by kernel_rfl) ?_
      refine WD.weaken [0, 99] (L' := [(0, .pointer (some ⟨b0, 0, none⟩)), (99, .pointer (some ⟨b0, 0, none⟩))]) (by kernel_rfl) ?_
      refine WD.pure (i := 1) (v := .pointer (some ⟨b0, 0, none⟩)) (by kernel_rfl) (by kernel_rfl) (fun _ => by kernel_rfl) ?_
      refine WD.weaken [0, 100] (L' := [(0, .pointer (some ⟨b0, 0, none⟩)), (100, .pointer (some ⟨b0, 0, none⟩))]) (by kernel_rfl) ?_
      refine WD.pure (i := 2) (v := .pointer (some ⟨b0, 1, none⟩)) (by kernel_rfl) (by kernel_rfl) (fun _ => by kernel_rfl) ?_
      refine WD.weaken [0, 101] (L' := [(0, .pointer (some ⟨b0, 0, none⟩)), (101, .pointer (some ⟨b0, 1, none⟩))]) (by kernel_rfl) ?_
      refine WD.ofR (i := 3) (by kernel_rfl) (RSt.loadObj (t := 44) (k := 1) (v := .slice Aq0p1_q153 o151.length cq0p1_q153) (.tmp 101) (by kernel_rfl) (by kernel_rfl) (by kernel_rfl) 0 hS rfl (by kernel_rfl) rfl ?_)
      refine WD.weaken [0, 102] (L' := [(0, .pointer (some ⟨b0, 0, none⟩)), (102, .slice Aq0p1_q153 o151.length cq0p1_q153)]) (by kernel_rfl) ?_
      refine WD.pure (i := 4) (v := .pointer (some ⟨b0, 0, none⟩)) (by kernel_rfl) (by kernel_rfl) (fun _ => by kernel_rfl) ?_
      refine WD.weaken [0, 102, 103] (L' := [(0, .pointer (some ⟨b0, 0, none⟩)), (102, .slice Aq0p1_q153 o151.length cq0p1_q153), (103, .pointer (some ⟨b0, 0, none⟩))]) (by kernel_rfl) ?_
      refine WD.pure (i := 5) (v := .pointer (some ⟨b0, 0, none⟩)) (by kernel_rfl) (by kernel_rfl) (fun _ => by kernel_rfl) ?_
      refine WD.weaken [0, 102, 104] (L' := [(0, .pointer (some ⟨b0, 0, none⟩)), (102, .slice Aq0p1_q153 o151.length cq0p1_q153), (104, .pointer (some ⟨b0, 0, none⟩))]) (by kernel_rfl) ?_
      refine WD.pure (i := 6) (v := .pointer (some ⟨b0, 2, none⟩)) (by kernel_rfl) (by kernel_rfl) (fun _ => by kernel_rfl) ?_
      refine WD.weaken [0, 102, 105] (L' := [(0, .pointer (some ⟨b0, 0, none⟩)), (102, .slice Aq0p1_q153 o151.length cq0p1_q153), (105, .pointer (some ⟨b0, 2, none⟩))]) (by kernel_rfl) ?_
      refine WD.ofR (i := 7) (by kernel_rfl) (RSt.loadObj (t := 3) (k := 2) (v := .int .i64 (Int.tmod (wi (q0_l2.2.2.1 + 1)) (o151.length : Int))) (.tmp 105) (by kernel_rfl) (by kernel_rfl) (by kernel_rfl) 0 hS rfl (by kernel_rfl) rfl ?_)
      refine WD.weaken [0, 102, 106] (L' := [(0, .pointer (some ⟨b0, 0, none⟩)), (102, .slice Aq0p1_q153 o151.length cq0p1_q153), (106, .int .i64 (Int.tmod (wi (q0_l2.2.2.1 + 1)) (o151.length : Int)))]) (by kernel_rfl) ?_
      have hS : Sat w161 B [orw 47 (Ept O50) 1 Aq0p1_q153 cq0p1_q153 o151, pts b0 (.cells #[.int .i64 q0_l2.1, .slice Aq0p1_q153 o151.length cq0p1_q153, .int .i64 (Int.tmod (wi (q0_l2.2.2.1 + 1)) (o151.length : Int)), .bool true, .int .i64 q0_l2.2.2.2.2.1, .bool q0_l2.2.2.2.2.2] 46 (0, 0))] := hS.sel [1, 0] (by kernel_rfl)
      obtain ⟨K163, hK164, hS⟩ := Sat.gho hS
      have hS : Sat w161 B [gh K163, pts b0 (.cells #[.int .i64 q0_l2.1, .slice Aq0p1_q153 o151.length cq0p1_q153, .int .i64 (Int.tmod (wi (q0_l2.2.2.1 + 1)) (o151.length : Int)), .bool true, .int .i64 q0_l2.2.2.2.2.1, .bool q0_l2.2.2.2.2.2] 46 (0, 0))] := hS
      have R165 : rdS (rd K163 (.ptr 50 (.pair (.int .i64) (.pair (.int .i64) (.pair (.int .i64) (.slice 55 (.pair (.int .i64) .bool))))))) 1 K163 Aq0p1_q153 cq0p1_q153 o151 := orw.rdS (κ := (.ptr 50 (.pair (.int .i64) (.pair (.int .i64) (.pair (.int .i64) (.slice 55 (.pair (.int .i64) .bool))))))) (Ept.rd (t := 50) (κ := (.pair (.int .i64) (.pair (.int .i64) (.pair (.int .i64) (.slice 55 (.pair (.int .i64) .bool)))))) (O := O50) O50.rd) hK164
      obtain ⟨css166, hC167⟩ := orw.named hK164
      obtain ⟨v168, e169, H⟩ := bind_ex H
      refine WD.ofP (i := 8) (by kernel_rfl) (PSt.idx (k := .i64) (.tmp 102) (.tmp 106) (by kernel_rfl) (by kernel_rfl) E44 (by kernel_rfl) (by kernel_rfl) (rdS.upd R165 (Sat.ghAt 0 hS rfl)) e169 ?_)
      refine WD.weaken [0, 107] (L' := [(0, .pointer (some ⟨b0, 0, none⟩)), (107, .pointer (some (adr Aq0p1_q153 (Int.tmod (wi (q0_l2.2.2.1 + 1)) (o151.length : Int)).toNat 1)))]) (by kernel_rfl) ?_
      refine WD.ofR (i := 9) (by kernel_rfl) (RSt.loadRow (t := 47) (κ := (.ptr 50 (.pair (.int .i64) (.pair (.int .i64) (.pair (.int .i64) (.slice 55 (.pair (.int .i64) .bool))))))) (Ept.rd (t := 50) (κ := (.pair (.int .i64) (.pair (.int .i64) (.pair (.int .i64) (.slice 55 (.pair (.int .i64) .bool)))))) (O := O50) O50.rd) (.tmp 107) (by kernel_rfl) (by kernel_rfl) (by kernel_rfl) (by kernel_rfl) hC167 e169 (Sat.ghAt 0 hS rfl) (fun u170 C171 R172 => ?_))
      replace R172 : rd K163 (.ptr 50 (.pair (.int .i64) (.pair (.int .i64) (.pair (.int .i64) (.slice 55 (.pair (.int .i64) .bool)))))) [u170] v168 := R172
      replace C171 : css166[(Int.tmod (wi (q0_l2.2.2.1 + 1)) (o151.length : Int)).toNat]? = some [u170] := C171
      refine WD.weaken [0, 108] (L' := [(0, .pointer (some ⟨b0, 0, none⟩)), (108, u170)]) (by kernel_rfl) ?_
      refine WD.pure (i := 10) (v := u170) (by kernel_rfl) (by kernel_rfl) (fun _ => by kernel_rfl) ?_
      refine WD.weaken [0, 5] (L' := [(0, .pointer (some ⟨b0, 0, none⟩)), (5, u170)]) (by kernel_rfl) ?_
      refine WD.nil (by kernel_rfl) ?_
      refine At.go ?_
      refine WC.seq (by kernel_rfl) ?_
      refine WC.reg [0, 1, 2] (by kernel_rfl) (by kernel_rfl) ?_
      refine WR.runk [0] [1, 2] [0, 5, 109] (L' := [(0, .pointer (some ⟨b0, 0, none⟩)), (5, u170), (109, u170)]) (w' := w161) (by kernel_rfl) ?_
      obtain ⟨r173, e174, H⟩ := bind_ex H
      refine WR.st (St.call (by kernel_rfl) (f := 20) (args := #[u170]) (by kernel_rfl) (fair_line_ready.calls w161 (u170) v168 (rd.mono (Sat.ghAt 0 hS rfl) _ _ _ R172) r173 e174) ?_)
      rintro _ w180 ⟨rfl, hS181⟩
      have hS : Sat w180 B [gh K163, pts b0 (.cells #[.int .i64 q0_l2.1, .slice Aq0p1_q153 o151.length cq0p1_q153, .int .i64 (Int.tmod (wi (q0_l2.2.2.1 + 1)) (o151.length : Int)), .bool true, .int .i64 q0_l2.2.2.2.2.1, .bool q0_l2.2.2.2.2.2] 46 (0, 0))] := hS.ext hS181
      refine WR.runk [2] [] [0, 5, 111] (L' := [(0, .pointer (some ⟨b0, 0, none⟩)), (5, u170), (111, .bool (decide (r173 ≥ 0)))]) (w' := w180) (by kernel_rfl) ?_
      refine WR.nil ?_
      refine At.go ?_
      refine WC.cond (by kernel_rfl) (decide (r173 ≥ 0)) (by kernel_rfl) (by kernel_rfl) (fun hb182 => ?_) (fun hb182 => ?_)
      · replace H := ite_t H hb182
        refine WC.drawn (by kernel_rfl) (by kernel_rfl) 17 (by kernel_rfl) (fun w183 hw184 => ?_)
        have hS := hS.heap hw184.1 hw184.2
        refine WD.weaken [0, 5] (L' := [(0, .pointer (some ⟨b0, 0, none⟩)), (5, u170)]) (by kernel_rfl) ?_
        refine WD.pure (i := 0) (v := u170) (by kernel_rfl) (by kernel_rfl) (fun _ => by kernel_rfl) ?_
        refine WD.weaken [0, 5, 112] (L' := [(0, .pointer (some ⟨b0, 0, none⟩)), (5, u170), (112, u170)]) (by kernel_rfl) ?_
        obtain ⟨y187, hr185, H⟩ := bind_ex H
        obtain ⟨b188, fr189, A193, c194, hv190, hb191, R195⟩ := P50.open R172 hr185
        have R192 := R172
        rw [hv190, hr185] at R192
        have C196 : css166[(Int.tmod (wi (q0_l2.2.2.1 + 1)) (o151.length : Int)).toNat]? = some [.pointer (some ⟨b188, 0, none⟩)] := by rw [← hv190]; exact C171
        try subst hv190
        replace R195 : rdS (r0 (.pair (.int .i64) .bool)) 2 K163 A193 c194 y187.2.2.2 := R195
        refine WD.weaken [0, 5, 112] (L' := [(0, .pointer (some ⟨b0, 0, none⟩)), (5, .pointer (some ⟨b188, 0, none⟩)), (112, .pointer (some ⟨b188, 0, none⟩))]) (by kernel_rfl) ?_
        refine WD.pure (i := 1) (v := .pointer (some ⟨b188, 0, none⟩)) (by kernel_rfl) (by kernel_rfl) (fun _ => by kernel_rfl) ?_
        refine WD.weaken [0, 5, 112, 113] (L' := [(0, .pointer (some ⟨b0, 0, none⟩)), (5, .pointer (some ⟨b188, 0, none⟩)), (112, .pointer (some ⟨b188, 0, none⟩)), (113, .pointer (some ⟨b188, 0, none⟩))]) (by kernel_rfl) ?_
        refine WD.pure (i := 2) (v := .pointer (some ⟨b188, 1, none⟩)) (by kernel_rfl) (by kernel_rfl) (fun _ => by kernel_rfl) ?_
        refine WD.weaken [0, 5, 112, 114] (L' := [(0, .pointer (some ⟨b0, 0, none⟩)), (5, .pointer (some ⟨b188, 0, none⟩)), (112, .pointer (some ⟨b188, 0, none⟩)), (114, .pointer (some ⟨b188, 1, none⟩))]) (by kernel_rfl) ?_
        refine WD.ofR (i := 3) (by kernel_rfl) (RSt.loadRo (t := 3) (k := 1) (v := .int .i64 y187.2.1) (.tmp 114) (by kernel_rfl) (by kernel_rfl) (by kernel_rfl) (Sat.ghAt 0 hS rfl) hb191 (by kernel_rfl) rfl ?_)
        refine WD.weaken [0, 5, 112, 115] (L' := [(0, .pointer (some ⟨b0, 0, none⟩)), (5, .pointer (some ⟨b188, 0, none⟩)), (112, .pointer (some ⟨b188, 0, none⟩)), (115, .int .i64 y187.2.1)]) (by kernel_rfl) ?_
        refine WD.pure (i := 4) (v := .pointer (some ⟨b0, 0, none⟩)) (by kernel_rfl) (by kernel_rfl) (fun _ => by kernel_rfl) ?_
        refine WD.weaken [0, 5, 112, 115, 116] (L' := [(0, .pointer (some ⟨b0, 0, none⟩)), (5, .pointer (some ⟨b188, 0, none⟩)), (112, .pointer (some ⟨b188, 0, none⟩)), (115, .int .i64 y187.2.1), (116, .pointer (some ⟨b0, 0, none⟩))]) (by kernel_rfl) ?_
        refine WD.pure (i := 5) (v := .pointer (some ⟨b0, 0, none⟩)) (by kernel_rfl) (by kernel_rfl) (fun _ => by kernel_rfl) ?_
        refine WD.weaken [0, 5, 112, 115, 117] (L' := [(0, .pointer (some ⟨b0, 0, none⟩)), (5, .pointer (some ⟨b188, 0, none⟩)), (112, .pointer (some ⟨b188, 0, none⟩)), (115, .int .i64 y187.2.1), (117, .pointer (some ⟨b0, 0, none⟩))]) (by kernel_rfl) ?_
        refine WD.pure (i := 6) (v := .pointer (some ⟨b0, 0, none⟩)) (by kernel_rfl) (by kernel_rfl) (fun _ => by kernel_rfl) ?_
        refine WD.weaken [0, 5, 112, 115, 118] (L' := [(0, .pointer (some ⟨b0, 0, none⟩)), (5, .pointer (some ⟨b188, 0, none⟩)), (112, .pointer (some ⟨b188, 0, none⟩)), (115, .int .i64 y187.2.1), (118, .pointer (some ⟨b0, 0, none⟩))]) (by kernel_rfl) ?_
        refine WD.ofR (i := 7) (by kernel_rfl) (RSt.loadObj (t := 3) (k := 0) (v := .int .i64 q0_l2.1) (.tmp 118) (by kernel_rfl) (by kernel_rfl) (by kernel_rfl) 1 hS rfl (by kernel_rfl) rfl ?_)
        refine WD.weaken [0, 5, 112, 115, 119] (L' := [(0, .pointer (some ⟨b0, 0, none⟩)), (5, .pointer (some ⟨b188, 0, none⟩)), (112, .pointer (some ⟨b188, 0, none⟩)), (115, .int .i64 y187.2.1), (119, .int .i64 q0_l2.1)]) (by kernel_rfl) ?_
        refine WD.pure (i := 8) (v := .pointer (some ⟨b188, 0, none⟩)) (by kernel_rfl) (by kernel_rfl) (fun _ => by kernel_rfl) ?_
        refine WD.weaken [0, 112, 115, 119, 120] (L' := [(0, .pointer (some ⟨b0, 0, none⟩)), (112, .pointer (some ⟨b188, 0, none⟩)), (115, .int .i64 y187.2.1), (119, .int .i64 q0_l2.1), (120, .pointer (some ⟨b188, 0, none⟩))]) (by kernel_rfl) ?_
        refine WD.pure (i := 9) (v := .pointer (some ⟨b188, 0, none⟩)) (by kernel_rfl) (by kernel_rfl) (fun _ => by kernel_rfl) ?_
        refine WD.weaken [0, 112, 115, 119, 121] (L' := [(0, .pointer (some ⟨b0, 0, none⟩)), (112, .pointer (some ⟨b188, 0, none⟩)), (115, .int .i64 y187.2.1), (119, .int .i64 q0_l2.1), (121, .pointer (some ⟨b188, 0, none⟩))]) (by kernel_rfl) ?_
        refine WD.pure (i := 10) (v := .pointer (some ⟨b188, 0, none⟩)) (by kernel_rfl) (by kernel_rfl) (fun _ => by kernel_rfl) ?_
        refine WD.weaken [0, 112, 115, 119, 122] (L' := [(0, .pointer (some ⟨b0, 0, none⟩)), (112, .pointer (some ⟨b188, 0, none⟩)), (115, .int .i64 y187.2.1), (119, .int .i64 q0_l2.1), (122, .pointer (some ⟨b188, 0, none⟩))]) (by kernel_rfl) ?_
        refine WD.ofR (i := 11) (by kernel_rfl) (RSt.loadRo (t := 3) (k := 0) (v := .int .i64 y187.1) (.tmp 122) (by kernel_rfl) (by kernel_rfl) (by kernel_rfl) (Sat.ghAt 0 hS rfl) hb191 (by kernel_rfl) rfl ?_)
        refine WD.weaken [0, 112, 115, 119, 123] (L' := [(0, .pointer (some ⟨b0, 0, none⟩)), (112, .pointer (some ⟨b188, 0, none⟩)), (115, .int .i64 y187.2.1), (119, .int .i64 q0_l2.1), (123, .int .i64 y187.1)]) (by kernel_rfl) ?_
        refine WD.pure (i := 12) (v := .int .i64 (wi (q0_l2.1 * y187.1))) (by kernel_rfl) (by kernel_rfl) (fun _ => by kernel_rfl) ?_
        refine WD.weaken [0, 112, 115, 124] (L' := [(0, .pointer (some ⟨b0, 0, none⟩)), (112, .pointer (some ⟨b188, 0, none⟩)), (115, .int .i64 y187.2.1), (124, .int .i64 (wi (q0_l2.1 * y187.1)))]) (by kernel_rfl) ?_
        refine WD.pure (i := 13) (v := .int .i64 (wi (y187.2.1 + (wi (q0_l2.1 * y187.1))))) (by kernel_rfl) (by kernel_rfl) (fun _ => by kernel_rfl) ?_
        refine WD.weaken [0, 112, 125] (L' := [(0, .pointer (some ⟨b0, 0, none⟩)), (112, .pointer (some ⟨b188, 0, none⟩)), (125, .int .i64 (wi (y187.2.1 + (wi (q0_l2.1 * y187.1)))))]) (by kernel_rfl) ?_
        refine WD.pure (i := 14) (v := .pointer (some ⟨b188, 0, none⟩)) (by kernel_rfl) (by kernel_rfl) (fun _ => by kernel_rfl) ?_
        refine WD.weaken [0, 125, 126] (L' := [(0, .pointer (some ⟨b0, 0, none⟩)), (125, .int .i64 (wi (y187.2.1 + (wi (q0_l2.1 * y187.1))))), (126, .pointer (some ⟨b188, 0, none⟩))]) (by kernel_rfl) ?_
        refine WD.pure (i := 15) (v := .pointer (some ⟨b188, 1, none⟩)) (by kernel_rfl) (by kernel_rfl) (fun _ => by kernel_rfl) ?_
        refine WD.weaken [0, 125, 127] (L' := [(0, .pointer (some ⟨b0, 0, none⟩)), (125, .int .i64 (wi (y187.2.1 + (wi (q0_l2.1 * y187.1))))), (127, .pointer (some ⟨b188, 1, none⟩))]) (by kernel_rfl) ?_
        have hS : Sat w183 B [orh 47 (Ept O50) 1 Aq0p1_q153 cq0p1_q153 css166 ((Int.tmod (wi (q0_l2.2.2.1 + 1)) (o151.length : Int)).toNat) o151, O50 b188 y187, pts b0 (.cells #[.int .i64 q0_l2.1, .slice Aq0p1_q153 o151.length cq0p1_q153, .int .i64 (Int.tmod (wi (q0_l2.2.2.1 + 1)) (o151.length : Int)), .bool true, .int .i64 q0_l2.2.2.2.2.1, .bool q0_l2.2.2.2.2.2] 46 (0, 0))] := Sat.focusP hC167 hS C196 ((at?_idx e169).trans (by rw [hr185]))
        have hS : Sat w183 B [O50 b188 y187, orh 47 (Ept O50) 1 Aq0p1_q153 cq0p1_q153 css166 ((Int.tmod (wi (q0_l2.2.2.1 + 1)) (o151.length : Int)).toNat) o151, pts b0 (.cells #[.int .i64 q0_l2.1, .slice Aq0p1_q153 o151.length cq0p1_q153, .int .i64 (Int.tmod (wi (q0_l2.2.2.1 + 1)) (o151.length : Int)), .bool true, .int .i64 q0_l2.2.2.2.2.1, .bool q0_l2.2.2.2.2.2] 46 (0, 0))] := hS.sel [1, 0, 2] (by kernel_rfl)
        obtain ⟨A198, c199, hS⟩ := O50.open hS
        have hS : Sat w183 B [pts b188 (.cells #[.int .i64 y187.1, .int .i64 y187.2.1, .int .i64 y187.2.2.1, .slice A198 y187.2.2.2.length c199] 50 (0, 0)), osl 55 (r0 (.pair (.int .i64) .bool)) 2 A198 c199 y187.2.2.2, orh 47 (Ept O50) 1 Aq0p1_q153 cq0p1_q153 css166 ((Int.tmod (wi (q0_l2.2.2.1 + 1)) (o151.length : Int)).toNat) o151, pts b0 (.cells #[.int .i64 q0_l2.1, .slice Aq0p1_q153 o151.length cq0p1_q153, .int .i64 (Int.tmod (wi (q0_l2.2.2.1 + 1)) (o151.length : Int)), .bool true, .int .i64 q0_l2.2.2.2.2.1, .bool q0_l2.2.2.2.2.2] 46 (0, 0))] := hS
        refine WD.act (i := 16) (by kernel_rfl) (St.storeObj (t := 3) (k := 1) (cur' := #[.int .i64 y187.1, .int .i64 (wi (y187.2.1 + (wi (q0_l2.1 * y187.1)))), .int .i64 y187.2.2.1, .slice A198 y187.2.2.2.length c199]) (.tmp 127) (.tmp 125) (by kernel_rfl) (by kernel_rfl) (by kernel_rfl) hS (by kernel_rfl) (by kernel_rfl) (by kernel_rfl) rfl rfl (fun w200 hS => ?_))
        refine ⟨(asked.anc (by kernel_rfl) (asked.anc (by kernel_rfl) (asked.anc (by kernel_rfl) (asked.nil _ _)))), ?_⟩
        refine WD.weaken [0] (L' := [(0, .pointer (some ⟨b0, 0, none⟩))]) (by kernel_rfl) ?_
        refine WD.nil (by kernel_rfl) ?_
        refine At.blockNormal ?_
        have hS : Sat w200 B [pts b188 (.cells #[.int .i64 y187.1, .int .i64 (wi (y187.2.1 + (wi (q0_l2.1 * y187.1)))), .int .i64 y187.2.2.1, .slice A198 y187.2.2.2.length c199] 50 (0, 0)), osl 55 (r0 (.pair (.int .i64) .bool)) 2 A198 c199 y187.2.2.2, orh 47 (Ept O50) 1 Aq0p1_q153 cq0p1_q153 css166 ((Int.tmod (wi (q0_l2.2.2.1 + 1)) (o151.length : Int)).toNat) o151, pts b0 (.cells #[.int .i64 q0_l2.1, .slice Aq0p1_q153 o151.length cq0p1_q153, .int .i64 (Int.tmod (wi (q0_l2.2.2.1 + 1)) (o151.length : Int)), .bool true, .int .i64 q0_l2.2.2.2.2.1, .bool q0_l2.2.2.2.2.2] 46 (0, 0))] := hS.sel [0, 1, 2, 3] (by kernel_rfl)
        have hS : Sat w200 B [O50 b188 (y187.1, wi (y187.2.1 + (wi (q0_l2.1 * y187.1))), y187.2.2.1, y187.2.2.2), orh 47 (Ept O50) 1 Aq0p1_q153 cq0p1_q153 css166 ((Int.tmod (wi (q0_l2.2.2.1 + 1)) (o151.length : Int)).toNat) o151, pts b0 (.cells #[.int .i64 q0_l2.1, .slice Aq0p1_q153 o151.length cq0p1_q153, .int .i64 (Int.tmod (wi (q0_l2.2.2.1 + 1)) (o151.length : Int)), .bool true, .int .i64 q0_l2.2.2.2.2.1, .bool q0_l2.2.2.2.2.2] 46 (0, 0))] := O50.close (y187.1, wi (y187.2.1 + (wi (q0_l2.1 * y187.1))), y187.2.2.1, y187.2.2.2) A198 c199 hS
        have hS : Sat w200 B [orh 47 (Ept O50) 1 Aq0p1_q153 cq0p1_q153 css166 ((Int.tmod (wi (q0_l2.2.2.1 + 1)) (o151.length : Int)).toNat) o151, O50 b188 (y187.1, wi (y187.2.1 + (wi (q0_l2.1 * y187.1))), y187.2.2.1, y187.2.2.2), pts b0 (.cells #[.int .i64 q0_l2.1, .slice Aq0p1_q153 o151.length cq0p1_q153, .int .i64 (Int.tmod (wi (q0_l2.2.2.1 + 1)) (o151.length : Int)), .bool true, .int .i64 q0_l2.2.2.2.2.1, .bool q0_l2.2.2.2.2.2] 46 (0, 0))] := hS.sel [1, 0, 2] (by kernel_rfl)
        have hS : Sat w200 B [orw 47 (Ept O50) 1 Aq0p1_q153 cq0p1_q153 (List.set o151 ((Int.tmod (wi (q0_l2.2.2.1 + 1)) (o151.length : Int)).toNat) (some (y187.1, wi (y187.2.1 + (wi (q0_l2.1 * y187.1))), y187.2.2.1, y187.2.2.2))), pts b0 (.cells #[.int .i64 q0_l2.1, .slice Aq0p1_q153 o151.length cq0p1_q153, .int .i64 (Int.tmod (wi (q0_l2.2.2.1 + 1)) (o151.length : Int)), .bool true, .int .i64 q0_l2.2.2.2.2.1, .bool q0_l2.2.2.2.2.2] 46 (0, 0))] := Sat.fillP hS C196
        have hl201 : List.length (List.set o151 ((Int.tmod (wi (q0_l2.2.2.1 + 1)) (o151.length : Int)).toNat) (some (y187.1, wi (y187.2.1 + (wi (q0_l2.1 * y187.1))), y187.2.2.1, y187.2.2.2))) = List.length o151 := List.length_set
        have hS : Sat w200 B [orw 47 (Ept O50) 1 Aq0p1_q153 cq0p1_q153 (List.set o151 ((Int.tmod (wi (q0_l2.2.2.1 + 1)) (o151.length : Int)).toNat) (some (y187.1, wi (y187.2.1 + (wi (q0_l2.1 * y187.1))), y187.2.2.1, y187.2.2.2))), pts b0 (.cells #[.int .i64 q0_l2.1, .slice Aq0p1_q153 (List.set o151 ((Int.tmod (wi (q0_l2.2.2.1 + 1)) (o151.length : Int)).toNat) (some (y187.1, wi (y187.2.1 + (wi (q0_l2.1 * y187.1))), y187.2.2.1, y187.2.2.2))).length cq0p1_q153, .int .i64 (Int.tmod (wi (q0_l2.2.2.1 + 1)) (o151.length : Int)), .bool true, .int .i64 q0_l2.2.2.2.2.1, .bool q0_l2.2.2.2.2.2] 46 (0, 0))] := by simpa only [hl201] using hS
        have hS : Sat w200 B [pts b0 (.cells #[.int .i64 q0_l2.1, .slice Aq0p1_q153 (List.set o151 ((Int.tmod (wi (q0_l2.2.2.1 + 1)) (o151.length : Int)).toNat) (some (y187.1, wi (y187.2.1 + (wi (q0_l2.1 * y187.1))), y187.2.2.1, y187.2.2.2))).length cq0p1_q153, .int .i64 (Int.tmod (wi (q0_l2.2.2.1 + 1)) (o151.length : Int)), .bool true, .int .i64 q0_l2.2.2.2.2.1, .bool q0_l2.2.2.2.2.2] 46 (0, 0)), orw 47 (Ept O50) 1 Aq0p1_q153 cq0p1_q153 (List.set o151 ((Int.tmod (wi (q0_l2.2.2.1 + 1)) (o151.length : Int)).toNat) (some (y187.1, wi (y187.2.1 + (wi (q0_l2.1 * y187.1))), y187.2.2.1, y187.2.2.2)))] := hS.sel [1, 0] (by kernel_rfl)
        have hS : Sat w200 B [O46 b0 (q0_l2.1, (List.set o151 ((Int.tmod (wi (q0_l2.2.2.1 + 1)) (o151.length : Int)).toNat) (some (y187.1, wi (y187.2.1 + (wi (q0_l2.1 * y187.1))), y187.2.2.1, y187.2.2.2))), Int.tmod (wi (q0_l2.2.2.1 + 1)) (o151.length : Int), true, q0_l2.2.2.2.2.1, q0_l2.2.2.2.2.2)] := O46.close (q0_l2.1, (List.set o151 ((Int.tmod (wi (q0_l2.2.2.1 + 1)) (o151.length : Int)).toNat) (some (y187.1, wi (y187.2.1 + (wi (q0_l2.1 * y187.1))), y187.2.2.1, y187.2.2.2))), Int.tmod (wi (q0_l2.2.2.1 + 1)) (o151.length : Int), true, q0_l2.2.2.2.2.1, q0_l2.2.2.2.2.2) Aq0p1_q153 cq0p1_q153 hS
        have hS : Sat w200 B [O46 b0 (q0_l2.1, (List.set o151 ((Int.tmod (wi (q0_l2.2.2.1 + 1)) (o151.length : Int)).toNat) (some (y187.1, wi (y187.2.1 + (wi (q0_l2.1 * y187.1))), y187.2.2.1, y187.2.2.2))), Int.tmod (wi (q0_l2.2.2.1 + 1)) (o151.length : Int), true, q0_l2.2.2.2.2.1, q0_l2.2.2.2.2.2)] := hS.sel [0] (by kernel_rfl)
        refine At.again ?_
        refine WL.weaken [0] (L' := [(0, .pointer (some ⟨b0, 0, none⟩))]) (by kernel_rfl) ?_
        exact ih (q0_l2.1, (List.set o151 ((Int.tmod (wi (q0_l2.2.2.1 + 1)) (o151.length : Int)).toNat) (some (y187.1, wi (y187.2.1 + (wi (q0_l2.1 * y187.1))), y187.2.2.1, y187.2.2.2))), Int.tmod (wi (q0_l2.2.2.1 + 1)) (o151.length : Int), true, q0_l2.2.2.2.2.1, q0_l2.2.2.2.2.2) _ hS H
      · replace H := ite_f H hb182
        refine WC.skip (by kernel_rfl) ?_
        refine At.blockNormal ?_
        have hS : Sat w180 B [orw 47 (Ept O50) 1 Aq0p1_q153 cq0p1_q153 o151, pts b0 (.cells #[.int .i64 q0_l2.1, .slice Aq0p1_q153 o151.length cq0p1_q153, .int .i64 (Int.tmod (wi (q0_l2.2.2.1 + 1)) (o151.length : Int)), .bool true, .int .i64 q0_l2.2.2.2.2.1, .bool q0_l2.2.2.2.2.2] 46 (0, 0))] := Sat.ungh hK164 hS
        have hS : Sat w180 B [pts b0 (.cells #[.int .i64 q0_l2.1, .slice Aq0p1_q153 o151.length cq0p1_q153, .int .i64 (Int.tmod (wi (q0_l2.2.2.1 + 1)) (o151.length : Int)), .bool true, .int .i64 q0_l2.2.2.2.2.1, .bool q0_l2.2.2.2.2.2] 46 (0, 0)), orw 47 (Ept O50) 1 Aq0p1_q153 cq0p1_q153 o151] := hS.sel [1, 0] (by kernel_rfl)
        have hS : Sat w180 B [O46 b0 (q0_l2.1, o151, Int.tmod (wi (q0_l2.2.2.1 + 1)) (o151.length : Int), true, q0_l2.2.2.2.2.1, q0_l2.2.2.2.2.2)] := O46.close (q0_l2.1, o151, Int.tmod (wi (q0_l2.2.2.1 + 1)) (o151.length : Int), true, q0_l2.2.2.2.2.1, q0_l2.2.2.2.2.2) Aq0p1_q153 cq0p1_q153 hS
        have hS : Sat w180 B [O46 b0 (q0_l2.1, o151, Int.tmod (wi (q0_l2.2.2.1 + 1)) (o151.length : Int), true, q0_l2.2.2.2.2.1, q0_l2.2.2.2.2.2)] := hS.sel [0] (by kernel_rfl)
        refine At.again ?_
        refine WL.weaken [0] (L' := [(0, .pointer (some ⟨b0, 0, none⟩))]) (by kernel_rfl) ?_
        exact ih (q0_l2.1, o151, Int.tmod (wi (q0_l2.2.2.1 + 1)) (o151.length : Int), true, q0_l2.2.2.2.2.1, q0_l2.2.2.2.2.2) _ hS H
theorem fair_Ring_Next.calls (B : Rf) (w0 : World) (b0 : Nat) (p0 : Int × (List (Option (Int × Int × Int × (List (Int × Bool))))) × Int × Bool × Int × Bool) (hS : Sat w0 B [O46 b0 p0]) (r : Int × Int × Bool × (Int × (List (Option (Int × Int × Int × (List (Int × Bool))))) × Int × Bool × Int × Bool)) (H : fair_Ring_Next.f p0 = some r) :
    Calls Try.prog 10 #[.pointer (some ⟨b0, 0, none⟩)] w0 (fun e w' => ∃ v, e = .returned v ∧ fair_Ring_Next.post B b0 p0 w0 r v w') := by
  unfold fair_Ring_Next.f at H
  refine calls_of_WC (vs := [.pointer (some ⟨b0, 0, none⟩)]) Try.func10 (c := C10) (n := 128) (by kernel_rfl) (by kernel_rfl) (by kernel_rfl) ?_
  refine WC.seq (by kernel_rfl) ?_
  refine WC.reg [0, 1, 2] (by kernel_rfl) (by kernel_rfl) ?_
  refine WR.runk [0, 1, 2] [] [0] (L' := [(0, .pointer (some ⟨b0, 0, none⟩))]) (w' := w0) (by kernel_rfl) ?_
  refine WR.nil ?_
  refine At.go ?_
  refine WC.seq (by kernel_rfl) ?_
  obtain ⟨o40, e41, H⟩ := bind_ex H
  refine WC.weaken [0] (L' := [(0, .pointer (some ⟨b0, 0, none⟩))]) (by kernel_rfl) ?_
  refine fair_Ring_Next.j1_ok B b0 p0 o40 (fun o42 w44 ho45 hS => ?_) (fun o46 w48 ho49 hS => ?_) _ hS e41
  · subst ho45
    dsimp only at H
    refine At.thenRet ?_
    obtain rfl := Option.some.inj H
    have hS : Sat w44 B [O46 b0 p0] := hS.sel [0] (by kernel_rfl)
    exact At.body [.int .i64 (-1), .int .i64 (-1), .bool false] (by kernel_rfl) ⟨_, rfl, rfl, hS⟩
  · subst ho49
    dsimp only at H
    refine At.go ?_
    refine WC.block (by kernel_rfl) ?_
    have hS : Sat w48 B [O46 b0 p0] := hS.sel [0] (by kernel_rfl)
    obtain ⟨o202, e203, H⟩ := bind_ex H
    refine WC.loop (by kernel_rfl) ?_
    refine WL.weaken [0] (L' := [(0, .pointer (some ⟨b0, 0, none⟩))]) (by kernel_rfl) ?_
    refine fair_Ring_Next.l2_ok B b0 o202 (fun w205 hS => ?_) FU p0 _ hS e203
    refine At.blockRet ?_
    obtain rfl := Option.some.inj H
    have hS : Sat w205 B [O46 b0 o202.2.2.2] := hS.sel [0] (by kernel_rfl)
    exact At.body [.int .i64 o202.1, .int .i64 o202.2.1, .bool o202.2.2.1] (by kernel_rfl) ⟨_, rfl, rfl, hS⟩
/-! ### 11 (*colophon/fair.Ring).Charge -/
def fair_Ring_Charge.l2 (p0 : Int × (List (Option (Int × Int × Int × (List (Int × Bool))))) × Int × Bool × Int × Bool) (y22 : Int × Int × Int × (List (Int × Bool))) : Nat → Int → Option (Sum Int Unit)
  | 0, _ => none
  | k + 1, x8_l2 => (if decide (x8_l2 < (y22.2.2.2.length : Int)) then ((at? y22.2.2.2 x8_l2).bind fun v33 => (if (v33.1 == p0.2.2.2.2.1) then some (.inl x8_l2) else fair_Ring_Charge.l2 p0 y22 k (wi (x8_l2 + 1)))) else some (.inr ()))
def fair_Ring_Charge.l1 (p0 : Int × (List (Option (Int × Int × Int × (List (Int × Bool))))) × Int × Bool × Int × Bool) : Nat → Int → Option (Sum (Int × Int) Unit)
  | 0, _ => none
  | k + 1, x16_l1 => (if decide (x16_l1 < (p0.2.1.length : Int)) then ((at? p0.2.1 x16_l1).bind fun v15 => (v15.bind fun y22 => ((fair_Ring_Charge.l2 p0 y22 FU 0).bind fun o39 => (match o39 with | .inl o41 => (if decide (o41 ≥ 0) then some (.inl (x16_l1, o41)) else fair_Ring_Charge.l1 p0 k (wi (x16_l1 + 1))) | .inr o46 => (if decide ((-1) ≥ 0) then some (.inl (x16_l1, (-1))) else fair_Ring_Charge.l1 p0 k (wi (x16_l1 + 1))))))) else some (.inr ()))
def fair_Ring_Charge.f (p0 : Int × (List (Option (Int × Int × Int × (List (Int × Bool))))) × Int × Bool × Int × Bool) (a1 : Int) : Option (Bool × (Int × (List (Option (Int × Int × Int × (List (Int × Bool))))) × Int × Bool × Int × Bool)) := (if (!p0.2.2.2.2.2) then some (false, p0) else (if decide (a1 < 0) then some (false, p0) else (if decide (a1 > 3) then some (false, p0) else ((fair_Ring_Charge.l1 p0 FU 0).bind fun o51 => (match o51 with | .inl o53 => ((at? p0.2.1 o53.1).bind fun v57 => (v57.bind fun y62 => ((at? y62.2.2.2 o53.2).bind fun v72 => ((slices_Delete.f y62.2.2.2 o53.2 (wi (o53.2 + 1))).bind fun r83 => ((app? 8796093022208 r83 ([(v72.1, v72.2)] : List (Int × Bool))).bind fun y97 => some (true, (p0.1, (List.set p0.2.1 ((o53.1).toNat) (some (y62.1, wi (y62.2.1 - a1), wi (y62.2.2.1 + a1), y97))), p0.2.2.1, p0.2.2.2.1, p0.2.2.2.2.1, false))))))) | .inr o131 => none)))))
def fair_Ring_Charge.post (B : Rf) (b0 : Nat) (p0 : Int × (List (Option (Int × Int × Int × (List (Int × Bool))))) × Int × Bool × Int × Bool) (w : World) (r : Bool × (Int × (List (Option (Int × Int × Int × (List (Int × Bool))))) × Int × Bool × Int × Bool)) (v : Value) (w' : World) : Prop := v = (.bool r.1 : Value) ∧ Sat w' B [O46 b0 r.2]
theorem fair_Ring_Charge.l2_ok {Q} (B : Rf) (b0 : Nat) (p0 : Int × (List (Option (Int × Int × Int × (List (Int × Bool))))) × Int × Bool × Int × Bool) (A1 : Option Addr) (c2 : Nat) (b6 : Nat) (K9 : Heap) (y22 : Int × Int × Int × (List (Int × Bool))) (A28 : Option Addr) (c29 : Nat) (R30 : rdS (r0 (.pair (.int .i64) .bool)) 2 K9 A28 c29 y22.2.2.2) (out : Sum Int Unit) (hn0 : ∀ (o0 : Int) (w : World), out = (.inl o0) → Sat w B [pts b0 (.cells #[.int .i64 p0.1, .slice A1 p0.2.1.length c2, .int .i64 p0.2.2.1, .bool p0.2.2.2.1, .int .i64 p0.2.2.2.2.1, .bool p0.2.2.2.2.2] 46 (0, 0)), gh K9, pts b6 (.cells #[.int .i64 p0.2.2.2.2.1] 3 (0, 0))] → At Q .ret 19 [(4, .int .i64 o0)] w) (hn1 : ∀ (o1 : Unit) (w : World), out = (.inr o1) → Sat w B [pts b0 (.cells #[.int .i64 p0.1, .slice A1 p0.2.1.length c2, .int .i64 p0.2.2.1, .bool p0.2.2.2.1, .int .i64 p0.2.2.2.2.1, .bool p0.2.2.2.2.2] 46 (0, 0)), gh K9, pts b6 (.cells #[.int .i64 p0.2.2.2.2.1] 3 (0, 0))] → At Q (.exit 0) 19 [] w) :
    ∀ (k : Nat) (x8_l2 : Int) (w : World), Sat w B [gh K9, pts b0 (.cells #[.int .i64 p0.1, .slice A1 p0.2.1.length c2, .int .i64 p0.2.2.1, .bool p0.2.2.2.1, .int .i64 p0.2.2.2.2.1, .bool p0.2.2.2.2.2] 46 (0, 0)), pts b6 (.cells #[.int .i64 p0.2.2.2.2.1] 3 (0, 0))] → fair_Ring_Charge.l2 p0 y22 k x8_l2 = some out → WL Try.prog (cbody (cbody (cr (cl (cr C22))))) Q 19 [(0, .slice A28 y22.2.2.2.length c29), (1, .func (.func 23) #[] #[.pointer (some ⟨b6, 0, none⟩)]), (7, .int .i64 (y22.2.2.2.length : Int)), (8, .int .i64 x8_l2)] w := by
  intro k
  induction k with
  | zero => intro x8_l2 w hS H; exact absurd (show none = some out from H) (by simp)
  | succ k ih =>
    intro x8_l2 w hS H
    unfold fair_Ring_Charge.l2 at H
    refine WL.round ?_
    refine WC.seq (by kernel_rfl) ?_
    refine WC.reg [0] (by kernel_rfl) (by kernel_rfl) ?_
    refine WR.runk [0] [] [0, 1, 7, 8, 9] (L' := [(0, .slice A28 y22.2.2.2.length c29), (1, .func (.func 23) #[] #[.pointer (some ⟨b6, 0, none⟩)]), (7, .int .i64 (y22.2.2.2.length : Int)), (8, .int .i64 x8_l2), (9, .bool (decide (x8_l2 < (y22.2.2.2.length : Int))))]) (w' := w) (by kernel_rfl) ?_
    refine WR.nil ?_
    refine At.go ?_
    refine WC.seq (by kernel_rfl) ?_
    refine WC.cond (by kernel_rfl) (decide (x8_l2 < (y22.2.2.2.length : Int))) (by kernel_rfl) (by kernel_rfl) (fun hb32 => ?_) (fun hb32 => ?_)
    · replace H := ite_t H hb32
      refine WC.skip (by kernel_rfl) ?_
      refine At.go ?_
      refine WC.seq (by kernel_rfl) ?_
      refine WC.block (by kernel_rfl) ?_
      refine WC.seq (by kernel_rfl) ?_
      refine WC.reg [0, 1] (by kernel_rfl) (by kernel_rfl) ?_
      refine WR.runk [0, 1] [] [0, 1, 5, 7, 8] (L' := [(0, .slice A28 y22.2.2.2.length c29), (1, .func (.func 23) #[] #[.pointer (some ⟨b6, 0, none⟩)]), (5, .int .i64 x8_l2), (7, .int .i64 (y22.2.2.2.length : Int)), (8, .int .i64 x8_l2)]) (w' := w) (by kernel_rfl) ?_
      refine WR.nil ?_
      refine At.go ?_
      refine WC.seq (by kernel_rfl) ?_
      refine WC.reg [0, 1, 2, 3, 4, 5] (by kernel_rfl) (by kernel_rfl) ?_
      refine WR.runk [0, 1, 2] [3, 4, 5] [0, 1, 5, 7, 8, 11, 12, 13] (L' := [(0, .slice A28 y22.2.2.2.length c29), (1, .func (.func 23) #[] #[.pointer (some ⟨b6, 0, none⟩)]), (5, .int .i64 x8_l2), (7, .int .i64 (y22.2.2.2.length : Int)), (8, .int .i64 x8_l2), (11, .func (.func 23) #[] #[.pointer (some ⟨b6, 0, none⟩)]), (12, .slice A28 y22.2.2.2.length c29), (13, .int .i64 x8_l2)]) (w' := w) (by kernel_rfl) ?_
      obtain ⟨v33, e34, H⟩ := bind_ex H
      refine WR.st (St.ofP (PSt.idx (k := .i64) (.tmp 12) (.tmp 13) (by kernel_rfl) (by kernel_rfl) E48 (by kernel_rfl) (by kernel_rfl) (rdS.up R30 (Sat.ghAt 0 hS rfl)) e34 ?_))
      refine WR.runk [] [4, 5] [0, 1, 5, 7, 8, 11, 14] (L' := [(0, .slice A28 y22.2.2.2.length c29), (1, .func (.func 23) #[] #[.pointer (some ⟨b6, 0, none⟩)]), (5, .int .i64 x8_l2), (7, .int .i64 (y22.2.2.2.length : Int)), (8, .int .i64 x8_l2), (11, .func (.func 23) #[] #[.pointer (some ⟨b6, 0, none⟩)]), (14, .pointer (some (adr A28 x8_l2.toNat 2)))]) (w' := w) (by kernel_rfl) ?_
      refine WR.st (St.ofR (RSt.loadFlat (t := 55) (κ := (.pair (.int .i64) .bool)) (.tmp 14) (by kernel_rfl) (by kernel_rfl) (by kernel_rfl) (by kernel_rfl) (by kernel_rfl) (by kernel_rfl) (rdS.up R30 (Sat.ghAt 0 hS rfl)) e34 ?_))
      refine WR.runk [] [5] [0, 1, 5, 7, 8, 11, 15] (L' := [(0, .slice A28 y22.2.2.2.length c29), (1, .func (.func 23) #[] #[.pointer (some ⟨b6, 0, none⟩)]), (5, .int .i64 x8_l2), (7, .int .i64 (y22.2.2.2.length : Int)), (8, .int .i64 x8_l2), (11, .func (.func 23) #[] #[.pointer (some ⟨b6, 0, none⟩)]), (15, .agg #[.int .i64 v33.1, .bool v33.2])]) (w' := w) (by kernel_rfl) ?_
      refine WR.st (St.call (by kernel_rfl) (f := 23) (args := #[.agg #[.int .i64 v33.1, .bool v33.2], .pointer (some ⟨b6, 0, none⟩)]) (by kernel_rfl) (calls_of_WC (vs := [.agg #[.int .i64 v33.1, .bool v33.2], .pointer (some ⟨b6, 0, none⟩)]) Try.func23 (c := C23) (n := 8) (by kernel_rfl) (by kernel_rfl) (by kernel_rfl) ?_) (fun _ _ h => h))
      refine WC.seq (by kernel_rfl) ?_
      refine WC.reg [0, 1] (by kernel_rfl) (by kernel_rfl) ?_
      refine WR.runk [] [0, 1] [0, 1] (L' := [(0, .agg #[.int .i64 v33.1, .bool v33.2]), (1, .pointer (some ⟨b6, 0, none⟩))]) (w' := w) (by kernel_rfl) ?_
      refine WR.st (St.box hS (by kernel_rfl) (.cells #[.int .i64 v33.1, .bool v33.2] 55) (fun b35 => .pointer (some ⟨b35, 0, none⟩)) (fun _ => by kernel_rfl) (fun b35 w36 hS => ?_))
      refine WR.runk [1] [] [1, 2] (L' := [(1, .pointer (some ⟨b6, 0, none⟩)), (2, .pointer (some ⟨b35, 0, none⟩))]) (w' := w36) (by kernel_rfl) ?_
      refine WR.nil ?_
      refine At.go ?_
      refine WC.seq (by kernel_rfl) ?_
      refine WC.reg [0, 1, 2, 3, 4] (by kernel_rfl) (by kernel_rfl) ?_
      refine WR.runk [0] [1, 2, 3, 4] [1, 4] (L' := [(1, .pointer (some ⟨b6, 0, none⟩)), (4, .pointer (some ⟨b35, 0, none⟩))]) (w' := w36) (by kernel_rfl) ?_
      refine WR.st (St.ofR (RSt.loadObj (t := 3) (k := 0) (v := .int .i64 v33.1) (.tmp 4) (by kernel_rfl) (by kernel_rfl) (by kernel_rfl) 0 hS rfl (by kernel_rfl) rfl ?_))
      refine WR.runk [] [2, 3, 4] [1, 5] (L' := [(1, .pointer (some ⟨b6, 0, none⟩)), (5, .int .i64 v33.1)]) (w' := w36) (by kernel_rfl) ?_
      refine WR.st (St.ofR (RSt.loadObj (t := 3) (k := 0) (v := .int .i64 p0.2.2.2.2.1) (.tmp 1) (by kernel_rfl) (by kernel_rfl) (by kernel_rfl) 3 hS rfl (by kernel_rfl) rfl ?_))
      refine WR.runk [3, 4] [] [3] (L' := [(3, .bool (v33.1 == p0.2.2.2.2.1))]) (w' := w36) (by kernel_rfl) ?_
      refine WR.nil ?_
      refine At.go ?_
      refine WC.ret (by kernel_rfl) ?_
      refine At.bodyK [.bool (v33.1 == p0.2.2.2.2.1)] (.bool (v33.1 == p0.2.2.2.2.1)) (by kernel_rfl) rfl ?_
      refine WR.runk [] [] [0, 1, 5, 7, 8, 16] (L' := [(0, .slice A28 y22.2.2.2.length c29), (1, .func (.func 23) #[] #[.pointer (some ⟨b6, 0, none⟩)]), (5, .int .i64 x8_l2), (7, .int .i64 (y22.2.2.2.length : Int)), (8, .int .i64 x8_l2), (16, .bool (v33.1 == p0.2.2.2.2.1))]) (w' := w36) (by kernel_rfl) ?_
      refine WR.nil ?_
      refine At.go ?_
      refine WC.cond (by kernel_rfl) (v33.1 == p0.2.2.2.2.1) (by kernel_rfl) (by kernel_rfl) (fun hb38 => ?_) (fun hb38 => ?_)
      · replace H := ite_t H hb38
        refine WC.seq (by kernel_rfl) ?_
        refine WC.reg [0, 1] (by kernel_rfl) (by kernel_rfl) ?_
        refine WR.runk [0, 1] [] [4] (L' := [(4, .int .i64 x8_l2)]) (w' := w36) (by kernel_rfl) ?_
        refine WR.nil ?_
        refine At.go ?_
        refine WC.ret (by kernel_rfl) ?_
        refine At.blockRet ?_
        refine At.thenRet ?_
        refine At.thenRet ?_
        obtain rfl := Option.some.inj H
        have hS : Sat w36 B [pts b0 (.cells #[.int .i64 p0.1, .slice A1 p0.2.1.length c2, .int .i64 p0.2.2.1, .bool p0.2.2.2.1, .int .i64 p0.2.2.2.2.1, .bool p0.2.2.2.2.2] 46 (0, 0)), gh K9, pts b6 (.cells #[.int .i64 p0.2.2.2.2.1] 3 (0, 0))] := hS.sel [2, 1, 3] (by kernel_rfl)
        refine At.weaken [4] (L' := [(4, .int .i64 x8_l2)]) (by kernel_rfl) ?_
        exact hn0 x8_l2 _ rfl hS
      · replace H := ite_f H hb38
        refine WC.skip (by kernel_rfl) ?_
        refine At.blockNormal ?_
        refine At.go ?_
        refine WC.reg [0, 1] (by kernel_rfl) (by kernel_rfl) ?_
        refine WR.runk [0, 1] [] [0, 1, 7, 8] (L' := [(0, .slice A28 y22.2.2.2.length c29), (1, .func (.func 23) #[] #[.pointer (some ⟨b6, 0, none⟩)]), (7, .int .i64 (y22.2.2.2.length : Int)), (8, .int .i64 (wi (x8_l2 + 1)))]) (w' := w36) (by kernel_rfl) ?_
        refine WR.nil ?_
        have hS : Sat w36 B [gh K9, pts b0 (.cells #[.int .i64 p0.1, .slice A1 p0.2.1.length c2, .int .i64 p0.2.2.1, .bool p0.2.2.2.1, .int .i64 p0.2.2.2.2.1, .bool p0.2.2.2.2.2] 46 (0, 0)), pts b6 (.cells #[.int .i64 p0.2.2.2.2.1] 3 (0, 0))] := hS.sel [1, 2, 3] (by kernel_rfl)
        refine At.again ?_
        refine WL.weaken [0, 1, 7, 8] (L' := [(0, .slice A28 y22.2.2.2.length c29), (1, .func (.func 23) #[] #[.pointer (some ⟨b6, 0, none⟩)]), (7, .int .i64 (y22.2.2.2.length : Int)), (8, .int .i64 (wi (x8_l2 + 1)))]) (by kernel_rfl) ?_
        exact ih (wi (x8_l2 + 1)) _ hS H
    · replace H := ite_f H hb32
      refine WC.exit (by kernel_rfl) ?_
      refine At.thenExit ?_
      refine At.thenExit ?_
      obtain rfl := Option.some.inj H
      have hS : Sat w B [pts b0 (.cells #[.int .i64 p0.1, .slice A1 p0.2.1.length c2, .int .i64 p0.2.2.1, .bool p0.2.2.2.1, .int .i64 p0.2.2.2.2.1, .bool p0.2.2.2.2.2] 46 (0, 0)), gh K9, pts b6 (.cells #[.int .i64 p0.2.2.2.2.1] 3 (0, 0))] := hS.sel [1, 0, 2] (by kernel_rfl)
      refine At.weaken [] (L' := []) (by kernel_rfl) ?_
      exact hn1 () _ rfl hS
theorem fair_Ring_Charge.l1_ok {Q} (B : Rf) (b0 : Nat) (p0 : Int × (List (Option (Int × Int × Int × (List (Int × Bool))))) × Int × Bool × Int × Bool) (A1 : Option Addr) (c2 : Nat) (b6 : Nat) (K9 : Heap) (css12 : List (List Value)) (R11 : rdS (rd K9 (.ptr 50 (.pair (.int .i64) (.pair (.int .i64) (.pair (.int .i64) (.slice 55 (.pair (.int .i64) .bool))))))) 1 K9 A1 c2 p0.2.1) (hC13 : orc 47 (Ept O50) 1 A1 c2 css12 p0.2.1 K9) (out : Sum (Int × Int) Unit) (hn0 : ∀ (o0 : Int × Int) (u4_q : Value) (w : World), out = (.inl o0) → Sat w B [gh K9, pts b6 (.cells #[.int .i64 p0.2.2.2.2.1] 3 (0, 0)), pts b0 (.cells #[.int .i64 p0.1, .slice A1 p0.2.1.length c2, .int .i64 p0.2.2.1, .bool p0.2.2.2.1, .int .i64 p0.2.2.2.2.1, .bool p0.2.2.2.2.2] 46 (0, 0))] → css12[(o0.1).toNat]? = some [u4_q] → At Q .ret 31 [(4, u4_q), (5, .int .i64 o0.2)] w) (hn1 : ∀ (o1 : Unit) (w : World), out = (.inr o1) → Sat w B [pts b6 (.cells #[.int .i64 p0.2.2.2.2.1] 3 (0, 0)), pts b0 (.cells #[.int .i64 p0.1, .slice A1 p0.2.1.length c2, .int .i64 p0.2.2.1, .bool p0.2.2.2.1, .int .i64 p0.2.2.2.2.1, .bool p0.2.2.2.2.2] 46 (0, 0)), gh K9] → At Q (.exit 0) 31 [] w) :
    ∀ (k : Nat) (x16_l1 : Int) (w : World), Sat w B [gh K9, pts b6 (.cells #[.int .i64 p0.2.2.2.2.1] 3 (0, 0)), pts b0 (.cells #[.int .i64 p0.1, .slice A1 p0.2.1.length c2, .int .i64 p0.2.2.1, .bool p0.2.2.2.1, .int .i64 p0.2.2.2.2.1, .bool p0.2.2.2.2.2] 46 (0, 0))] → fair_Ring_Charge.l1 p0 k x16_l1 = some out → WL Try.prog (cbody (cbody (cr (cl (cr (cr C17)))))) Q 31 [(3, .pointer (some ⟨b6, 0, none⟩)), (14, .slice A1 p0.2.1.length c2), (15, .int .i64 (p0.2.1.length : Int)), (16, .int .i64 x16_l1)] w := by
  intro k
  induction k with
  | zero => intro x16_l1 w hS H; exact absurd (show none = some out from H) (by simp)
  | succ k ih =>
    intro x16_l1 w hS H
    unfold fair_Ring_Charge.l1 at H
    refine WL.round ?_
    refine WC.seq (by kernel_rfl) ?_
    refine WC.reg [0] (by kernel_rfl) (by kernel_rfl) ?_
    refine WR.runk [0] [] [3, 14, 15, 16, 17] (L' := [(3, .pointer (some ⟨b6, 0, none⟩)), (14, .slice A1 p0.2.1.length c2), (15, .int .i64 (p0.2.1.length : Int)), (16, .int .i64 x16_l1), (17, .bool (decide (x16_l1 < (p0.2.1.length : Int))))]) (w' := w) (by kernel_rfl) ?_
    refine WR.nil ?_
    refine At.go ?_
    refine WC.seq (by kernel_rfl) ?_
    refine WC.cond (by kernel_rfl) (decide (x16_l1 < (p0.2.1.length : Int))) (by kernel_rfl) (by kernel_rfl) (fun hb14 => ?_) (fun hb14 => ?_)
    · replace H := ite_t H hb14
      refine WC.skip (by kernel_rfl) ?_
      refine At.go ?_
      refine WC.seq (by kernel_rfl) ?_
      refine WC.block (by kernel_rfl) ?_
      refine WC.seq (by kernel_rfl) ?_
      refine WC.reg [0, 1, 2] (by kernel_rfl) (by kernel_rfl) ?_
      refine WR.runk [] [0, 1, 2] [3, 14, 15, 16] (L' := [(3, .pointer (some ⟨b6, 0, none⟩)), (14, .slice A1 p0.2.1.length c2), (15, .int .i64 (p0.2.1.length : Int)), (16, .int .i64 x16_l1)]) (w' := w) (by kernel_rfl) ?_
      obtain ⟨v15, e16, H⟩ := bind_ex H
      refine WR.st (St.ofP (PSt.idx (k := .i64) (.tmp 14) (.tmp 16) (by kernel_rfl) (by kernel_rfl) E44 (by kernel_rfl) (by kernel_rfl) (rdS.upd R11 (Sat.ghAt 0 hS rfl)) e16 ?_))
      refine WR.runk [] [1, 2] [3, 14, 15, 16, 18] (L' := [(3, .pointer (some ⟨b6, 0, none⟩)), (14, .slice A1 p0.2.1.length c2), (15, .int .i64 (p0.2.1.length : Int)), (16, .int .i64 x16_l1), (18, .pointer (some (adr A1 x16_l1.toNat 1)))]) (w' := w) (by kernel_rfl) ?_
      refine WR.st (St.ofR (RSt.loadRow (t := 47) (κ := (.ptr 50 (.pair (.int .i64) (.pair (.int .i64) (.pair (.int .i64) (.slice 55 (.pair (.int .i64) .bool))))))) (Ept.rd (t := 50) (κ := (.pair (.int .i64) (.pair (.int .i64) (.pair (.int .i64) (.slice 55 (.pair (.int .i64) .bool)))))) (O := O50) O50.rd) (.tmp 18) (by kernel_rfl) (by kernel_rfl) (by kernel_rfl) (by kernel_rfl) hC13 e16 (Sat.ghAt 0 hS rfl) (fun u17 C18 R19 => ?_)))
      replace R19 : rd K9 (.ptr 50 (.pair (.int .i64) (.pair (.int .i64) (.pair (.int .i64) (.slice 55 (.pair (.int .i64) .bool)))))) [u17] v15 := R19
      replace C18 : css12[x16_l1.toNat]? = some [u17] := C18
      refine WR.runk [2] [] [3, 7, 14, 15, 16] (L' := [(3, .pointer (some ⟨b6, 0, none⟩)), (7, u17), (14, .slice A1 p0.2.1.length c2), (15, .int .i64 (p0.2.1.length : Int)), (16, .int .i64 x16_l1)]) (w' := w) (by kernel_rfl) ?_
      refine WR.nil ?_
      refine At.go ?_
      refine WC.seq (by kernel_rfl) ?_
      refine WC.reg [0, 1, 2, 3, 4, 5, 6] (by kernel_rfl) (by kernel_rfl) ?_
      refine WR.runk [0] [1, 2, 3, 4, 5, 6] [3, 7, 14, 15, 16, 20] (L' := [(3, .pointer (some ⟨b6, 0, none⟩)), (7, u17), (14, .slice A1 p0.2.1.length c2), (15, .int .i64 (p0.2.1.length : Int)), (16, .int .i64 x16_l1), (20, u17)]) (w' := w) (by kernel_rfl) ?_
      obtain ⟨y22, hr20, H⟩ := bind_ex H
      obtain ⟨b23, fr24, A28, c29, hv25, hb26, R30⟩ := P50.open R19 hr20
      have R27 := R19
      rw [hv25, hr20] at R27
      have C31 : css12[x16_l1.toNat]? = some [.pointer (some ⟨b23, 0, none⟩)] := by rw [← hv25]; exact C18
      try subst hv25
      replace R30 : rdS (r0 (.pair (.int .i64) .bool)) 2 K9 A28 c29 y22.2.2.2 := R30
      refine WR.runk [1, 2] [3, 4, 5, 6] [3, 7, 14, 15, 16, 22] (L' := [(3, .pointer (some ⟨b6, 0, none⟩)), (7, .pointer (some ⟨b23, 0, none⟩)), (14, .slice A1 p0.2.1.length c2), (15, .int .i64 (p0.2.1.length : Int)), (16, .int .i64 x16_l1), (22, .pointer (some ⟨b23, 3, none⟩))]) (w' := w) (by kernel_rfl) ?_
      refine WR.st (St.ofR (RSt.loadRo (t := 48) (k := 3) (v := .slice A28 y22.2.2.2.length c29) (.tmp 22) (by kernel_rfl) (by kernel_rfl) (by kernel_rfl) (Sat.ghAt 0 hS rfl) hb26 (by kernel_rfl) rfl ?_))
      refine WR.runk [4] [5, 6] [3, 7, 14, 15, 16, 23, 24] (L' := [(3, .pointer (some ⟨b6, 0, none⟩)), (7, .pointer (some ⟨b23, 0, none⟩)), (14, .slice A1 p0.2.1.length c2), (15, .int .i64 (p0.2.1.length : Int)), (16, .int .i64 x16_l1), (23, .slice A28 y22.2.2.2.length c29), (24, .func (.func 23) #[] #[.pointer (some ⟨b6, 0, none⟩)])]) (w' := w) (by kernel_rfl) ?_
      refine WR.st (St.call (by kernel_rfl) (f := 22) (args := #[.slice A28 y22.2.2.2.length c29, .func (.func 23) #[] #[.pointer (some ⟨b6, 0, none⟩)]]) (by kernel_rfl) (calls_of_WC (vs := [.slice A28 y22.2.2.2.length c29, .func (.func 23) #[] #[.pointer (some ⟨b6, 0, none⟩)]]) Try.func22 (c := C22) (n := 19) (by kernel_rfl) (by kernel_rfl) (by kernel_rfl) ?_) (fun _ _ h => h))
      refine WC.seq (by kernel_rfl) ?_
      refine WC.reg [0] (by kernel_rfl) (by kernel_rfl) ?_
      refine WR.runk [0] [] [0, 1] (L' := [(0, .slice A28 y22.2.2.2.length c29), (1, .func (.func 23) #[] #[.pointer (some ⟨b6, 0, none⟩)])]) (w' := w) (by kernel_rfl) ?_
      refine WR.nil ?_
      refine At.go ?_
      refine WC.seq (by kernel_rfl) ?_
      refine WC.seq (by kernel_rfl) ?_
      refine WC.reg [0, 1, 2] (by kernel_rfl) (by kernel_rfl) ?_
      refine WR.runk [0, 1, 2] [] [0, 1, 7, 8] (L' := [(0, .slice A28 y22.2.2.2.length c29), (1, .func (.func 23) #[] #[.pointer (some ⟨b6, 0, none⟩)]), (7, .int .i64 (y22.2.2.2.length : Int)), (8, .int .i64 0)]) (w' := w) (by kernel_rfl) ?_
      refine WR.nil ?_
      refine At.go ?_
      refine WC.block (by kernel_rfl) ?_
      have hS : Sat w B [gh K9, pts b0 (.cells #[.int .i64 p0.1, .slice A1 p0.2.1.length c2, .int .i64 p0.2.2.1, .bool p0.2.2.2.1, .int .i64 p0.2.2.2.2.1, .bool p0.2.2.2.2.2] 46 (0, 0)), pts b6 (.cells #[.int .i64 p0.2.2.2.2.1] 3 (0, 0))] := hS.sel [0, 2, 1] (by kernel_rfl)
      obtain ⟨o39, e40, H⟩ := bind_ex H
      refine WC.loop (by kernel_rfl) ?_
      refine WL.weaken [0, 1, 7, 8] (L' := [(0, .slice A28 y22.2.2.2.length c29), (1, .func (.func 23) #[] #[.pointer (some ⟨b6, 0, none⟩)]), (7, .int .i64 (y22.2.2.2.length : Int)), (8, .int .i64 0)]) (by kernel_rfl) ?_
      refine fair_Ring_Charge.l2_ok B b0 p0 A1 c2 b6 K9 y22 A28 c29 R30 o39 (fun o41 w43 ho44 hS => ?_) (fun o46 w48 ho49 hS => ?_) FU 0 _ hS e40
      · subst ho44
        dsimp only at H
        refine At.blockRet ?_
        refine At.thenRet ?_
        refine At.bodyK [.int .i64 o41] (.int .i64 o41) (by kernel_rfl) rfl ?_
        refine WR.runk [6] [] [3, 7, 8, 14, 15, 16] (L' := [(3, .pointer (some ⟨b6, 0, none⟩)), (7, .pointer (some ⟨b23, 0, none⟩)), (8, .int .i64 o41), (14, .slice A1 p0.2.1.length c2), (15, .int .i64 (p0.2.1.length : Int)), (16, .int .i64 x16_l1)]) (w' := w43) (by kernel_rfl) ?_
        refine WR.nil ?_
        refine At.go ?_
        refine WC.seq (by kernel_rfl) ?_
        refine WC.reg [0, 1] (by kernel_rfl) (by kernel_rfl) ?_
        refine WR.runk [0, 1] [] [3, 7, 8, 14, 15, 16, 27] (L' := [(3, .pointer (some ⟨b6, 0, none⟩)), (7, .pointer (some ⟨b23, 0, none⟩)), (8, .int .i64 o41), (14, .slice A1 p0.2.1.length c2), (15, .int .i64 (p0.2.1.length : Int)), (16, .int .i64 x16_l1), (27, .bool (decide (o41 ≥ 0)))]) (w' := w43) (by kernel_rfl) ?_
        refine WR.nil ?_
        refine At.go ?_
        refine WC.cond (by kernel_rfl) (decide (o41 ≥ 0)) (by kernel_rfl) (by kernel_rfl) (fun hb45 => ?_) (fun hb45 => ?_)
        · replace H := ite_t H hb45
          refine WC.seq (by kernel_rfl) ?_
          refine WC.reg [0, 1, 2, 3] (by kernel_rfl) (by kernel_rfl) ?_
          refine WR.runk [0, 1, 2, 3] [] [4, 5] (L' := [(4, .pointer (some ⟨b23, 0, none⟩)), (5, .int .i64 o41)]) (w' := w43) (by kernel_rfl) ?_
          refine WR.nil ?_
          refine At.go ?_
          refine WC.ret (by kernel_rfl) ?_
          refine At.blockRet ?_
          refine At.thenRet ?_
          refine At.thenRet ?_
          obtain rfl := Option.some.inj H
          have hS : Sat w43 B [gh K9, pts b6 (.cells #[.int .i64 p0.2.2.2.2.1] 3 (0, 0)), pts b0 (.cells #[.int .i64 p0.1, .slice A1 p0.2.1.length c2, .int .i64 p0.2.2.1, .bool p0.2.2.2.1, .int .i64 p0.2.2.2.2.1, .bool p0.2.2.2.2.2] 46 (0, 0))] := hS.sel [1, 2, 0] (by kernel_rfl)
          refine At.weaken [4, 5] (L' := [(4, .pointer (some ⟨b23, 0, none⟩)), (5, .int .i64 o41)]) (by kernel_rfl) ?_
          exact hn0 (x16_l1, o41) (.pointer (some ⟨b23, 0, none⟩)) _ rfl hS C31
        · replace H := ite_f H hb45
          refine WC.skip (by kernel_rfl) ?_
          refine At.blockNormal ?_
          refine At.go ?_
          refine WC.reg [0, 1] (by kernel_rfl) (by kernel_rfl) ?_
          refine WR.runk [0, 1] [] [3, 14, 15, 16] (L' := [(3, .pointer (some ⟨b6, 0, none⟩)), (14, .slice A1 p0.2.1.length c2), (15, .int .i64 (p0.2.1.length : Int)), (16, .int .i64 (wi (x16_l1 + 1)))]) (w' := w43) (by kernel_rfl) ?_
          refine WR.nil ?_
          have hS : Sat w43 B [gh K9, pts b6 (.cells #[.int .i64 p0.2.2.2.2.1] 3 (0, 0)), pts b0 (.cells #[.int .i64 p0.1, .slice A1 p0.2.1.length c2, .int .i64 p0.2.2.1, .bool p0.2.2.2.1, .int .i64 p0.2.2.2.2.1, .bool p0.2.2.2.2.2] 46 (0, 0))] := hS.sel [1, 2, 0] (by kernel_rfl)
          refine At.again ?_
          refine WL.weaken [3, 14, 15, 16] (L' := [(3, .pointer (some ⟨b6, 0, none⟩)), (14, .slice A1 p0.2.1.length c2), (15, .int .i64 (p0.2.1.length : Int)), (16, .int .i64 (wi (x16_l1 + 1)))]) (by kernel_rfl) ?_
          exact ih (wi (x16_l1 + 1)) _ hS H
      · subst ho49
        dsimp only at H
        refine At.hit ?_
        refine At.go ?_
        refine WC.seq (by kernel_rfl) ?_
        refine WC.reg [0] (by kernel_rfl) (by kernel_rfl) ?_
        refine WR.runk [0] [] [4] (L' := [(4, .int .i64 (-1))]) (w' := w48) (by kernel_rfl) ?_
        refine WR.nil ?_
        refine At.go ?_
        refine WC.ret (by kernel_rfl) ?_
        refine At.bodyK [.int .i64 (-1)] (.int .i64 (-1)) (by kernel_rfl) rfl ?_
        refine WR.runk [6] [] [3, 7, 8, 14, 15, 16] (L' := [(3, .pointer (some ⟨b6, 0, none⟩)), (7, .pointer (some ⟨b23, 0, none⟩)), (8, .int .i64 (-1)), (14, .slice A1 p0.2.1.length c2), (15, .int .i64 (p0.2.1.length : Int)), (16, .int .i64 x16_l1)]) (w' := w48) (by kernel_rfl) ?_
        refine WR.nil ?_
        refine At.go ?_
        refine WC.seq (by kernel_rfl) ?_
        refine WC.reg [0, 1] (by kernel_rfl) (by kernel_rfl) ?_
        refine WR.runk [0, 1] [] [3, 7, 8, 14, 15, 16, 27] (L' := [(3, .pointer (some ⟨b6, 0, none⟩)), (7, .pointer (some ⟨b23, 0, none⟩)), (8, .int .i64 (-1)), (14, .slice A1 p0.2.1.length c2), (15, .int .i64 (p0.2.1.length : Int)), (16, .int .i64 x16_l1), (27, .bool (decide ((-1) ≥ 0)))]) (w' := w48) (by kernel_rfl) ?_
        refine WR.nil ?_
        refine At.go ?_
        refine WC.cond (by kernel_rfl) (decide ((-1) ≥ 0)) (by kernel_rfl) (by kernel_rfl) (fun hb50 => ?_) (fun hb50 => ?_)
        · replace H := ite_t H hb50
          refine WC.seq (by kernel_rfl) ?_
          refine WC.reg [0, 1, 2, 3] (by kernel_rfl) (by kernel_rfl) ?_
          refine WR.runk [0, 1, 2, 3] [] [4, 5] (L' := [(4, .pointer (some ⟨b23, 0, none⟩)), (5, .int .i64 (-1))]) (w' := w48) (by kernel_rfl) ?_
          refine WR.nil ?_
          refine At.go ?_
          refine WC.ret (by kernel_rfl) ?_
          refine At.blockRet ?_
          refine At.thenRet ?_
          refine At.thenRet ?_
          obtain rfl := Option.some.inj H
          have hS : Sat w48 B [gh K9, pts b6 (.cells #[.int .i64 p0.2.2.2.2.1] 3 (0, 0)), pts b0 (.cells #[.int .i64 p0.1, .slice A1 p0.2.1.length c2, .int .i64 p0.2.2.1, .bool p0.2.2.2.1, .int .i64 p0.2.2.2.2.1, .bool p0.2.2.2.2.2] 46 (0, 0))] := hS.sel [1, 2, 0] (by kernel_rfl)
          refine At.weaken [4, 5] (L' := [(4, .pointer (some ⟨b23, 0, none⟩)), (5, .int .i64 (-1))]) (by kernel_rfl) ?_
          exact hn0 (x16_l1, (-1)) (.pointer (some ⟨b23, 0, none⟩)) _ rfl hS C31
        · replace H := ite_f H hb50
          refine WC.skip (by kernel_rfl) ?_
          refine At.blockNormal ?_
          refine At.go ?_
          refine WC.reg [0, 1] (by kernel_rfl) (by kernel_rfl) ?_
          refine WR.runk [0, 1] [] [3, 14, 15, 16] (L' := [(3, .pointer (some ⟨b6, 0, none⟩)), (14, .slice A1 p0.2.1.length c2), (15, .int .i64 (p0.2.1.length : Int)), (16, .int .i64 (wi (x16_l1 + 1)))]) (w' := w48) (by kernel_rfl) ?_
          refine WR.nil ?_
          have hS : Sat w48 B [gh K9, pts b6 (.cells #[.int .i64 p0.2.2.2.2.1] 3 (0, 0)), pts b0 (.cells #[.int .i64 p0.1, .slice A1 p0.2.1.length c2, .int .i64 p0.2.2.1, .bool p0.2.2.2.1, .int .i64 p0.2.2.2.2.1, .bool p0.2.2.2.2.2] 46 (0, 0))] := hS.sel [1, 2, 0] (by kernel_rfl)
          refine At.again ?_
          refine WL.weaken [3, 14, 15, 16] (L' := [(3, .pointer (some ⟨b6, 0, none⟩)), (14, .slice A1 p0.2.1.length c2), (15, .int .i64 (p0.2.1.length : Int)), (16, .int .i64 (wi (x16_l1 + 1)))]) (by kernel_rfl) ?_
          exact ih (wi (x16_l1 + 1)) _ hS H
    · replace H := ite_f H hb14
      refine WC.exit (by kernel_rfl) ?_
      refine At.thenExit ?_
      refine At.thenExit ?_
      obtain rfl := Option.some.inj H
      have hS : Sat w B [pts b6 (.cells #[.int .i64 p0.2.2.2.2.1] 3 (0, 0)), pts b0 (.cells #[.int .i64 p0.1, .slice A1 p0.2.1.length c2, .int .i64 p0.2.2.1, .bool p0.2.2.2.1, .int .i64 p0.2.2.2.2.1, .bool p0.2.2.2.2.2] 46 (0, 0)), gh K9] := hS.sel [1, 2, 0] (by kernel_rfl)
      refine At.weaken [] (L' := []) (by kernel_rfl) ?_
      exact hn1 () _ rfl hS
theorem fair_Ring_Charge.calls (B : Rf) (w0 : World) (b0 : Nat) (p0 : Int × (List (Option (Int × Int × Int × (List (Int × Bool))))) × Int × Bool × Int × Bool) (hS : Sat w0 B [O46 b0 p0]) (a1 : Int) (r : Bool × (Int × (List (Option (Int × Int × Int × (List (Int × Bool))))) × Int × Bool × Int × Bool)) (H : fair_Ring_Charge.f p0 a1 = some r) :
    Calls Try.prog 11 #[.pointer (some ⟨b0, 0, none⟩), .int .i64 a1] w0 (fun e w' => ∃ v, e = .returned v ∧ fair_Ring_Charge.post B b0 p0 w0 r v w') := by
  unfold fair_Ring_Charge.f at H
  refine calls_of_WC (vs := [.pointer (some ⟨b0, 0, none⟩), .int .i64 a1]) Try.func11 (c := C11) (n := 74) (by kernel_rfl) (by kernel_rfl) (by kernel_rfl) ?_
  refine WC.seq (by kernel_rfl) ?_
  refine WC.reg [0] (by kernel_rfl) (by kernel_rfl) ?_
  refine WR.runk [0] [] [0, 1] (L' := [(0, .pointer (some ⟨b0, 0, none⟩)), (1, .int .i64 a1)]) (w' := w0) (by kernel_rfl) ?_
  refine WR.nil ?_
  refine At.go ?_
  refine WC.seq (by kernel_rfl) ?_
  refine WC.seq (by kernel_rfl) ?_
  refine WC.reg [0, 1, 2, 3, 4, 5, 6, 7, 8, 9, 10, 11, 12, 13, 14, 15, 16] (by kernel_rfl) (by kernel_rfl) ?_
  refine WR.runk [0, 1, 2, 3, 4, 5] [6, 7, 8, 9, 10, 11, 12, 13, 14, 15, 16] [0, 1, 10, 13] (L' := [(0, .pointer (some ⟨b0, 0, none⟩)), (1, .int .i64 a1), (10, .bool false), (13, .pointer (some ⟨b0, 5, none⟩))]) (w' := w0) (by kernel_rfl) ?_
  obtain ⟨A1, c2, hS⟩ := O46.open hS
  have hS : Sat w0 B [pts b0 (.cells #[.int .i64 p0.1, .slice A1 p0.2.1.length c2, .int .i64 p0.2.2.1, .bool p0.2.2.2.1, .int .i64 p0.2.2.2.2.1, .bool p0.2.2.2.2.2] 46 (0, 0)), orw 47 (Ept O50) 1 A1 c2 p0.2.1] := hS
  refine WR.st (St.ofR (RSt.loadObj (t := 4) (k := 5) (v := .bool p0.2.2.2.2.2) (.tmp 13) (by kernel_rfl) (by kernel_rfl) (by kernel_rfl) 0 hS rfl (by kernel_rfl) rfl ?_))
  refine WR.runk [7, 8, 9] [10, 11, 12, 13, 14, 15, 16] [0, 1, 17] (L' := [(0, .pointer (some ⟨b0, 0, none⟩)), (1, .int .i64 a1), (17, .bool (!p0.2.2.2.2.2))]) (w' := w0) (by kernel_rfl) ?_
  refine WR.split 17 (b := (!p0.2.2.2.2.2)) (by kernel_rfl) (fun hb3 => ?_) (fun hb3 => ?_)
  · replace H := ite_t H hb3
    refine WR.runk [10, 11, 12, 13, 14, 15, 16] [] [0, 1, 24] (L' := [(0, .pointer (some ⟨b0, 0, none⟩)), (1, .int .i64 a1), (24, .bool true)]) (w' := w0) (by kernel_rfl) ?_
    refine WR.nil ?_
    refine At.go ?_
    refine WC.condT (by kernel_rfl) (by kernel_rfl) (by kernel_rfl) ?_
    refine WC.seq (by kernel_rfl) ?_
    refine WC.reg [0] (by kernel_rfl) (by kernel_rfl) ?_
    refine WR.runk [0] [] [4] (L' := [(4, .bool false)]) (w' := w0) (by kernel_rfl) ?_
    refine WR.nil ?_
    refine At.go ?_
    refine WC.ret (by kernel_rfl) ?_
    refine At.thenRet ?_
    obtain rfl := Option.some.inj H
    have hS : Sat w0 B [pts b0 (.cells #[.int .i64 p0.1, .slice A1 p0.2.1.length c2, .int .i64 p0.2.2.1, .bool p0.2.2.2.1, .int .i64 p0.2.2.2.2.1, .bool p0.2.2.2.2.2] 46 (0, 0)), orw 47 (Ept O50) 1 A1 c2 p0.2.1] := hS.sel [0, 1] (by kernel_rfl)
    have hS : Sat w0 B [O46 b0 p0] := O46.close p0 A1 c2 hS
    have hS : Sat w0 B [O46 b0 p0] := hS.sel [0] (by kernel_rfl)
    exact At.body [.bool false] (by kernel_rfl) ⟨_, rfl, rfl, hS⟩
  · replace H := ite_f H hb3
    refine WR.runk [10, 11, 12, 13] [14, 15, 16] [0, 1, 21] (L' := [(0, .pointer (some ⟨b0, 0, none⟩)), (1, .int .i64 a1), (21, .bool (decide (a1 < 0)))]) (w' := w0) (by kernel_rfl) ?_
    refine WR.split 21 (b := decide (a1 < 0)) (by kernel_rfl) (fun hb4 => ?_) (fun hb4 => ?_)
    · replace H := ite_t H hb4
      refine WR.runk [14, 15, 16] [] [0, 1, 24] (L' := [(0, .pointer (some ⟨b0, 0, none⟩)), (1, .int .i64 a1), (24, .bool true)]) (w' := w0) (by kernel_rfl) ?_
      refine WR.nil ?_
      refine At.go ?_
      refine WC.condT (by kernel_rfl) (by kernel_rfl) (by kernel_rfl) ?_
      refine WC.seq (by kernel_rfl) ?_
      refine WC.reg [0] (by kernel_rfl) (by kernel_rfl) ?_
      refine WR.runk [0] [] [4] (L' := [(4, .bool false)]) (w' := w0) (by kernel_rfl) ?_
      refine WR.nil ?_
      refine At.go ?_
      refine WC.ret (by kernel_rfl) ?_
      refine At.thenRet ?_
      obtain rfl := Option.some.inj H
      have hS : Sat w0 B [pts b0 (.cells #[.int .i64 p0.1, .slice A1 p0.2.1.length c2, .int .i64 p0.2.2.1, .bool p0.2.2.2.1, .int .i64 p0.2.2.2.2.1, .bool p0.2.2.2.2.2] 46 (0, 0)), orw 47 (Ept O50) 1 A1 c2 p0.2.1] := hS.sel [0, 1] (by kernel_rfl)
      have hS : Sat w0 B [O46 b0 p0] := O46.close p0 A1 c2 hS
      have hS : Sat w0 B [O46 b0 p0] := hS.sel [0] (by kernel_rfl)
      exact At.body [.bool false] (by kernel_rfl) ⟨_, rfl, rfl, hS⟩
    · replace H := ite_f H hb4
      refine WR.runk [14, 15, 16] [] [0, 1, 24] (L' := [(0, .pointer (some ⟨b0, 0, none⟩)), (1, .int .i64 a1), (24, .bool (decide (a1 > 3)))]) (w' := w0) (by kernel_rfl) ?_
      refine WR.nil ?_
      refine At.go ?_
      refine WC.cond (by kernel_rfl) (decide (a1 > 3)) (by kernel_rfl) (by kernel_rfl) (fun hb5 => ?_) (fun hb5 => ?_)
      · replace H := ite_t H hb5
        refine WC.seq (by kernel_rfl) ?_
        refine WC.reg [0] (by kernel_rfl) (by kernel_rfl) ?_
        refine WR.runk [0] [] [4] (L' := [(4, .bool false)]) (w' := w0) (by kernel_rfl) ?_
        refine WR.nil ?_
        refine At.go ?_
        refine WC.ret (by kernel_rfl) ?_
        refine At.thenRet ?_
        obtain rfl := Option.some.inj H
        have hS : Sat w0 B [pts b0 (.cells #[.int .i64 p0.1, .slice A1 p0.2.1.length c2, .int .i64 p0.2.2.1, .bool p0.2.2.2.1, .int .i64 p0.2.2.2.2.1, .bool p0.2.2.2.2.2] 46 (0, 0)), orw 47 (Ept O50) 1 A1 c2 p0.2.1] := hS.sel [0, 1] (by kernel_rfl)
        have hS : Sat w0 B [O46 b0 p0] := O46.close p0 A1 c2 hS
        have hS : Sat w0 B [O46 b0 p0] := hS.sel [0] (by kernel_rfl)
        exact At.body [.bool false] (by kernel_rfl) ⟨_, rfl, rfl, hS⟩
      · replace H := ite_f H hb5
        refine WC.skip (by kernel_rfl) ?_
        refine At.go ?_
        refine WC.seq (by kernel_rfl) ?_
        refine WC.reg [0, 1, 2, 3, 4, 5, 6, 7, 8, 9, 10] (by kernel_rfl) (by kernel_rfl) ?_
        refine WR.runk [0, 1, 2, 3] [4, 5, 6, 7, 8, 9, 10] [0, 1, 26, 29] (L' := [(0, .pointer (some ⟨b0, 0, none⟩)), (1, .int .i64 a1), (26, .pointer (some ⟨b0, 0, none⟩)), (29, .pointer (some ⟨b0, 4, none⟩))]) (w' := w0) (by kernel_rfl) ?_
        refine WR.st (St.ofR (RSt.loadObj (t := 3) (k := 4) (v := .int .i64 p0.2.2.2.2.1) (.tmp 29) (by kernel_rfl) (by kernel_rfl) (by kernel_rfl) 0 hS rfl (by kernel_rfl) rfl ?_))
        refine WR.runk [] [5, 6, 7, 8, 9, 10] [0, 1, 26, 30] (L' := [(0, .pointer (some ⟨b0, 0, none⟩)), (1, .int .i64 a1), (26, .pointer (some ⟨b0, 0, none⟩)), (30, .int .i64 p0.2.2.2.2.1)]) (w' := w0) (by kernel_rfl) ?_
        refine WR.st (St.call (by kernel_rfl) (f := 17) (args := #[.pointer (some ⟨b0, 0, none⟩), .int .i64 p0.2.2.2.2.1]) (by kernel_rfl) (calls_of_WC (vs := [.pointer (some ⟨b0, 0, none⟩), .int .i64 p0.2.2.2.2.1]) Try.func17 (c := C17) (n := 31) (by kernel_rfl) (by kernel_rfl) (by kernel_rfl) ?_) (fun _ _ h => h))
        refine WC.seq (by kernel_rfl) ?_
        refine WC.reg [0, 1, 2] (by kernel_rfl) (by kernel_rfl) ?_
        refine WR.runk [] [0, 1, 2] [0, 1] (L' := [(0, .pointer (some ⟨b0, 0, none⟩)), (1, .int .i64 p0.2.2.2.2.1)]) (w' := w0) (by kernel_rfl) ?_
        refine WR.st (St.box hS (by kernel_rfl) (.cells #[.int .i64 p0.2.2.2.2.1] 3) (fun b6 => .pointer (some ⟨b6, 0, none⟩)) (fun _ => by kernel_rfl) (fun b6 w7 hS => ?_))
        refine WR.runk [1, 2] [] [0, 3] (L' := [(0, .pointer (some ⟨b0, 0, none⟩)), (3, .pointer (some ⟨b6, 0, none⟩))]) (w' := w7) (by kernel_rfl) ?_
        refine WR.nil ?_
        refine At.go ?_
        refine WC.seq (by kernel_rfl) ?_
        refine WC.seq (by kernel_rfl) ?_
        refine WC.reg [0, 1] (by kernel_rfl) (by kernel_rfl) ?_
        refine WR.runk [0, 1] [] [0, 3, 10] (L' := [(0, .pointer (some ⟨b0, 0, none⟩)), (3, .pointer (some ⟨b6, 0, none⟩)), (10, .bool false)]) (w' := w7) (by kernel_rfl) ?_
        refine WR.nil ?_
        refine At.go ?_
        refine WC.condF (by kernel_rfl) (by kernel_rfl) (by kernel_rfl) ?_
        refine WC.skip (by kernel_rfl) ?_
        refine At.go ?_
        refine WC.seq (by kernel_rfl) ?_
        refine WC.seq (by kernel_rfl) ?_
        refine WC.reg [0, 1, 2, 3, 4, 5] (by kernel_rfl) (by kernel_rfl) ?_
        refine WR.runk [0, 1, 2] [3, 4, 5] [3, 13] (L' := [(3, .pointer (some ⟨b6, 0, none⟩)), (13, .pointer (some ⟨b0, 1, none⟩))]) (w' := w7) (by kernel_rfl) ?_
        refine WR.st (St.ofR (RSt.loadObj (t := 44) (k := 1) (v := .slice A1 p0.2.1.length c2) (.tmp 13) (by kernel_rfl) (by kernel_rfl) (by kernel_rfl) 1 hS rfl (by kernel_rfl) rfl ?_))
        refine WR.runk [4, 5] [] [3, 14, 15, 16] (L' := [(3, .pointer (some ⟨b6, 0, none⟩)), (14, .slice A1 p0.2.1.length c2), (15, .int .i64 (p0.2.1.length : Int)), (16, .int .i64 0)]) (w' := w7) (by kernel_rfl) ?_
        refine WR.nil ?_
        refine At.go ?_
        refine WC.block (by kernel_rfl) ?_
        have hS : Sat w7 B [orw 47 (Ept O50) 1 A1 c2 p0.2.1, pts b6 (.cells #[.int .i64 p0.2.2.2.2.1] 3 (0, 0)), pts b0 (.cells #[.int .i64 p0.1, .slice A1 p0.2.1.length c2, .int .i64 p0.2.2.1, .bool p0.2.2.2.1, .int .i64 p0.2.2.2.2.1, .bool p0.2.2.2.2.2] 46 (0, 0))] := hS.sel [2, 0, 1] (by kernel_rfl)
        obtain ⟨K9, hK10, hS⟩ := Sat.gho hS
        have hS : Sat w7 B [gh K9, pts b6 (.cells #[.int .i64 p0.2.2.2.2.1] 3 (0, 0)), pts b0 (.cells #[.int .i64 p0.1, .slice A1 p0.2.1.length c2, .int .i64 p0.2.2.1, .bool p0.2.2.2.1, .int .i64 p0.2.2.2.2.1, .bool p0.2.2.2.2.2] 46 (0, 0))] := hS
        have R11 : rdS (rd K9 (.ptr 50 (.pair (.int .i64) (.pair (.int .i64) (.pair (.int .i64) (.slice 55 (.pair (.int .i64) .bool))))))) 1 K9 A1 c2 p0.2.1 := orw.rdS (κ := (.ptr 50 (.pair (.int .i64) (.pair (.int .i64) (.pair (.int .i64) (.slice 55 (.pair (.int .i64) .bool))))))) (Ept.rd (t := 50) (κ := (.pair (.int .i64) (.pair (.int .i64) (.pair (.int .i64) (.slice 55 (.pair (.int .i64) .bool)))))) (O := O50) O50.rd) hK10
        obtain ⟨css12, hC13⟩ := orw.named hK10
        have hS : Sat w7 B [gh K9, pts b6 (.cells #[.int .i64 p0.2.2.2.2.1] 3 (0, 0)), pts b0 (.cells #[.int .i64 p0.1, .slice A1 p0.2.1.length c2, .int .i64 p0.2.2.1, .bool p0.2.2.2.1, .int .i64 p0.2.2.2.2.1, .bool p0.2.2.2.2.2] 46 (0, 0))] := hS.sel [0, 1, 2] (by kernel_rfl)
        obtain ⟨o51, e52, H⟩ := bind_ex H
        refine WC.loop (by kernel_rfl) ?_
        refine WL.weaken [3, 14, 15, 16] (L' := [(3, .pointer (some ⟨b6, 0, none⟩)), (14, .slice A1 p0.2.1.length c2), (15, .int .i64 (p0.2.1.length : Int)), (16, .int .i64 0)]) (by kernel_rfl) ?_
        refine fair_Ring_Charge.l1_ok B b0 p0 A1 c2 b6 K9 css12 R11 hC13 o51 (fun o53 u4_q54 w55 ho56 hS C4_q54 => ?_) (fun o131 w133 ho134 hS => ?_) FU 0 _ hS e52
        · subst ho56
          dsimp only at H
          refine At.blockRet ?_
          refine At.thenRet ?_
          refine At.bodyK [u4_q54, .int .i64 o53.2] (.tuple #[u4_q54, .int .i64 o53.2]) (by kernel_rfl) rfl ?_
          refine WR.runk [6, 7, 8, 9, 10] [] [0, 1, 5, 6] (L' := [(0, .pointer (some ⟨b0, 0, none⟩)), (1, .int .i64 a1), (5, u4_q54), (6, .int .i64 o53.2)]) (w' := w55) (by kernel_rfl) ?_
          refine WR.nil ?_
          refine At.go ?_
          refine WC.seq (by kernel_rfl) ?_
          refine WC.reg [0, 1, 2, 3, 4, 5, 6, 7, 8] (by kernel_rfl) (by kernel_rfl) ?_
          refine WR.runk [0] [1, 2, 3, 4, 5, 6, 7, 8] [0, 1, 5, 6, 34] (L' := [(0, .pointer (some ⟨b0, 0, none⟩)), (1, .int .i64 a1), (5, u4_q54), (6, .int .i64 o53.2), (34, u4_q54)]) (w' := w55) (by kernel_rfl) ?_
          obtain ⟨v57, e58, H⟩ := bind_ex H
          have R59 : rd K9 (.ptr 50 (.pair (.int .i64) (.pair (.int .i64) (.pair (.int .i64) (.slice 55 (.pair (.int .i64) .bool)))))) [u4_q54] v57 := orc.elem (κ := (.ptr 50 (.pair (.int .i64) (.pair (.int .i64) (.pair (.int .i64) (.slice 55 (.pair (.int .i64) .bool))))))) (Ept.rd (t := 50) (κ := (.pair (.int .i64) (.pair (.int .i64) (.pair (.int .i64) (.slice 55 (.pair (.int .i64) .bool)))))) (O := O50) O50.rd) hC13 C4_q54 (at?_idx e58)
          refine WR.runk [] [1, 2, 3, 4, 5, 6, 7, 8] [0, 1, 5, 6, 34] (L' := [(0, .pointer (some ⟨b0, 0, none⟩)), (1, .int .i64 a1), (5, u4_q54), (6, .int .i64 o53.2), (34, u4_q54)]) (w' := w55) (by kernel_rfl) ?_
          obtain ⟨y62, hr60, H⟩ := bind_ex H
          obtain ⟨b63, fr64, A68, c69, hv65, hb66, R70⟩ := P50.open R59 hr60
          have R67 := R59
          rw [hv65, hr60] at R67
          have C71 : css12[(o53.1).toNat]? = some [.pointer (some ⟨b63, 0, none⟩)] := by rw [← hv65]; exact C4_q54
          try subst hv65
          replace R70 : rdS (r0 (.pair (.int .i64) .bool)) 2 K9 A68 c69 y62.2.2.2 := R70
          refine WR.runk [1, 2] [3, 4, 5, 6, 7, 8] [0, 1, 5, 6, 36] (L' := [(0, .pointer (some ⟨b0, 0, none⟩)), (1, .int .i64 a1), (5, .pointer (some ⟨b63, 0, none⟩)), (6, .int .i64 o53.2), (36, .pointer (some ⟨b63, 3, none⟩))]) (w' := w55) (by kernel_rfl) ?_
          refine WR.st (St.ofR (RSt.loadRo (t := 48) (k := 3) (v := .slice A68 y62.2.2.2.length c69) (.tmp 36) (by kernel_rfl) (by kernel_rfl) (by kernel_rfl) (Sat.ghAt 0 hS rfl) hb66 (by kernel_rfl) rfl ?_))
          refine WR.runk [4] [5, 6, 7, 8] [0, 1, 5, 6, 37, 38] (L' := [(0, .pointer (some ⟨b0, 0, none⟩)), (1, .int .i64 a1), (5, .pointer (some ⟨b63, 0, none⟩)), (6, .int .i64 o53.2), (37, .slice A68 y62.2.2.2.length c69), (38, .int .i64 o53.2)]) (w' := w55) (by kernel_rfl) ?_
          obtain ⟨v72, e73, H⟩ := bind_ex H
          refine WR.st (St.ofP (PSt.idx (k := .i64) (.tmp 37) (.tmp 38) (by kernel_rfl) (by kernel_rfl) E48 (by kernel_rfl) (by kernel_rfl) (rdS.up R70 (Sat.ghAt 0 hS rfl)) e73 ?_))
          refine WR.runk [] [6, 7, 8] [0, 1, 5, 6, 39] (L' := [(0, .pointer (some ⟨b0, 0, none⟩)), (1, .int .i64 a1), (5, .pointer (some ⟨b63, 0, none⟩)), (6, .int .i64 o53.2), (39, .pointer (some (adr A68 (o53.2).toNat 2)))]) (w' := w55) (by kernel_rfl) ?_
          refine WR.st (St.ofR (RSt.loadFlat (t := 55) (κ := (.pair (.int .i64) .bool)) (.tmp 39) (by kernel_rfl) (by kernel_rfl) (by kernel_rfl) (by kernel_rfl) (by kernel_rfl) (by kernel_rfl) (rdS.up R70 (Sat.ghAt 0 hS rfl)) e73 ?_))
          refine WR.runk [] [7, 8] [0, 1, 5, 6, 40] (L' := [(0, .pointer (some ⟨b0, 0, none⟩)), (1, .int .i64 a1), (5, .pointer (some ⟨b63, 0, none⟩)), (6, .int .i64 o53.2), (40, .agg #[.int .i64 v72.1, .bool v72.2])]) (w' := w55) (by kernel_rfl) ?_
          refine WR.st (St.box hS (by kernel_rfl) (.cells #[.int .i64 0, .bool false] 55) (fun b74 => .pointer (some ⟨b74, 0, none⟩)) (fun _ => by kernel_rfl) (fun b74 w75 hS => ?_))
          refine WR.runk [] [8] [0, 1, 5, 6, 7, 40] (L' := [(0, .pointer (some ⟨b0, 0, none⟩)), (1, .int .i64 a1), (5, .pointer (some ⟨b63, 0, none⟩)), (6, .int .i64 o53.2), (7, .pointer (some ⟨b74, 0, none⟩)), (40, .agg #[.int .i64 v72.1, .bool v72.2])]) (w' := w75) (by kernel_rfl) ?_
          refine WR.st (St.storeAll (t := 55) (vs := [.int .i64 v72.1, .bool v72.2]) (.tmp 7) (.tmp 40) (by kernel_rfl) (by kernel_rfl) (by kernel_rfl) hS (by kernel_rfl) (by kernel_rfl) (by kernel_rfl) (by kernel_rfl) (fun w77 hS => ?_))
          have hS : Sat w77 B [pts b74 (.cells #[.int .i64 v72.1, .bool v72.2] 55 (0, 0)), gh K9, pts b6 (.cells #[.int .i64 p0.2.2.2.2.1] 3 (0, 0)), pts b0 (.cells #[.int .i64 p0.1, .slice A1 p0.2.1.length c2, .int .i64 p0.2.2.1, .bool p0.2.2.2.1, .int .i64 p0.2.2.2.2.1, .bool p0.2.2.2.2.2] 46 (0, 0))] := hS
          refine WR.runk [] [] [0, 1, 5, 6, 7] (L' := [(0, .pointer (some ⟨b0, 0, none⟩)), (1, .int .i64 a1), (5, .pointer (some ⟨b63, 0, none⟩)), (6, .int .i64 o53.2), (7, .pointer (some ⟨b74, 0, none⟩))]) (w' := w77) (by kernel_rfl) ?_
          refine WR.nil ?_
          refine At.go ?_
          refine WC.seq (by kernel_rfl) ?_
          refine WC.drawn (by kernel_rfl) (by kernel_rfl) 15 (by kernel_rfl) (fun w78 hw79 => ?_)
          have hS := hS.heap hw79.1 hw79.2
          refine WD.weaken [0, 1, 5, 6, 7] (L' := [(0, .pointer (some ⟨b0, 0, none⟩)), (1, .int .i64 a1), (5, .pointer (some ⟨b63, 0, none⟩)), (6, .int .i64 o53.2), (7, .pointer (some ⟨b74, 0, none⟩))]) (by kernel_rfl) ?_
          refine WD.pure (i := 0) (v := .pointer (some ⟨b63, 0, none⟩)) (by kernel_rfl) (by kernel_rfl) (fun _ => by kernel_rfl) ?_
          refine WD.weaken [0, 1, 5, 6, 7, 41] (L' := [(0, .pointer (some ⟨b0, 0, none⟩)), (1, .int .i64 a1), (5, .pointer (some ⟨b63, 0, none⟩)), (6, .int .i64 o53.2), (7, .pointer (some ⟨b74, 0, none⟩)), (41, .pointer (some ⟨b63, 0, none⟩))]) (by kernel_rfl) ?_
          refine WD.pure (i := 1) (v := .pointer (some ⟨b63, 0, none⟩)) (by kernel_rfl) (by kernel_rfl) (fun _ => by kernel_rfl) ?_
          refine WD.weaken [0, 1, 5, 6, 7, 41, 42] (L' := [(0, .pointer (some ⟨b0, 0, none⟩)), (1, .int .i64 a1), (5, .pointer (some ⟨b63, 0, none⟩)), (6, .int .i64 o53.2), (7, .pointer (some ⟨b74, 0, none⟩)), (41, .pointer (some ⟨b63, 0, none⟩)), (42, .pointer (some ⟨b63, 0, none⟩))]) (by kernel_rfl) ?_
          refine WD.pure (i := 2) (v := .pointer (some ⟨b63, 0, none⟩)) (by kernel_rfl) (by kernel_rfl) (fun _ => by kernel_rfl) ?_
          refine WD.weaken [0, 1, 5, 6, 7, 41, 43] (L' := [(0, .pointer (some ⟨b0, 0, none⟩)), (1, .int .i64 a1), (5, .pointer (some ⟨b63, 0, none⟩)), (6, .int .i64 o53.2), (7, .pointer (some ⟨b74, 0, none⟩)), (41, .pointer (some ⟨b63, 0, none⟩)), (43, .pointer (some ⟨b63, 0, none⟩))]) (by kernel_rfl) ?_
          refine WD.pure (i := 3) (v := .pointer (some ⟨b63, 3, none⟩)) (by kernel_rfl) (by kernel_rfl) (fun _ => by kernel_rfl) ?_
          refine WD.weaken [0, 1, 5, 6, 7, 41, 44] (L' := [(0, .pointer (some ⟨b0, 0, none⟩)), (1, .int .i64 a1), (5, .pointer (some ⟨b63, 0, none⟩)), (6, .int .i64 o53.2), (7, .pointer (some ⟨b74, 0, none⟩)), (41, .pointer (some ⟨b63, 0, none⟩)), (44, .pointer (some ⟨b63, 3, none⟩))]) (by kernel_rfl) ?_
          have hS : Sat w78 B [gh K9, pts b74 (.cells #[.int .i64 v72.1, .bool v72.2] 55 (0, 0)), pts b6 (.cells #[.int .i64 p0.2.2.2.2.1] 3 (0, 0)), pts b0 (.cells #[.int .i64 p0.1, .slice A1 p0.2.1.length c2, .int .i64 p0.2.2.1, .bool p0.2.2.2.1, .int .i64 p0.2.2.2.2.1, .bool p0.2.2.2.2.2] 46 (0, 0))] := hS.sel [1, 0, 2, 3] (by kernel_rfl)
          have hS : Sat w78 B [orh 47 (Ept O50) 1 A1 c2 css12 ((o53.1).toNat) p0.2.1, O50 b63 y62, pts b74 (.cells #[.int .i64 v72.1, .bool v72.2] 55 (0, 0)), pts b6 (.cells #[.int .i64 p0.2.2.2.2.1] 3 (0, 0)), pts b0 (.cells #[.int .i64 p0.1, .slice A1 p0.2.1.length c2, .int .i64 p0.2.2.1, .bool p0.2.2.2.1, .int .i64 p0.2.2.2.2.1, .bool p0.2.2.2.2.2] 46 (0, 0))] := Sat.focusP hC13 hS C71 ((at?_idx e58).trans (by rw [hr60]))
          have hS : Sat w78 B [O50 b63 y62, orh 47 (Ept O50) 1 A1 c2 css12 ((o53.1).toNat) p0.2.1, pts b74 (.cells #[.int .i64 v72.1, .bool v72.2] 55 (0, 0)), pts b6 (.cells #[.int .i64 p0.2.2.2.2.1] 3 (0, 0)), pts b0 (.cells #[.int .i64 p0.1, .slice A1 p0.2.1.length c2, .int .i64 p0.2.2.1, .bool p0.2.2.2.1, .int .i64 p0.2.2.2.2.1, .bool p0.2.2.2.2.2] 46 (0, 0))] := hS.sel [1, 0, 2, 3, 4] (by kernel_rfl)
          obtain ⟨A81, c82, hS⟩ := O50.open hS
          have hS : Sat w78 B [pts b63 (.cells #[.int .i64 y62.1, .int .i64 y62.2.1, .int .i64 y62.2.2.1, .slice A81 y62.2.2.2.length c82] 50 (0, 0)), osl 55 (r0 (.pair (.int .i64) .bool)) 2 A81 c82 y62.2.2.2, orh 47 (Ept O50) 1 A1 c2 css12 ((o53.1).toNat) p0.2.1, pts b74 (.cells #[.int .i64 v72.1, .bool v72.2] 55 (0, 0)), pts b6 (.cells #[.int .i64 p0.2.2.2.2.1] 3 (0, 0)), pts b0 (.cells #[.int .i64 p0.1, .slice A1 p0.2.1.length c2, .int .i64 p0.2.2.1, .bool p0.2.2.2.1, .int .i64 p0.2.2.2.2.1, .bool p0.2.2.2.2.2] 46 (0, 0))] := hS
          refine WD.ofR (i := 4) (by kernel_rfl) (RSt.loadObj (t := 48) (k := 3) (v := .slice A81 y62.2.2.2.length c82) (.tmp 44) (by kernel_rfl) (by kernel_rfl) (by kernel_rfl) 0 hS rfl (by kernel_rfl) rfl ?_)
          refine WD.weaken [0, 1, 5, 6, 7, 41, 45] (L' := [(0, .pointer (some ⟨b0, 0, none⟩)), (1, .int .i64 a1), (5, .pointer (some ⟨b63, 0, none⟩)), (6, .int .i64 o53.2), (7, .pointer (some ⟨b74, 0, none⟩)), (41, .pointer (some ⟨b63, 0, none⟩)), (45, .slice A81 y62.2.2.2.length c82)]) (by kernel_rfl) ?_
          refine WD.pure (i := 5) (v := .int .i64 o53.2) (by kernel_rfl) (by kernel_rfl) (fun _ => by kernel_rfl) ?_
          refine WD.weaken [0, 1, 5, 6, 7, 41, 45, 46] (L' := [(0, .pointer (some ⟨b0, 0, none⟩)), (1, .int .i64 a1), (5, .pointer (some ⟨b63, 0, none⟩)), (6, .int .i64 o53.2), (7, .pointer (some ⟨b74, 0, none⟩)), (41, .pointer (some ⟨b63, 0, none⟩)), (45, .slice A81 y62.2.2.2.length c82), (46, .int .i64 o53.2)]) (by kernel_rfl) ?_
          refine WD.pure (i := 6) (v := .int .i64 o53.2) (by kernel_rfl) (by kernel_rfl) (fun _ => by kernel_rfl) ?_
          refine WD.weaken [0, 1, 5, 7, 41, 45, 46, 47] (L' := [(0, .pointer (some ⟨b0, 0, none⟩)), (1, .int .i64 a1), (5, .pointer (some ⟨b63, 0, none⟩)), (7, .pointer (some ⟨b74, 0, none⟩)), (41, .pointer (some ⟨b63, 0, none⟩)), (45, .slice A81 y62.2.2.2.length c82), (46, .int .i64 o53.2), (47, .int .i64 o53.2)]) (by kernel_rfl) ?_
          refine WD.pure (i := 7) (v := .int .i64 (wi (o53.2 + 1))) (by kernel_rfl) (by kernel_rfl) (fun _ => by kernel_rfl) ?_
          refine WD.weaken [0, 1, 5, 7, 41, 45, 46, 48] (L' := [(0, .pointer (some ⟨b0, 0, none⟩)), (1, .int .i64 a1), (5, .pointer (some ⟨b63, 0, none⟩)), (7, .pointer (some ⟨b74, 0, none⟩)), (41, .pointer (some ⟨b63, 0, none⟩)), (45, .slice A81 y62.2.2.2.length c82), (46, .int .i64 o53.2), (48, .int .i64 (wi (o53.2 + 1)))]) (by kernel_rfl) ?_
          refine WD.ofR (i := 9) (by kernel_rfl) (RSt.loadAll (t := 55) (vs := [.int .i64 v72.1, .bool v72.2]) (.tmp 7) (by kernel_rfl) (by kernel_rfl) (by kernel_rfl) 3 (by kernel_rfl) hS rfl (by kernel_rfl) ?_)
          refine WD.weaken [0, 1, 5, 41, 45, 46, 48, 50] (L' := [(0, .pointer (some ⟨b0, 0, none⟩)), (1, .int .i64 a1), (5, .pointer (some ⟨b63, 0, none⟩)), (41, .pointer (some ⟨b63, 0, none⟩)), (45, .slice A81 y62.2.2.2.length c82), (46, .int .i64 o53.2), (48, .int .i64 (wi (o53.2 + 1))), (50, .agg #[.int .i64 v72.1, .bool v72.2])]) (by kernel_rfl) ?_
          refine WD.two (i := 8) (j := 10) (by kernel_rfl) ?_ ?_
          · skip
            have hS : Sat w78 B [osl 55 (r0 (.pair (.int .i64) .bool)) 2 A81 c82 y62.2.2.2, pts b63 (.cells #[.int .i64 y62.1, .int .i64 y62.2.1, .int .i64 y62.2.2.1, .slice A81 y62.2.2.2.length c82] 50 (0, 0)), orh 47 (Ept O50) 1 A1 c2 css12 ((o53.1).toNat) p0.2.1, pts b74 (.cells #[.int .i64 v72.1, .bool v72.2] 55 (0, 0)), pts b6 (.cells #[.int .i64 p0.2.2.2.2.1] 3 (0, 0)), pts b0 (.cells #[.int .i64 p0.1, .slice A1 p0.2.1.length c2, .int .i64 p0.2.2.1, .bool p0.2.2.2.1, .int .i64 p0.2.2.2.2.1, .bool p0.2.2.2.2.2] 46 (0, 0))] := hS.sel [1, 0, 2, 3, 4, 5] (by kernel_rfl)
            obtain ⟨r83, e84, H⟩ := bind_ex H
            obtain ⟨B93, hso92, hsub90, hcs91, hb89⟩ := Sat.lend [osl 55 (r0 (.pair (.int .i64) .bool)) 2 A81 c82 y62.2.2.2] (cs := [pts b63 (.cells #[.int .i64 y62.1, .int .i64 y62.2.1, .int .i64 y62.2.2.1, .slice A81 y62.2.2.2.length c82] 50 (0, 0)), orh 47 (Ept O50) 1 A1 c2 css12 ((o53.1).toNat) p0.2.1, pts b74 (.cells #[.int .i64 v72.1, .bool v72.2] 55 (0, 0)), pts b6 (.cells #[.int .i64 p0.2.2.2.2.1] 3 (0, 0)), pts b0 (.cells #[.int .i64 p0.1, .slice A1 p0.2.1.length c2, .int .i64 p0.2.2.1, .bool p0.2.2.2.1, .int .i64 p0.2.2.2.2.1, .bool p0.2.2.2.2.2] 46 (0, 0))]) hS
            refine St.call (by kernel_rfl) (f := 21) (args := #[.slice A81 y62.2.2.2.length c82, .int .i64 o53.2, .int .i64 (wi (o53.2 + 1))]) (by kernel_rfl) (slices_Delete.calls B93 w78 A81 c82 y62.2.2.2 hso92 o53.2 (wi (o53.2 + 1)) r83 e84) ?_
            rintro _ w87 ⟨A85, c86, rfl, hS88⟩
            have hS : Sat w87 B [osl 55 (r0 (.pair (.int .i64) .bool)) 2 A85 c86 r83, pts b63 (.cells #[.int .i64 y62.1, .int .i64 y62.2.1, .int .i64 y62.2.2.1, .slice A81 y62.2.2.2.length c82] 50 (0, 0)), orh 47 (Ept O50) 1 A1 c2 css12 ((o53.1).toNat) p0.2.1, pts b74 (.cells #[.int .i64 v72.1, .bool v72.2] 55 (0, 0)), pts b6 (.cells #[.int .i64 p0.2.2.2.2.1] 3 (0, 0)), pts b0 (.cells #[.int .i64 p0.1, .slice A1 p0.2.1.length c2, .int .i64 p0.2.2.1, .bool p0.2.2.2.1, .int .i64 p0.2.2.2.2.1, .bool p0.2.2.2.2.2] 46 (0, 0))] := hb89 _ _ hS88
            refine ⟨(asked.cons (RSt.run (n := 74) (RSt.loadAll (t := 55) (vs := [.int .i64 v72.1, .bool v72.2]) (.tmp 7) (by kernel_rfl) (by kernel_rfl) (by kernel_rfl) 3 (by kernel_rfl) hS rfl (by kernel_rfl) rfl)) (asked.anc (by kernel_rfl) (asked.nil _ _))), ?_⟩
            refine WD.weaken [0, 1, 5, 41, 49, 50] (L' := [(0, .pointer (some ⟨b0, 0, none⟩)), (1, .int .i64 a1), (5, .pointer (some ⟨b63, 0, none⟩)), (41, .pointer (some ⟨b63, 0, none⟩)), (49, .slice A85 r83.length c86), (50, .agg #[.int .i64 v72.1, .bool v72.2])]) (by kernel_rfl) ?_
            refine WD.act (i := 10) (by kernel_rfl) (St.box hS (by kernel_rfl) (.cells #[.int .i64 v72.1, .bool v72.2] 55) (fun b94 => .slice (some ⟨b94, 0, none⟩) 1 1) (fun _ => by kernel_rfl) (fun b94 w95 hS => ?_))
            refine ⟨(asked.anc (by kernel_rfl) (asked.cons (RSt.run (n := 74) (RSt.loadObj (t := 48) (k := 3) (v := .slice A81 y62.2.2.2.length c82) (.tmp 44) (by kernel_rfl) (by kernel_rfl) (by kernel_rfl) 2 hS rfl (by kernel_rfl) rfl rfl)) (asked.nil _ _))), ?_⟩
            refine WD.weaken [0, 1, 5, 41, 49, 51] (L' := [(0, .pointer (some ⟨b0, 0, none⟩)), (1, .int .i64 a1), (5, .pointer (some ⟨b63, 0, none⟩)), (41, .pointer (some ⟨b63, 0, none⟩)), (49, .slice A85 r83.length c86), (51, .slice (some ⟨b94, 0, none⟩) 1 1)]) (by kernel_rfl) ?_
            have hS : Sat w95 B [osl 55 (r0 (.pair (.int .i64) .bool)) 2 A85 c86 r83, pts b94 (.cells #[.int .i64 v72.1, .bool v72.2] 55 (0, 0)), pts b63 (.cells #[.int .i64 y62.1, .int .i64 y62.2.1, .int .i64 y62.2.2.1, .slice A81 y62.2.2.2.length c82] 50 (0, 0)), orh 47 (Ept O50) 1 A1 c2 css12 ((o53.1).toNat) p0.2.1, pts b74 (.cells #[.int .i64 v72.1, .bool v72.2] 55 (0, 0)), pts b6 (.cells #[.int .i64 p0.2.2.2.2.1] 3 (0, 0)), pts b0 (.cells #[.int .i64 p0.1, .slice A1 p0.2.1.length c2, .int .i64 p0.2.2.1, .bool p0.2.2.2.1, .int .i64 p0.2.2.2.2.1, .bool p0.2.2.2.2.2] 46 (0, 0))] := hS.sel [1, 0, 2, 3, 4, 5, 6] (by kernel_rfl)
            obtain ⟨y97, e96, H⟩ := bind_ex H
            refine WD.act (i := 11) (by kernel_rfl) (St.append' (.tmp 49) (.tmp 51) (by kernel_rfl) (by kernel_rfl) E48 (r0_one _) hS (by kernel_rfl) (by kernel_rfl) (Sat.ptsAt 1 (r0 (.pair (.int .i64) .bool)) 2 ([(v72.1, v72.2)] : List (Int × Bool)) hS rfl rfl (rdL.consN [.int .i64 v72.1, .bool v72.2] rfl ⟨[.int .i64 v72.1], [.bool v72.2], rfl, rfl, rfl, rfl⟩ (rdL.nil _ _))) 8796093022208 (by kernel_rfl) (by kernel_rfl) e96 (fun A98 c99 w100 hS => ?_))
            refine ⟨(asked.anc (by kernel_rfl) (asked.anc (by kernel_rfl) (asked.nil _ _))), ?_⟩
            refine WD.weaken [0, 1, 5, 41, 52] (L' := [(0, .pointer (some ⟨b0, 0, none⟩)), (1, .int .i64 a1), (5, .pointer (some ⟨b63, 0, none⟩)), (41, .pointer (some ⟨b63, 0, none⟩)), (52, .slice A98 y97.length c99)]) (by kernel_rfl) ?_
            refine WD.pure (i := 12) (v := .pointer (some ⟨b63, 0, none⟩)) (by kernel_rfl) (by kernel_rfl) (fun _ => by kernel_rfl) ?_
            refine WD.weaken [0, 1, 5, 52, 53] (L' := [(0, .pointer (some ⟨b0, 0, none⟩)), (1, .int .i64 a1), (5, .pointer (some ⟨b63, 0, none⟩)), (52, .slice A98 y97.length c99), (53, .pointer (some ⟨b63, 0, none⟩))]) (by kernel_rfl) ?_
            refine WD.pure (i := 13) (v := .pointer (some ⟨b63, 3, none⟩)) (by kernel_rfl) (by kernel_rfl) (fun _ => by kernel_rfl) ?_
            refine WD.weaken [0, 1, 5, 52, 54] (L' := [(0, .pointer (some ⟨b0, 0, none⟩)), (1, .int .i64 a1), (5, .pointer (some ⟨b63, 0, none⟩)), (52, .slice A98 y97.length c99), (54, .pointer (some ⟨b63, 3, none⟩))]) (by kernel_rfl) ?_
            have hS : Sat w100 B [pts b63 (.cells #[.int .i64 y62.1, .int .i64 y62.2.1, .int .i64 y62.2.2.1, .slice A81 y62.2.2.2.length c82] 50 (0, 0)), osl 55 (r0 (.pair (.int .i64) .bool)) 2 A98 c99 y97, pts b94 (.cells #[.int .i64 v72.1, .bool v72.2] 55 (0, 0)), orh 47 (Ept O50) 1 A1 c2 css12 ((o53.1).toNat) p0.2.1, pts b74 (.cells #[.int .i64 v72.1, .bool v72.2] 55 (0, 0)), pts b6 (.cells #[.int .i64 p0.2.2.2.2.1] 3 (0, 0)), pts b0 (.cells #[.int .i64 p0.1, .slice A1 p0.2.1.length c2, .int .i64 p0.2.2.1, .bool p0.2.2.2.1, .int .i64 p0.2.2.2.2.1, .bool p0.2.2.2.2.2] 46 (0, 0))] := hS.sel [2, 0, 1, 3, 4, 5, 6] (by kernel_rfl)
            refine WD.act (i := 14) (by kernel_rfl) (St.storeObj (t := 48) (k := 3) (cur' := #[.int .i64 y62.1, .int .i64 y62.2.1, .int .i64 y62.2.2.1, .slice A98 y97.length c99]) (.tmp 54) (.tmp 52) (by kernel_rfl) (by kernel_rfl) (by kernel_rfl) hS (by kernel_rfl) (by kernel_rfl) (by kernel_rfl) rfl rfl (fun w101 hS => ?_))
            refine ⟨(asked.anc (by kernel_rfl) (asked.anc (by kernel_rfl) (asked.nil _ _))), ?_⟩
            refine WD.weaken [0, 1, 5] (L' := [(0, .pointer (some ⟨b0, 0, none⟩)), (1, .int .i64 a1), (5, .pointer (some ⟨b63, 0, none⟩))]) (by kernel_rfl) ?_
            refine WD.nil (by kernel_rfl) ?_
            refine At.go ?_
            refine WC.seq (by kernel_rfl) ?_
            refine WC.reg [0, 1, 2, 3, 4, 5, 6, 7, 8] (by kernel_rfl) (by kernel_rfl) ?_
            refine WR.runk [0, 1, 2] [3, 4, 5, 6, 7, 8] [0, 1, 5, 55, 57] (L' := [(0, .pointer (some ⟨b0, 0, none⟩)), (1, .int .i64 a1), (5, .pointer (some ⟨b63, 0, none⟩)), (55, .pointer (some ⟨b63, 0, none⟩)), (57, .pointer (some ⟨b63, 1, none⟩))]) (w' := w101) (by kernel_rfl) ?_
            refine WR.st (St.ofR (RSt.loadObj (t := 3) (k := 1) (v := .int .i64 y62.2.1) (.tmp 57) (by kernel_rfl) (by kernel_rfl) (by kernel_rfl) 0 hS rfl (by kernel_rfl) rfl ?_))
            refine WR.runk [4, 5, 6, 7] [8] [0, 1, 5, 60, 62] (L' := [(0, .pointer (some ⟨b0, 0, none⟩)), (1, .int .i64 a1), (5, .pointer (some ⟨b63, 0, none⟩)), (60, .int .i64 (wi (y62.2.1 - a1))), (62, .pointer (some ⟨b63, 1, none⟩))]) (w' := w101) (by kernel_rfl) ?_
            refine WR.st (St.storeObj (t := 3) (k := 1) (cur' := #[.int .i64 y62.1, .int .i64 (wi (y62.2.1 - a1)), .int .i64 y62.2.2.1, .slice A98 y97.length c99]) (.tmp 62) (.tmp 60) (by kernel_rfl) (by kernel_rfl) (by kernel_rfl) hS (by kernel_rfl) (by kernel_rfl) (by kernel_rfl) rfl rfl (fun w102 hS => ?_))
            refine WR.runk [] [] [0, 1, 5] (L' := [(0, .pointer (some ⟨b0, 0, none⟩)), (1, .int .i64 a1), (5, .pointer (some ⟨b63, 0, none⟩))]) (w' := w102) (by kernel_rfl) ?_
            refine WR.nil ?_
            refine At.go ?_
            refine WC.seq (by kernel_rfl) ?_
            refine WC.reg [0, 1, 2, 3, 4, 5, 6, 7, 8] (by kernel_rfl) (by kernel_rfl) ?_
            refine WR.runk [0, 1, 2] [3, 4, 5, 6, 7, 8] [0, 1, 63, 65] (L' := [(0, .pointer (some ⟨b0, 0, none⟩)), (1, .int .i64 a1), (63, .pointer (some ⟨b63, 0, none⟩)), (65, .pointer (some ⟨b63, 2, none⟩))]) (w' := w102) (by kernel_rfl) ?_
            refine WR.st (St.ofR (RSt.loadObj (t := 3) (k := 2) (v := .int .i64 y62.2.2.1) (.tmp 65) (by kernel_rfl) (by kernel_rfl) (by kernel_rfl) 0 hS rfl (by kernel_rfl) rfl ?_))
            refine WR.runk [4, 5, 6, 7] [8] [0, 68, 70] (L' := [(0, .pointer (some ⟨b0, 0, none⟩)), (68, .int .i64 (wi (y62.2.2.1 + a1))), (70, .pointer (some ⟨b63, 2, none⟩))]) (w' := w102) (by kernel_rfl) ?_
            refine WR.st (St.storeObj (t := 3) (k := 2) (cur' := #[.int .i64 y62.1, .int .i64 (wi (y62.2.1 - a1)), .int .i64 (wi (y62.2.2.1 + a1)), .slice A98 y97.length c99]) (.tmp 70) (.tmp 68) (by kernel_rfl) (by kernel_rfl) (by kernel_rfl) hS (by kernel_rfl) (by kernel_rfl) (by kernel_rfl) rfl rfl (fun w103 hS => ?_))
            refine WR.runk [] [] [0] (L' := [(0, .pointer (some ⟨b0, 0, none⟩))]) (w' := w103) (by kernel_rfl) ?_
            refine WR.nil ?_
            refine At.go ?_
            refine WC.seq (by kernel_rfl) ?_
            refine WC.reg [0, 1, 2, 3] (by kernel_rfl) (by kernel_rfl) ?_
            refine WR.runk [0, 1, 2] [3] [73] (L' := [(73, .pointer (some ⟨b0, 5, none⟩))]) (w' := w103) (by kernel_rfl) ?_
            have hS : Sat w103 B [pts b0 (.cells #[.int .i64 p0.1, .slice A1 p0.2.1.length c2, .int .i64 p0.2.2.1, .bool p0.2.2.2.1, .int .i64 p0.2.2.2.2.1, .bool p0.2.2.2.2.2] 46 (0, 0)), pts b63 (.cells #[.int .i64 y62.1, .int .i64 (wi (y62.2.1 - a1)), .int .i64 (wi (y62.2.2.1 + a1)), .slice A98 y97.length c99] 50 (0, 0)), osl 55 (r0 (.pair (.int .i64) .bool)) 2 A98 c99 y97, pts b94 (.cells #[.int .i64 v72.1, .bool v72.2] 55 (0, 0)), orh 47 (Ept O50) 1 A1 c2 css12 ((o53.1).toNat) p0.2.1, pts b74 (.cells #[.int .i64 v72.1, .bool v72.2] 55 (0, 0)), pts b6 (.cells #[.int .i64 p0.2.2.2.2.1] 3 (0, 0))] := hS.sel [6, 0, 1, 2, 3, 4, 5] (by kernel_rfl)
            refine WR.st (St.storeObj (t := 4) (k := 5) (cur' := #[.int .i64 p0.1, .slice A1 p0.2.1.length c2, .int .i64 p0.2.2.1, .bool p0.2.2.2.1, .int .i64 p0.2.2.2.2.1, .bool false]) (.tmp 73) (.const (.bool false)) (by kernel_rfl) (by kernel_rfl) (by kernel_rfl) hS (by kernel_rfl) (by kernel_rfl) (by kernel_rfl) rfl rfl (fun w104 hS => ?_))
            refine WR.runk [] [] [] (L' := []) (w' := w104) (by kernel_rfl) ?_
            refine WR.nil ?_
            refine At.go ?_
            refine WC.seq (by kernel_rfl) ?_
            refine WC.reg [0] (by kernel_rfl) (by kernel_rfl) ?_
            refine WR.runk [0] [] [4] (L' := [(4, .bool true)]) (w' := w104) (by kernel_rfl) ?_
            refine WR.nil ?_
            refine At.go ?_
            refine WC.ret (by kernel_rfl) ?_
            obtain rfl := Option.some.inj H
            have hS : Sat w104 B [pts b63 (.cells #[.int .i64 y62.1, .int .i64 (wi (y62.2.1 - a1)), .int .i64 (wi (y62.2.2.1 + a1)), .slice A98 y97.length c99] 50 (0, 0)), osl 55 (r0 (.pair (.int .i64) .bool)) 2 A98 c99 y97, pts b0 (.cells #[.int .i64 p0.1, .slice A1 p0.2.1.length c2, .int .i64 p0.2.2.1, .bool p0.2.2.2.1, .int .i64 p0.2.2.2.2.1, .bool false] 46 (0, 0)), pts b94 (.cells #[.int .i64 v72.1, .bool v72.2] 55 (0, 0)), orh 47 (Ept O50) 1 A1 c2 css12 ((o53.1).toNat) p0.2.1, pts b74 (.cells #[.int .i64 v72.1, .bool v72.2] 55 (0, 0)), pts b6 (.cells #[.int .i64 p0.2.2.2.2.1] 3 (0, 0))] := hS.sel [1, 2, 0, 3, 4, 5, 6] (by kernel_rfl)
            have hS : Sat w104 B [O50 b63 (y62.1, wi (y62.2.1 - a1), wi (y62.2.2.1 + a1), y97), pts b0 (.cells #[.int .i64 p0.1, .slice A1 p0.2.1.length c2, .int .i64 p0.2.2.1, .bool p0.2.2.2.1, .int .i64 p0.2.2.2.2.1, .bool false] 46 (0, 0)), pts b94 (.cells #[.int .i64 v72.1, .bool v72.2] 55 (0, 0)), orh 47 (Ept O50) 1 A1 c2 css12 ((o53.1).toNat) p0.2.1, pts b74 (.cells #[.int .i64 v72.1, .bool v72.2] 55 (0, 0)), pts b6 (.cells #[.int .i64 p0.2.2.2.2.1] 3 (0, 0))] := O50.close (y62.1, wi (y62.2.1 - a1), wi (y62.2.2.1 + a1), y97) A98 c99 hS
            have hS : Sat w104 B [orh 47 (Ept O50) 1 A1 c2 css12 ((o53.1).toNat) p0.2.1, O50 b63 (y62.1, wi (y62.2.1 - a1), wi (y62.2.2.1 + a1), y97), pts b0 (.cells #[.int .i64 p0.1, .slice A1 p0.2.1.length c2, .int .i64 p0.2.2.1, .bool p0.2.2.2.1, .int .i64 p0.2.2.2.2.1, .bool false] 46 (0, 0)), pts b94 (.cells #[.int .i64 v72.1, .bool v72.2] 55 (0, 0)), pts b74 (.cells #[.int .i64 v72.1, .bool v72.2] 55 (0, 0)), pts b6 (.cells #[.int .i64 p0.2.2.2.2.1] 3 (0, 0))] := hS.sel [3, 0, 1, 2, 4, 5] (by kernel_rfl)
            have hS : Sat w104 B [orw 47 (Ept O50) 1 A1 c2 (List.set p0.2.1 ((o53.1).toNat) (some (y62.1, wi (y62.2.1 - a1), wi (y62.2.2.1 + a1), y97))), pts b0 (.cells #[.int .i64 p0.1, .slice A1 p0.2.1.length c2, .int .i64 p0.2.2.1, .bool p0.2.2.2.1, .int .i64 p0.2.2.2.2.1, .bool false] 46 (0, 0)), pts b94 (.cells #[.int .i64 v72.1, .bool v72.2] 55 (0, 0)), pts b74 (.cells #[.int .i64 v72.1, .bool v72.2] 55 (0, 0)), pts b6 (.cells #[.int .i64 p0.2.2.2.2.1] 3 (0, 0))] := Sat.fillP hS C71
            have hl106 : List.length (List.set p0.2.1 ((o53.1).toNat) (some (y62.1, wi (y62.2.1 - a1), wi (y62.2.2.1 + a1), y97))) = List.length p0.2.1 := List.length_set
            have hS : Sat w104 B [orw 47 (Ept O50) 1 A1 c2 (List.set p0.2.1 ((o53.1).toNat) (some (y62.1, wi (y62.2.1 - a1), wi (y62.2.2.1 + a1), y97))), pts b0 (.cells #[.int .i64 p0.1, .slice A1 (List.set p0.2.1 ((o53.1).toNat) (some (y62.1, wi (y62.2.1 - a1), wi (y62.2.2.1 + a1), y97))).length c2, .int .i64 p0.2.2.1, .bool p0.2.2.2.1, .int .i64 p0.2.2.2.2.1, .bool false] 46 (0, 0)), pts b94 (.cells #[.int .i64 v72.1, .bool v72.2] 55 (0, 0)), pts b74 (.cells #[.int .i64 v72.1, .bool v72.2] 55 (0, 0)), pts b6 (.cells #[.int .i64 p0.2.2.2.2.1] 3 (0, 0))] := by simpa only [hl106] using hS
            have hS : Sat w104 B [pts b0 (.cells #[.int .i64 p0.1, .slice A1 (List.set p0.2.1 ((o53.1).toNat) (some (y62.1, wi (y62.2.1 - a1), wi (y62.2.2.1 + a1), y97))).length c2, .int .i64 p0.2.2.1, .bool p0.2.2.2.1, .int .i64 p0.2.2.2.2.1, .bool false] 46 (0, 0)), orw 47 (Ept O50) 1 A1 c2 (List.set p0.2.1 ((o53.1).toNat) (some (y62.1, wi (y62.2.1 - a1), wi (y62.2.2.1 + a1), y97))), pts b94 (.cells #[.int .i64 v72.1, .bool v72.2] 55 (0, 0)), pts b74 (.cells #[.int .i64 v72.1, .bool v72.2] 55 (0, 0)), pts b6 (.cells #[.int .i64 p0.2.2.2.2.1] 3 (0, 0))] := hS.sel [1, 0, 2, 3, 4] (by kernel_rfl)
            have hS : Sat w104 B [O46 b0 (p0.1, (List.set p0.2.1 ((o53.1).toNat) (some (y62.1, wi (y62.2.1 - a1), wi (y62.2.2.1 + a1), y97))), p0.2.2.1, p0.2.2.2.1, p0.2.2.2.2.1, false), pts b94 (.cells #[.int .i64 v72.1, .bool v72.2] 55 (0, 0)), pts b74 (.cells #[.int .i64 v72.1, .bool v72.2] 55 (0, 0)), pts b6 (.cells #[.int .i64 p0.2.2.2.2.1] 3 (0, 0))] := O46.close (p0.1, (List.set p0.2.1 ((o53.1).toNat) (some (y62.1, wi (y62.2.1 - a1), wi (y62.2.2.1 + a1), y97))), p0.2.2.1, p0.2.2.2.1, p0.2.2.2.2.1, false) A1 c2 hS
            have hS : Sat w104 B [O46 b0 (p0.1, (List.set p0.2.1 ((o53.1).toNat) (some (y62.1, wi (y62.2.1 - a1), wi (y62.2.2.1 + a1), y97))), p0.2.2.1, p0.2.2.2.1, p0.2.2.2.2.1, false)] := hS.sel [0] (by kernel_rfl)
            exact At.body [.bool true] (by kernel_rfl) ⟨_, rfl, rfl, hS⟩
          · skip
            refine St.box hS (by kernel_rfl) (.cells #[.int .i64 v72.1, .bool v72.2] 55) (fun b107 => .slice (some ⟨b107, 0, none⟩) 1 1) (fun _ => by kernel_rfl) (fun b107 w108 hS => ?_)
            refine ⟨(asked.anc (by kernel_rfl) (asked.cons (RSt.run (n := 74) (RSt.loadObj (t := 48) (k := 3) (v := .slice A81 y62.2.2.2.length c82) (.tmp 44) (by kernel_rfl) (by kernel_rfl) (by kernel_rfl) 1 hS rfl (by kernel_rfl) rfl rfl)) (asked.nil _ _))), ?_⟩
            refine WD.weaken [0, 1, 5, 41, 45, 46, 48, 51] (L' := [(0, .pointer (some ⟨b0, 0, none⟩)), (1, .int .i64 a1), (5, .pointer (some ⟨b63, 0, none⟩)), (41, .pointer (some ⟨b63, 0, none⟩)), (45, .slice A81 y62.2.2.2.length c82), (46, .int .i64 o53.2), (48, .int .i64 (wi (o53.2 + 1))), (51, .slice (some ⟨b107, 0, none⟩) 1 1)]) (by kernel_rfl) ?_
            have hS : Sat w108 B [osl 55 (r0 (.pair (.int .i64) .bool)) 2 A81 c82 y62.2.2.2, pts b107 (.cells #[.int .i64 v72.1, .bool v72.2] 55 (0, 0)), pts b63 (.cells #[.int .i64 y62.1, .int .i64 y62.2.1, .int .i64 y62.2.2.1, .slice A81 y62.2.2.2.length c82] 50 (0, 0)), orh 47 (Ept O50) 1 A1 c2 css12 ((o53.1).toNat) p0.2.1, pts b74 (.cells #[.int .i64 v72.1, .bool v72.2] 55 (0, 0)), pts b6 (.cells #[.int .i64 p0.2.2.2.2.1] 3 (0, 0)), pts b0 (.cells #[.int .i64 p0.1, .slice A1 p0.2.1.length c2, .int .i64 p0.2.2.1, .bool p0.2.2.2.1, .int .i64 p0.2.2.2.2.1, .bool p0.2.2.2.2.2] 46 (0, 0))] := hS.sel [2, 0, 1, 3, 4, 5, 6] (by kernel_rfl)
            obtain ⟨r109, e110, H⟩ := bind_ex H
            obtain ⟨B119, hso118, hsub116, hcs117, hb115⟩ := Sat.lend [osl 55 (r0 (.pair (.int .i64) .bool)) 2 A81 c82 y62.2.2.2] (cs := [pts b107 (.cells #[.int .i64 v72.1, .bool v72.2] 55 (0, 0)), pts b63 (.cells #[.int .i64 y62.1, .int .i64 y62.2.1, .int .i64 y62.2.2.1, .slice A81 y62.2.2.2.length c82] 50 (0, 0)), orh 47 (Ept O50) 1 A1 c2 css12 ((o53.1).toNat) p0.2.1, pts b74 (.cells #[.int .i64 v72.1, .bool v72.2] 55 (0, 0)), pts b6 (.cells #[.int .i64 p0.2.2.2.2.1] 3 (0, 0)), pts b0 (.cells #[.int .i64 p0.1, .slice A1 p0.2.1.length c2, .int .i64 p0.2.2.1, .bool p0.2.2.2.1, .int .i64 p0.2.2.2.2.1, .bool p0.2.2.2.2.2] 46 (0, 0))]) hS
            refine WD.act (i := 8) (by kernel_rfl) (St.call (by kernel_rfl) (f := 21) (args := #[.slice A81 y62.2.2.2.length c82, .int .i64 o53.2, .int .i64 (wi (o53.2 + 1))]) (by kernel_rfl) (slices_Delete.calls B119 w108 A81 c82 y62.2.2.2 hso118 o53.2 (wi (o53.2 + 1)) r109 e110) ?_)
            rintro _ w113 ⟨A111, c112, rfl, hS114⟩
            have hS : Sat w113 B [osl 55 (r0 (.pair (.int .i64) .bool)) 2 A111 c112 r109, pts b107 (.cells #[.int .i64 v72.1, .bool v72.2] 55 (0, 0)), pts b63 (.cells #[.int .i64 y62.1, .int .i64 y62.2.1, .int .i64 y62.2.2.1, .slice A81 y62.2.2.2.length c82] 50 (0, 0)), orh 47 (Ept O50) 1 A1 c2 css12 ((o53.1).toNat) p0.2.1, pts b74 (.cells #[.int .i64 v72.1, .bool v72.2] 55 (0, 0)), pts b6 (.cells #[.int .i64 p0.2.2.2.2.1] 3 (0, 0)), pts b0 (.cells #[.int .i64 p0.1, .slice A1 p0.2.1.length c2, .int .i64 p0.2.2.1, .bool p0.2.2.2.1, .int .i64 p0.2.2.2.2.1, .bool p0.2.2.2.2.2] 46 (0, 0))] := hb115 _ _ hS114
            refine ⟨(asked.cons (RSt.run (n := 74) (RSt.loadAll (t := 55) (vs := [.int .i64 v72.1, .bool v72.2]) (.tmp 7) (by kernel_rfl) (by kernel_rfl) (by kernel_rfl) 4 (by kernel_rfl) hS rfl (by kernel_rfl) rfl)) (asked.anc (by kernel_rfl) (asked.nil _ _))), ?_⟩
            refine WD.weaken [0, 1, 5, 41, 49, 51] (L' := [(0, .pointer (some ⟨b0, 0, none⟩)), (1, .int .i64 a1), (5, .pointer (some ⟨b63, 0, none⟩)), (41, .pointer (some ⟨b63, 0, none⟩)), (49, .slice A111 r109.length c112), (51, .slice (some ⟨b107, 0, none⟩) 1 1)]) (by kernel_rfl) ?_
            obtain ⟨y121, e120, H⟩ := bind_ex H
            refine WD.act (i := 11) (by kernel_rfl) (St.append' (.tmp 49) (.tmp 51) (by kernel_rfl) (by kernel_rfl) E48 (r0_one _) hS (by kernel_rfl) (by kernel_rfl) (Sat.ptsAt 1 (r0 (.pair (.int .i64) .bool)) 2 ([(v72.1, v72.2)] : List (Int × Bool)) hS rfl rfl (rdL.consN [.int .i64 v72.1, .bool v72.2] rfl ⟨[.int .i64 v72.1], [.bool v72.2], rfl, rfl, rfl, rfl⟩ (rdL.nil _ _))) 8796093022208 (by kernel_rfl) (by kernel_rfl) e120 (fun A122 c123 w124 hS => ?_))
            refine ⟨(asked.anc (by kernel_rfl) (asked.anc (by kernel_rfl) (asked.nil _ _))), ?_⟩
            refine WD.weaken [0, 1, 5, 41, 52] (L' := [(0, .pointer (some ⟨b0, 0, none⟩)), (1, .int .i64 a1), (5, .pointer (some ⟨b63, 0, none⟩)), (41, .pointer (some ⟨b63, 0, none⟩)), (52, .slice A122 y121.length c123)]) (by kernel_rfl) ?_
            refine WD.pure (i := 12) (v := .pointer (some ⟨b63, 0, none⟩)) (by kernel_rfl) (by kernel_rfl) (fun _ => by kernel_rfl) ?_
            refine WD.weaken [0, 1, 5, 52, 53] (L' := [(0, .pointer (some ⟨b0, 0, none⟩)), (1, .int .i64 a1), (5, .pointer (some ⟨b63, 0, none⟩)), (52, .slice A122 y121.length c123), (53, .pointer (some ⟨b63, 0, none⟩))]) (by kernel_rfl) ?_
            refine WD.pure (i := 13) (v := .pointer (some ⟨b63, 3, none⟩)) (by kernel_rfl) (by kernel_rfl) (fun _ => by kernel_rfl) ?_
            refine WD.weaken [0, 1, 5, 52, 54] (L' := [(0, .pointer (some ⟨b0, 0, none⟩)), (1, .int .i64 a1), (5, .pointer (some ⟨b63, 0, none⟩)), (52, .slice A122 y121.length c123), (54, .pointer (some ⟨b63, 3, none⟩))]) (by kernel_rfl) ?_
            have hS : Sat w124 B [pts b63 (.cells #[.int .i64 y62.1, .int .i64 y62.2.1, .int .i64 y62.2.2.1, .slice A81 y62.2.2.2.length c82] 50 (0, 0)), osl 55 (r0 (.pair (.int .i64) .bool)) 2 A122 c123 y121, pts b107 (.cells #[.int .i64 v72.1, .bool v72.2] 55 (0, 0)), orh 47 (Ept O50) 1 A1 c2 css12 ((o53.1).toNat) p0.2.1, pts b74 (.cells #[.int .i64 v72.1, .bool v72.2] 55 (0, 0)), pts b6 (.cells #[.int .i64 p0.2.2.2.2.1] 3 (0, 0)), pts b0 (.cells #[.int .i64 p0.1, .slice A1 p0.2.1.length c2, .int .i64 p0.2.2.1, .bool p0.2.2.2.1, .int .i64 p0.2.2.2.2.1, .bool p0.2.2.2.2.2] 46 (0, 0))] := hS.sel [2, 0, 1, 3, 4, 5, 6] (by kernel_rfl)
            refine WD.act (i := 14) (by kernel_rfl) (St.storeObj (t := 48) (k := 3) (cur' := #[.int .i64 y62.1, .int .i64 y62.2.1, .int .i64 y62.2.2.1, .slice A122 y121.length c123]) (.tmp 54) (.tmp 52) (by kernel_rfl) (by kernel_rfl) (by kernel_rfl) hS (by kernel_rfl) (by kernel_rfl) (by kernel_rfl) rfl rfl (fun w125 hS => ?_))
            refine ⟨(asked.anc (by kernel_rfl) (asked.anc (by kernel_rfl) (asked.nil _ _))), ?_⟩
            refine WD.weaken [0, 1, 5] (L' := [(0, .pointer (some ⟨b0, 0, none⟩)), (1, .int .i64 a1), (5, .pointer (some ⟨b63, 0, none⟩))]) (by kernel_rfl) ?_
            refine WD.nil (by kernel_rfl) ?_
            refine At.go ?_
            refine WC.seq (by kernel_rfl) ?_
            refine WC.reg [0, 1, 2, 3, 4, 5, 6, 7, 8] (by kernel_rfl) (by kernel_rfl) ?_
            refine WR.runk [0, 1, 2] [3, 4, 5, 6, 7, 8] [0, 1, 5, 55, 57] (L' := [(0, .pointer (some ⟨b0, 0, none⟩)), (1, .int .i64 a1), (5, .pointer (some ⟨b63, 0, none⟩)), (55, .pointer (some ⟨b63, 0, none⟩)), (57, .pointer (some ⟨b63, 1, none⟩))]) (w' := w125) (by kernel_rfl) ?_
            refine WR.st (St.ofR (RSt.loadObj (t := 3) (k := 1) (v := .int .i64 y62.2.1) (.tmp 57) (by kernel_rfl) (by kernel_rfl) (by kernel_rfl) 0 hS rfl (by kernel_rfl) rfl ?_))
            refine WR.runk [4, 5, 6, 7] [8] [0, 1, 5, 60, 62] (L' := [(0, .pointer (some ⟨b0, 0, none⟩)), (1, .int .i64 a1), (5, .pointer (some ⟨b63, 0, none⟩)), (60, .int .i64 (wi (y62.2.1 - a1))), (62, .pointer (some ⟨b63, 1, none⟩))]) (w' := w125) (by kernel_rfl) ?_
            refine WR.st (St.storeObj (t := 3) (k := 1) (cur' := #[.int .i64 y62.1, .int .i64 (wi (y62.2.1 - a1)), .int .i64 y62.2.2.1, .slice A122 y121.length c123]) (.tmp 62) (.tmp 60) (by kernel_rfl) (by kernel_rfl) (by kernel_rfl) hS (by kernel_rfl) (by kernel_rfl) (by kernel_rfl) rfl rfl (fun w126 hS => ?_))
            refine WR.runk [] [] [0, 1, 5] (L' := [(0, .pointer (some ⟨b0, 0, none⟩)), (1, .int .i64 a1), (5, .pointer (some ⟨b63, 0, none⟩))]) (w' := w126) (by kernel_rfl) ?_
            refine WR.nil ?_
            refine At.go ?_
            refine WC.seq (by kernel_rfl) ?_
            refine WC.reg [0, 1, 2, 3, 4, 5, 6, 7, 8] (by kernel_rfl) (by kernel_rfl) ?_
            refine WR.runk [0, 1, 2] [3, 4, 5, 6, 7, 8] [0, 1, 63, 65] (L' := [(0, .pointer (some ⟨b0, 0, none⟩)), (1, .int .i64 a1), (63, .pointer (some ⟨b63, 0, none⟩)), (65, .pointer (some ⟨b63, 2, none⟩))]) (w' := w126) (by kernel_rfl) ?_
            refine WR.st (St.ofR (RSt.loadObj (t := 3) (k := 2) (v := .int .i64 y62.2.2.1) (.tmp 65) (by kernel_rfl) (by kernel_rfl) (by kernel_rfl) 0 hS rfl (by kernel_rfl) rfl ?_))
            refine WR.runk [4, 5, 6, 7] [8] [0, 68, 70] (L' := [(0, .pointer (some ⟨b0, 0, none⟩)), (68, .int .i64 (wi (y62.2.2.1 + a1))), (70, .pointer (some ⟨b63, 2, none⟩))]) (w' := w126) (by kernel_rfl) ?_
            refine WR.st (St.storeObj (t := 3) (k := 2) (cur' := #[.int .i64 y62.1, .int .i64 (wi (y62.2.1 - a1)), .int .i64 (wi (y62.2.2.1 + a1)), .slice A122 y121.length c123]) (.tmp 70) (.tmp 68) (by kernel_rfl) (by kernel_rfl) (by kernel_rfl) hS (by kernel_rfl) (by kernel_rfl) (by kernel_rfl) rfl rfl (fun w127 hS => ?_))
            refine WR.runk [] [] [0] (L' := [(0, .pointer (some ⟨b0, 0, none⟩))]) (w' := w127) (by kernel_rfl) ?_
            refine WR.nil ?_
            refine At.go ?_
            refine WC.seq (by kernel_rfl) ?_
            refine WC.reg [0, 1, 2, 3] (by kernel_rfl) (by kernel_rfl) ?_
            refine WR.runk [0, 1, 2] [3] [73] (L' := [(73, .pointer (some ⟨b0, 5, none⟩))]) (w' := w127) (by kernel_rfl) ?_
            have hS : Sat w127 B [pts b0 (.cells #[.int .i64 p0.1, .slice A1 p0.2.1.length c2, .int .i64 p0.2.2.1, .bool p0.2.2.2.1, .int .i64 p0.2.2.2.2.1, .bool p0.2.2.2.2.2] 46 (0, 0)), pts b63 (.cells #[.int .i64 y62.1, .int .i64 (wi (y62.2.1 - a1)), .int .i64 (wi (y62.2.2.1 + a1)), .slice A122 y121.length c123] 50 (0, 0)), osl 55 (r0 (.pair (.int .i64) .bool)) 2 A122 c123 y121, pts b107 (.cells #[.int .i64 v72.1, .bool v72.2] 55 (0, 0)), orh 47 (Ept O50) 1 A1 c2 css12 ((o53.1).toNat) p0.2.1, pts b74 (.cells #[.int .i64 v72.1, .bool v72.2] 55 (0, 0)), pts b6 (.cells #[.int .i64 p0.2.2.2.2.1] 3 (0, 0))] := hS.sel [6, 0, 1, 2, 3, 4, 5] (by kernel_rfl)
            refine WR.st (St.storeObj (t := 4) (k := 5) (cur' := #[.int .i64 p0.1, .slice A1 p0.2.1.length c2, .int .i64 p0.2.2.1, .bool p0.2.2.2.1, .int .i64 p0.2.2.2.2.1, .bool false]) (.tmp 73) (.const (.bool false)) (by kernel_rfl) (by kernel_rfl) (by kernel_rfl) hS (by kernel_rfl) (by kernel_rfl) (by kernel_rfl) rfl rfl (fun w128 hS => ?_))
            refine WR.runk [] [] [] (L' := []) (w' := w128) (by kernel_rfl) ?_
            refine WR.nil ?_
            refine At.go ?_
            refine WC.seq (by kernel_rfl) ?_
            refine WC.reg [0] (by kernel_rfl) (by kernel_rfl) ?_
            refine WR.runk [0] [] [4] (L' := [(4, .bool true)]) (w' := w128) (by kernel_rfl) ?_
            refine WR.nil ?_
            refine At.go ?_
            refine WC.ret (by kernel_rfl) ?_
            obtain rfl := Option.some.inj H
            have hS : Sat w128 B [pts b63 (.cells #[.int .i64 y62.1, .int .i64 (wi (y62.2.1 - a1)), .int .i64 (wi (y62.2.2.1 + a1)), .slice A122 y121.length c123] 50 (0, 0)), osl 55 (r0 (.pair (.int .i64) .bool)) 2 A122 c123 y121, pts b0 (.cells #[.int .i64 p0.1, .slice A1 p0.2.1.length c2, .int .i64 p0.2.2.1, .bool p0.2.2.2.1, .int .i64 p0.2.2.2.2.1, .bool false] 46 (0, 0)), pts b107 (.cells #[.int .i64 v72.1, .bool v72.2] 55 (0, 0)), orh 47 (Ept O50) 1 A1 c2 css12 ((o53.1).toNat) p0.2.1, pts b74 (.cells #[.int .i64 v72.1, .bool v72.2] 55 (0, 0)), pts b6 (.cells #[.int .i64 p0.2.2.2.2.1] 3 (0, 0))] := hS.sel [1, 2, 0, 3, 4, 5, 6] (by kernel_rfl)
            have hS : Sat w128 B [O50 b63 (y62.1, wi (y62.2.1 - a1), wi (y62.2.2.1 + a1), y121), pts b0 (.cells #[.int .i64 p0.1, .slice A1 p0.2.1.length c2, .int .i64 p0.2.2.1, .bool p0.2.2.2.1, .int .i64 p0.2.2.2.2.1, .bool false] 46 (0, 0)), pts b107 (.cells #[.int .i64 v72.1, .bool v72.2] 55 (0, 0)), orh 47 (Ept O50) 1 A1 c2 css12 ((o53.1).toNat) p0.2.1, pts b74 (.cells #[.int .i64 v72.1, .bool v72.2] 55 (0, 0)), pts b6 (.cells #[.int .i64 p0.2.2.2.2.1] 3 (0, 0))] := O50.close (y62.1, wi (y62.2.1 - a1), wi (y62.2.2.1 + a1), y121) A122 c123 hS
            have hS : Sat w128 B [orh 47 (Ept O50) 1 A1 c2 css12 ((o53.1).toNat) p0.2.1, O50 b63 (y62.1, wi (y62.2.1 - a1), wi (y62.2.2.1 + a1), y121), pts b0 (.cells #[.int .i64 p0.1, .slice A1 p0.2.1.length c2, .int .i64 p0.2.2.1, .bool p0.2.2.2.1, .int .i64 p0.2.2.2.2.1, .bool false] 46 (0, 0)), pts b107 (.cells #[.int .i64 v72.1, .bool v72.2] 55 (0, 0)), pts b74 (.cells #[.int .i64 v72.1, .bool v72.2] 55 (0, 0)), pts b6 (.cells #[.int .i64 p0.2.2.2.2.1] 3 (0, 0))] := hS.sel [3, 0, 1, 2, 4, 5] (by kernel_rfl)
            have hS : Sat w128 B [orw 47 (Ept O50) 1 A1 c2 (List.set p0.2.1 ((o53.1).toNat) (some (y62.1, wi (y62.2.1 - a1), wi (y62.2.2.1 + a1), y121))), pts b0 (.cells #[.int .i64 p0.1, .slice A1 p0.2.1.length c2, .int .i64 p0.2.2.1, .bool p0.2.2.2.1, .int .i64 p0.2.2.2.2.1, .bool false] 46 (0, 0)), pts b107 (.cells #[.int .i64 v72.1, .bool v72.2] 55 (0, 0)), pts b74 (.cells #[.int .i64 v72.1, .bool v72.2] 55 (0, 0)), pts b6 (.cells #[.int .i64 p0.2.2.2.2.1] 3 (0, 0))] := Sat.fillP hS C71
            have hl130 : List.length (List.set p0.2.1 ((o53.1).toNat) (some (y62.1, wi (y62.2.1 - a1), wi (y62.2.2.1 + a1), y121))) = List.length p0.2.1 := List.length_set
            have hS : Sat w128 B [orw 47 (Ept O50) 1 A1 c2 (List.set p0.2.1 ((o53.1).toNat) (some (y62.1, wi (y62.2.1 - a1), wi (y62.2.2.1 + a1), y121))), pts b0 (.cells #[.int .i64 p0.1, .slice A1 (List.set p0.2.1 ((o53.1).toNat) (some (y62.1, wi (y62.2.1 - a1), wi (y62.2.2.1 + a1), y121))).length c2, .int .i64 p0.2.2.1, .bool p0.2.2.2.1, .int .i64 p0.2.2.2.2.1, .bool false] 46 (0, 0)), pts b107 (.cells #[.int .i64 v72.1, .bool v72.2] 55 (0, 0)), pts b74 (.cells #[.int .i64 v72.1, .bool v72.2] 55 (0, 0)), pts b6 (.cells #[.int .i64 p0.2.2.2.2.1] 3 (0, 0))] := by simpa only [hl130] using hS
            have hS : Sat w128 B [pts b0 (.cells #[.int .i64 p0.1, .slice A1 (List.set p0.2.1 ((o53.1).toNat) (some (y62.1, wi (y62.2.1 - a1), wi (y62.2.2.1 + a1), y121))).length c2, .int .i64 p0.2.2.1, .bool p0.2.2.2.1, .int .i64 p0.2.2.2.2.1, .bool false] 46 (0, 0)), orw 47 (Ept O50) 1 A1 c2 (List.set p0.2.1 ((o53.1).toNat) (some (y62.1, wi (y62.2.1 - a1), wi (y62.2.2.1 + a1), y121))), pts b107 (.cells #[.int .i64 v72.1, .bool v72.2] 55 (0, 0)), pts b74 (.cells #[.int .i64 v72.1, .bool v72.2] 55 (0, 0)), pts b6 (.cells #[.int .i64 p0.2.2.2.2.1] 3 (0, 0))] := hS.sel [1, 0, 2, 3, 4] (by kernel_rfl)
            have hS : Sat w128 B [O46 b0 (p0.1, (List.set p0.2.1 ((o53.1).toNat) (some (y62.1, wi (y62.2.1 - a1), wi (y62.2.2.1 + a1), y121))), p0.2.2.1, p0.2.2.2.1, p0.2.2.2.2.1, false), pts b107 (.cells #[.int .i64 v72.1, .bool v72.2] 55 (0, 0)), pts b74 (.cells #[.int .i64 v72.1, .bool v72.2] 55 (0, 0)), pts b6 (.cells #[.int .i64 p0.2.2.2.2.1] 3 (0, 0))] := O46.close (p0.1, (List.set p0.2.1 ((o53.1).toNat) (some (y62.1, wi (y62.2.1 - a1), wi (y62.2.2.1 + a1), y121))), p0.2.2.1, p0.2.2.2.1, p0.2.2.2.2.1, false) A1 c2 hS
            have hS : Sat w128 B [O46 b0 (p0.1, (List.set p0.2.1 ((o53.1).toNat) (some (y62.1, wi (y62.2.1 - a1), wi (y62.2.2.1 + a1), y121))), p0.2.2.1, p0.2.2.2.1, p0.2.2.2.2.1, false)] := hS.sel [0] (by kernel_rfl)
            exact At.body [.bool true] (by kernel_rfl) ⟨_, rfl, rfl, hS⟩
        · subst ho134
          dsimp only at H
          refine At.hit ?_
          refine At.go ?_
          refine WC.seq (by kernel_rfl) ?_
          refine WC.reg [0, 1] (by kernel_rfl) (by kernel_rfl) ?_
          refine WR.runk [0, 1] [] [4, 5] (L' := [(4, .pointer none), (5, .int .i64 (-1))]) (w' := w133) (by kernel_rfl) ?_
          refine WR.nil ?_
          refine At.go ?_
          refine WC.ret (by kernel_rfl) ?_
          refine At.bodyK [.pointer none, .int .i64 (-1)] (.tuple #[.pointer none, .int .i64 (-1)]) (by kernel_rfl) rfl ?_
          refine WR.runk [6, 7, 8, 9, 10] [] [0, 1, 5, 6] (L' := [(0, .pointer (some ⟨b0, 0, none⟩)), (1, .int .i64 a1), (5, .pointer none), (6, .int .i64 (-1))]) (w' := w133) (by kernel_rfl) ?_
          refine WR.nil ?_
          refine At.go ?_
          refine WC.seq (by kernel_rfl) ?_
          refine WC.reg [0, 1, 2, 3, 4, 5, 6, 7, 8] (by kernel_rfl) (by kernel_rfl) ?_
          refine WR.runk [0] [1, 2, 3, 4, 5, 6, 7, 8] [0, 1, 5, 6, 34] (L' := [(0, .pointer (some ⟨b0, 0, none⟩)), (1, .int .i64 a1), (5, .pointer none), (6, .int .i64 (-1)), (34, .pointer none)]) (w' := w133) (by kernel_rfl) ?_
          exact absurd (show none = some _ from H) (by simp)
/-! ### 12 (*colophon/fair.Ring).Spent -/
def fair_Ring_Spent.f (p0 : Option (Int × (List (Option (Int × Int × Int × (List (Int × Bool))))) × Int × Bool × Int × Bool)) (a1 : Int) : Option Int := (match p0 with | none => some 0 | some y3 => (if decide (a1 < 0) then some 0 else (if decide (a1 ≥ (y3.2.1.length : Int)) then some 0 else ((at? y3.2.1 a1).bind fun v14 => (match v14 with | none => some 0 | some y20 => some y20.2.2.1)))))
def fair_Ring_Spent.post (w : World) (r : Int) (v : Value) (w' : World) : Prop := v = (.int .i64 r : Value) ∧ Sat w' (rf w) []
theorem fair_Ring_Spent.calls (w0 : World) (v0 : Value) (p0 : Option (Int × (List (Option (Int × Int × Int × (List (Int × Bool))))) × Int × Bool × Int × Bool)) (R0 : rd (hp w0) (.ptr 46 (.pair (.int .i64) (.pair (.slice 47 (.ptr 50 (.pair (.int .i64) (.pair (.int .i64) (.pair (.int .i64) (.slice 55 (.pair (.int .i64) .bool))))))) (.pair (.int .i64) (.pair .bool (.pair (.int .i64) .bool)))))) [v0] p0) (a1 : Int) (r : Int) (H : fair_Ring_Spent.f p0 a1 = some r) :
    Calls Try.prog 12 #[v0, .int .i64 a1] w0 (fun e w' => ∃ v, e = .returned v ∧ fair_Ring_Spent.post w0 r v w') := by
  have hS : Sat w0 (rf w0) [] := Sat.start w0
  unfold fair_Ring_Spent.f at H
  refine calls_of_WC (vs := [v0, .int .i64 a1]) Try.func12 (c := C12) (n := 15) (by kernel_rfl) (by kernel_rfl) (by kernel_rfl) ?_
  refine WC.seq (by kernel_rfl) ?_
  refine WC.reg [0] (by kernel_rfl) (by kernel_rfl) ?_
  refine WR.runk [0] [] [0, 1] (L' := [(0, v0), (1, .int .i64 a1)]) (w' := w0) (by kernel_rfl) ?_
  refine WR.nil ?_
  refine At.go ?_
  refine WC.seq (by kernel_rfl) ?_
  refine WC.seq (by kernel_rfl) ?_
  refine WC.reg [0, 1, 2, 3] (by kernel_rfl) (by kernel_rfl) ?_
  refine WR.runk [0, 1] [2, 3] [6, 7] (L' := [(6, v0), (7, .int .i64 a1)]) (w' := w0) (by kernel_rfl) ?_
  refine WR.st (St.call (by kernel_rfl) (f := 16) (args := #[v0, .int .i64 a1]) (by kernel_rfl) (calls_of_WC (vs := [v0, .int .i64 a1]) Try.func16 (c := C16) (n := 27) (by kernel_rfl) (by kernel_rfl) (by kernel_rfl) ?_) (fun _ _ h => h))
  refine WC.seq (by kernel_rfl) ?_
  refine WC.reg [0] (by kernel_rfl) (by kernel_rfl) ?_
  refine WR.runk [0] [] [0, 1] (L' := [(0, v0), (1, .int .i64 a1)]) (w' := w0) (by kernel_rfl) ?_
  refine WR.nil ?_
  refine At.go ?_
  refine WC.seq (by kernel_rfl) ?_
  refine WC.seq (by kernel_rfl) ?_
  refine WC.reg [0, 1, 2, 3, 4, 5, 6, 7, 8, 9, 10, 11, 12, 13, 14] (by kernel_rfl) (by kernel_rfl) ?_
  refine WR.runk [0] [1, 2, 3, 4, 5, 6, 7, 8, 9, 10, 11, 12, 13, 14] [0, 1, 5] (L' := [(0, v0), (1, .int .i64 a1), (5, v0)]) (w' := w0) (by kernel_rfl) ?_
  rcases opt_cases p0 with hr1 | ⟨y3, hr1⟩
  · rw [hr1] at H
    dsimp only at H
    have hx2 := rd_ptr_none R0 hr1
    try subst hx2
    refine WR.runk [1, 2, 3, 4, 5, 6, 7, 8, 9, 10, 11, 12, 13, 14] [] [0, 1, 19] (L' := [(0, .pointer none), (1, .int .i64 a1), (19, .bool true)]) (w' := w0) (by kernel_rfl) ?_
    refine WR.nil ?_
    refine At.go ?_
    refine WC.condT (by kernel_rfl) (by kernel_rfl) (by kernel_rfl) ?_
    refine WC.seq (by kernel_rfl) ?_
    refine WC.reg [0] (by kernel_rfl) (by kernel_rfl) ?_
    refine WR.runk [0] [] [4] (L' := [(4, .pointer none)]) (w' := w0) (by kernel_rfl) ?_
    refine WR.nil ?_
    refine At.go ?_
    refine WC.ret (by kernel_rfl) ?_
    refine At.thenRet ?_
    refine At.bodyK [.pointer none] (.pointer none) (by kernel_rfl) rfl ?_
    refine WR.runk [3] [] [5] (L' := [(5, .pointer none)]) (w' := w0) (by kernel_rfl) ?_
    refine WR.nil ?_
    refine At.go ?_
    refine WC.seq (by kernel_rfl) ?_
    refine WC.reg [0, 1] (by kernel_rfl) (by kernel_rfl) ?_
    refine WR.runk [0, 1] [] [5, 10] (L' := [(5, .pointer none), (10, .bool false)]) (w' := w0) (by kernel_rfl) ?_
    refine WR.nil ?_
    refine At.go ?_
    refine WC.condF (by kernel_rfl) (by kernel_rfl) (by kernel_rfl) ?_
    refine WC.skip (by kernel_rfl) ?_
    refine At.go ?_
    refine WC.seq (by kernel_rfl) ?_
    refine WC.reg [0] (by kernel_rfl) (by kernel_rfl) ?_
    refine WR.runk [0] [] [4] (L' := [(4, .int .i64 0)]) (w' := w0) (by kernel_rfl) ?_
    refine WR.nil ?_
    refine At.go ?_
    refine WC.ret (by kernel_rfl) ?_
    obtain rfl := Option.some.inj H
    have hS : Sat w0 (rf w0) [] := hS.sel [] (by kernel_rfl)
    exact At.body [.int .i64 0] (by kernel_rfl) ⟨_, rfl, rfl, hS⟩
  · rw [hr1] at H
    dsimp only at H
    obtain ⟨b4, fr5, A9, c10, hv6, hb7, R11⟩ := P46.open R0 hr1
    have R8 := R0
    rw [hv6, hr1] at R8
    try subst hv6
    replace R11 : rdS (rd (hp w0) (.ptr 50 (.pair (.int .i64) (.pair (.int .i64) (.pair (.int .i64) (.slice 55 (.pair (.int .i64) .bool))))))) 1 (hp w0) A9 c10 y3.2.1 := R11
    refine WR.runk [1, 2, 3, 4, 5, 6] [7, 8, 9, 10, 11, 12, 13, 14] [0, 1, 11] (L' := [(0, .pointer (some ⟨b4, 0, none⟩)), (1, .int .i64 a1), (11, .bool (decide (a1 < 0)))]) (w' := w0) (by kernel_rfl) ?_
    refine WR.split 11 (b := decide (a1 < 0)) (by kernel_rfl) (fun hb12 => ?_) (fun hb12 => ?_)
    · replace H := ite_t H hb12
      refine WR.runk [7, 8, 9, 10, 11, 12, 13, 14] [] [0, 1, 19] (L' := [(0, .pointer (some ⟨b4, 0, none⟩)), (1, .int .i64 a1), (19, .bool true)]) (w' := w0) (by kernel_rfl) ?_
      refine WR.nil ?_
      refine At.go ?_
      refine WC.condT (by kernel_rfl) (by kernel_rfl) (by kernel_rfl) ?_
      refine WC.seq (by kernel_rfl) ?_
      refine WC.reg [0] (by kernel_rfl) (by kernel_rfl) ?_
      refine WR.runk [0] [] [4] (L' := [(4, .pointer none)]) (w' := w0) (by kernel_rfl) ?_
      refine WR.nil ?_
      refine At.go ?_
      refine WC.ret (by kernel_rfl) ?_
      refine At.thenRet ?_
      refine At.bodyK [.pointer none] (.pointer none) (by kernel_rfl) rfl ?_
      refine WR.runk [3] [] [5] (L' := [(5, .pointer none)]) (w' := w0) (by kernel_rfl) ?_
      refine WR.nil ?_
      refine At.go ?_
      refine WC.seq (by kernel_rfl) ?_
      refine WC.reg [0, 1] (by kernel_rfl) (by kernel_rfl) ?_
      refine WR.runk [0, 1] [] [5, 10] (L' := [(5, .pointer none), (10, .bool false)]) (w' := w0) (by kernel_rfl) ?_
      refine WR.nil ?_
      refine At.go ?_
      refine WC.condF (by kernel_rfl) (by kernel_rfl) (by kernel_rfl) ?_
      refine WC.skip (by kernel_rfl) ?_
      refine At.go ?_
      refine WC.seq (by kernel_rfl) ?_
      refine WC.reg [0] (by kernel_rfl) (by kernel_rfl) ?_
      refine WR.runk [0] [] [4] (L' := [(4, .int .i64 0)]) (w' := w0) (by kernel_rfl) ?_
      refine WR.nil ?_
      refine At.go ?_
      refine WC.ret (by kernel_rfl) ?_
      obtain rfl := Option.some.inj H
      have hS : Sat w0 (rf w0) [] := hS.sel [] (by kernel_rfl)
      exact At.body [.int .i64 0] (by kernel_rfl) ⟨_, rfl, rfl, hS⟩
    · replace H := ite_f H hb12
      refine WR.runk [7, 8, 9, 10] [11, 12, 13, 14] [0, 1, 11, 12, 15] (L' := [(0, .pointer (some ⟨b4, 0, none⟩)), (1, .int .i64 a1), (11, .bool false), (12, .int .i64 a1), (15, .pointer (some ⟨b4, 1, none⟩))]) (w' := w0) (by kernel_rfl) ?_
      refine WR.st (St.ofR (RSt.loadRo (t := 44) (k := 1) (v := .slice A9 y3.2.1.length c10) (.tmp 15) (by kernel_rfl) (by kernel_rfl) (by kernel_rfl) hS.sub0 hb7 (by kernel_rfl) rfl ?_))
      refine WR.runk [12, 13, 14] [] [0, 1, 19] (L' := [(0, .pointer (some ⟨b4, 0, none⟩)), (1, .int .i64 a1), (19, .bool (decide (a1 ≥ (y3.2.1.length : Int))))]) (w' := w0) (by kernel_rfl) ?_
      refine WR.nil ?_
      refine At.go ?_
      refine WC.cond (by kernel_rfl) (decide (a1 ≥ (y3.2.1.length : Int))) (by kernel_rfl) (by kernel_rfl) (fun hb13 => ?_) (fun hb13 => ?_)
      · replace H := ite_t H hb13
        refine WC.seq (by kernel_rfl) ?_
        refine WC.reg [0] (by kernel_rfl) (by kernel_rfl) ?_
        refine WR.runk [0] [] [4] (L' := [(4, .pointer none)]) (w' := w0) (by kernel_rfl) ?_
        refine WR.nil ?_
        refine At.go ?_
        refine WC.ret (by kernel_rfl) ?_
        refine At.thenRet ?_
        refine At.bodyK [.pointer none] (.pointer none) (by kernel_rfl) rfl ?_
        refine WR.runk [3] [] [5] (L' := [(5, .pointer none)]) (w' := w0) (by kernel_rfl) ?_
        refine WR.nil ?_
        refine At.go ?_
        refine WC.seq (by kernel_rfl) ?_
        refine WC.reg [0, 1] (by kernel_rfl) (by kernel_rfl) ?_
        refine WR.runk [0, 1] [] [5, 10] (L' := [(5, .pointer none), (10, .bool false)]) (w' := w0) (by kernel_rfl) ?_
        refine WR.nil ?_
        refine At.go ?_
        refine WC.condF (by kernel_rfl) (by kernel_rfl) (by kernel_rfl) ?_
        refine WC.skip (by kernel_rfl) ?_
        refine At.go ?_
        refine WC.seq (by kernel_rfl) ?_
        refine WC.reg [0] (by kernel_rfl) (by kernel_rfl) ?_
        refine WR.runk [0] [] [4] (L' := [(4, .int .i64 0)]) (w' := w0) (by kernel_rfl) ?_
        refine WR.nil ?_
        refine At.go ?_
        refine WC.ret (by kernel_rfl) ?_
        obtain rfl := Option.some.inj H
        have hS : Sat w0 (rf w0) [] := hS.sel [] (by kernel_rfl)
        exact At.body [.int .i64 0] (by kernel_rfl) ⟨_, rfl, rfl, hS⟩
      · replace H := ite_f H hb13
        refine WC.skip (by kernel_rfl) ?_
        refine At.go ?_
        refine WC.seq (by kernel_rfl) ?_
        refine WC.reg [0, 1, 2, 3, 4, 5, 6, 7] (by kernel_rfl) (by kernel_rfl) ?_
        refine WR.runk [0, 1, 2] [3, 4, 5, 6, 7] [1, 22] (L' := [(1, .int .i64 a1), (22, .pointer (some ⟨b4, 1, none⟩))]) (w' := w0) (by kernel_rfl) ?_
        refine WR.st (St.ofR (RSt.loadRo (t := 44) (k := 1) (v := .slice A9 y3.2.1.length c10) (.tmp 22) (by kernel_rfl) (by kernel_rfl) (by kernel_rfl) hS.sub0 hb7 (by kernel_rfl) rfl ?_))
        refine WR.runk [4] [5, 6, 7] [23, 24] (L' := [(23, .slice A9 y3.2.1.length c10), (24, .int .i64 a1)]) (w' := w0) (by kernel_rfl) ?_
        obtain ⟨v14, e15, H⟩ := bind_ex H
        refine WR.st (St.ofP (PSt.idx (k := .i64) (.tmp 23) (.tmp 24) (by kernel_rfl) (by kernel_rfl) E44 (by kernel_rfl) (by kernel_rfl) (rdS.up R11 hS.sub0) e15 ?_))
        refine WR.runk [] [6, 7] [25] (L' := [(25, .pointer (some (adr A9 a1.toNat 1)))]) (w' := w0) (by kernel_rfl) ?_
        refine WR.st (St.ofR (RSt.loadPtr (t := 47) (.tmp 25) (by kernel_rfl) (by kernel_rfl) (by kernel_rfl) (by kernel_rfl) R11 e15 hS.sub0 (fun u16 R17 => ?_)))
        replace R17 : rd (hp w0) (.ptr 50 (.pair (.int .i64) (.pair (.int .i64) (.pair (.int .i64) (.slice 55 (.pair (.int .i64) .bool)))))) [u16] v14 := R17
        refine WR.runk [7] [] [4] (L' := [(4, u16)]) (w' := w0) (by kernel_rfl) ?_
        refine WR.nil ?_
        refine At.go ?_
        refine WC.ret (by kernel_rfl) ?_
        refine At.bodyK [u16] (u16) (by kernel_rfl) rfl ?_
        refine WR.runk [3] [] [5] (L' := [(5, u16)]) (w' := w0) (by kernel_rfl) ?_
        refine WR.nil ?_
        refine At.go ?_
        refine WC.seq (by kernel_rfl) ?_
        refine WC.reg [0, 1] (by kernel_rfl) (by kernel_rfl) ?_
        refine WR.runk [0] [1] [5, 9] (L' := [(5, u16), (9, u16)]) (w' := w0) (by kernel_rfl) ?_
        rcases opt_cases v14 with hr18 | ⟨y20, hr18⟩
        · rw [hr18] at H
          dsimp only at H
          have hx19 := rd_ptr_none R17 hr18
          try subst hx19
          refine WR.runk [1] [] [5, 10] (L' := [(5, .pointer none), (10, .bool false)]) (w' := w0) (by kernel_rfl) ?_
          refine WR.nil ?_
          refine At.go ?_
          refine WC.condF (by kernel_rfl) (by kernel_rfl) (by kernel_rfl) ?_
          refine WC.skip (by kernel_rfl) ?_
          refine At.go ?_
          refine WC.seq (by kernel_rfl) ?_
          refine WC.reg [0] (by kernel_rfl) (by kernel_rfl) ?_
          refine WR.runk [0] [] [4] (L' := [(4, .int .i64 0)]) (w' := w0) (by kernel_rfl) ?_
          refine WR.nil ?_
          refine At.go ?_
          refine WC.ret (by kernel_rfl) ?_
          obtain rfl := Option.some.inj H
          have hS : Sat w0 (rf w0) [] := hS.sel [] (by kernel_rfl)
          exact At.body [.int .i64 0] (by kernel_rfl) ⟨_, rfl, rfl, hS⟩
        · rw [hr18] at H
          dsimp only at H
          obtain ⟨b21, fr22, A26, c27, hv23, hb24, R28⟩ := P50.open R17 hr18
          have R25 := R17
          rw [hv23, hr18] at R25
          try subst hv23
          replace R28 : rdS (r0 (.pair (.int .i64) .bool)) 2 (hp w0) A26 c27 y20.2.2.2 := R28
          refine WR.runk [1] [] [5, 10] (L' := [(5, .pointer (some ⟨b21, 0, none⟩)), (10, .bool true)]) (w' := w0) (by kernel_rfl) ?_
          refine WR.nil ?_
          refine At.go ?_
          refine WC.condT (by kernel_rfl) (by kernel_rfl) (by kernel_rfl) ?_
          refine WC.seq (by kernel_rfl) ?_
          refine WC.reg [0, 1, 2, 3, 4] (by kernel_rfl) (by kernel_rfl) ?_
          refine WR.runk [0, 1, 2] [3, 4] [13] (L' := [(13, .pointer (some ⟨b21, 2, none⟩))]) (w' := w0) (by kernel_rfl) ?_
          refine WR.st (St.ofR (RSt.loadRo (t := 3) (k := 2) (v := .int .i64 y20.2.2.1) (.tmp 13) (by kernel_rfl) (by kernel_rfl) (by kernel_rfl) hS.sub0 hb24 (by kernel_rfl) rfl ?_))
          refine WR.runk [4] [] [4] (L' := [(4, .int .i64 y20.2.2.1)]) (w' := w0) (by kernel_rfl) ?_
          refine WR.nil ?_
          refine At.go ?_
          refine WC.ret (by kernel_rfl) ?_
          refine At.thenRet ?_
          obtain rfl := Option.some.inj H
          have hS : Sat w0 (rf w0) [] := hS.sel [] (by kernel_rfl)
          exact At.body [.int .i64 y20.2.2.1] (by kernel_rfl) ⟨_, rfl, rfl, hS⟩
/-! ### 7 colophon/colophonlaw23.first -/
def colophonlaw23_first.l1 : Nat → Int → (Int × (List (Option (Int × Int × Int × (List (Int × Bool))))) × Int × Bool × Int × Bool) → Option (Sum (Bool × (Int × (List (Option (Int × Int × Int × (List (Int × Bool))))) × Int × Bool × Int × Bool)) (Int × (List (Option (Int × Int × Int × (List (Int × Bool))))) × Int × Bool × Int × Bool))
  | 0, _, _ => none
  | k + 1, x48_l1, q29_l1 => (if decide (x48_l1 < 10) then ((at? ([7, 7, 7, 8, 8, 8, 8, 8, 8, 7] : List Int) x48_l1).bind fun v65 => ((fair_Ring_Next.f q29_l1).bind fun r67 => (if (!r67.2.2.1) then some (.inl (false, r67.2.2.2)) else (if (r67.2.1 != v65) then some (.inl (false, r67.2.2.2)) else ((fair_Ring_Charge.f r67.2.2.2 1).bind fun r78 => (if (!r78.1) then some (.inl (false, r78.2)) else colophonlaw23_first.l1 k (wi (x48_l1 + 1)) r78.2)))))) else some (.inr q29_l1))
def colophonlaw23_first.f : Option Bool := ((fair_New.f 3 ([1, 2] : List Int)).bind fun r3 => ((fair_New.f 0 ([1] : List Int)).bind fun r15 => (match r3.1 with | none => some false | some y25 => (if (r3.2 != 0) then some false else (if (r15.2 != 2) then some false else ((fair_Ring_Add.f y25 0 7).bind fun r32 => (if (!r32.1) then some false else ((fair_Ring_Add.f r32.2 1 8).bind fun r42 => (if (!r42.1) then some false else ((fair_Ring_Add.f r42.2 0 8).bind fun r52 => (if r52.1 then some false else ((colophonlaw23_first.l1 FU 0 r52.2).bind fun o88 => (match o88 with | .inl o90 => some o90.1 | .inr o94 => ((fair_Ring_Spent.f (some o94) 0).bind fun r98 => (if (r98 == 4) then ((fair_Ring_Spent.f (some o94) 1).bind fun r108 => (if (r108 == 6) then ((fair_Ring_Charge.f o94 1).bind fun r118 => some (!r118.1)) else some false)) else some false)))))))))))))))
def colophonlaw23_first.post (w : World) (r : Bool) (v : Value) (w' : World) : Prop := v = (.bool r : Value) ∧ Sat w' (rf w) []
theorem colophonlaw23_first.l1_ok {Q} (w0 : World) (b28 : Nat) (b62 : Nat) (out : Sum (Bool × (Int × (List (Option (Int × Int × Int × (List (Int × Bool))))) × Int × Bool × Int × Bool)) (Int × (List (Option (Int × Int × Int × (List (Int × Bool))))) × Int × Bool × Int × Bool)) (hn0 : ∀ (o0 : Bool × (Int × (List (Option (Int × Int × Int × (List (Int × Bool))))) × Int × Bool × Int × Bool)) (w : World), out = (.inl o0) → Sat w (rf w0) [O46 b28 o0.2] → At Q .ret 84 [(0, .bool o0.1)] w) (hn1 : ∀ (o1 : (Int × (List (Option (Int × Int × Int × (List (Int × Bool))))) × Int × Bool × Int × Bool)) (w : World), out = (.inr o1) → Sat w (rf w0) [O46 b28 o1] → At Q (.exit 0) 84 [(1, .pointer (some ⟨b28, 0, none⟩))] w) :
    ∀ (k : Nat) (x48_l1 : Int) (q29_l1 : Int × (List (Option (Int × Int × Int × (List (Int × Bool))))) × Int × Bool × Int × Bool) (w : World), Sat w (rf w0) [osl 3 (r0 (.int .i64)) 1 (some ⟨b62, 0, none⟩) ([7, 7, 7, 8, 8, 8, 8, 8, 8, 7] : List Int).length ([7, 7, 7, 8, 8, 8, 8, 8, 8, 7] : List Int), O46 b28 q29_l1] → colophonlaw23_first.l1 k x48_l1 q29_l1 = some out → WL Try.prog (cbody (cbody (cr (cl (cr (cr (cr (cr (cr C7))))))))) Q 84 [(1, .pointer (some ⟨b28, 0, none⟩)), (46, .slice (some ⟨b62, 0, none⟩) 10 10), (47, .int .i64 10), (48, .int .i64 x48_l1)] w := by
  intro k
  induction k with
  | zero => intro x48_l1 q29_l1 w hS H; exact absurd (show none = some out from H) (by simp)
  | succ k ih =>
    intro x48_l1 q29_l1 w hS H
    unfold colophonlaw23_first.l1 at H
    refine WL.round ?_
    refine WC.seq (by kernel_rfl) ?_
    refine WC.reg [0] (by kernel_rfl) (by kernel_rfl) ?_
    refine WR.runk [0] [] [1, 46, 47, 48, 49] (L' := [(1, .pointer (some ⟨b28, 0, none⟩)), (46, .slice (some ⟨b62, 0, none⟩) 10 10), (47, .int .i64 10), (48, .int .i64 x48_l1), (49, .bool (decide (x48_l1 < 10)))]) (w' := w) (by kernel_rfl) ?_
    refine WR.nil ?_
    refine At.go ?_
    refine WC.seq (by kernel_rfl) ?_
    refine WC.cond (by kernel_rfl) (decide (x48_l1 < 10)) (by kernel_rfl) (by kernel_rfl) (fun hb64 => ?_) (fun hb64 => ?_)
    · replace H := ite_t H hb64
      refine WC.skip (by kernel_rfl) ?_
      refine At.go ?_
      refine WC.seq (by kernel_rfl) ?_
      refine WC.block (by kernel_rfl) ?_
      refine WC.seq (by kernel_rfl) ?_
      refine WC.reg [0, 1, 2] (by kernel_rfl) (by kernel_rfl) ?_
      refine WR.runk [] [0, 1, 2] [1, 46, 47, 48] (L' := [(1, .pointer (some ⟨b28, 0, none⟩)), (46, .slice (some ⟨b62, 0, none⟩) 10 10), (47, .int .i64 10), (48, .int .i64 x48_l1)]) (w' := w) (by kernel_rfl) ?_
      obtain ⟨v65, e66, H⟩ := bind_ex H
      refine WR.st (St.ofP (PSt.idx (k := .i64) (.tmp 46) (.tmp 48) (by kernel_rfl) (by kernel_rfl) E24 (by kernel_rfl) (by kernel_rfl) (Sat.rdAt 0 hS rfl) e66 ?_))
      refine WR.runk [] [1, 2] [1, 46, 47, 48, 50] (L' := [(1, .pointer (some ⟨b28, 0, none⟩)), (46, .slice (some ⟨b62, 0, none⟩) 10 10), (47, .int .i64 10), (48, .int .i64 x48_l1), (50, .pointer (some (adr (some ⟨b62, 0, none⟩) x48_l1.toNat 1)))]) (w' := w) (by kernel_rfl) ?_
      refine WR.st (St.ofR (RSt.loadInt (t := 3) (.tmp 50) (by kernel_rfl) (by kernel_rfl) (by kernel_rfl) (by kernel_rfl) (Sat.rdAt 0 hS rfl) e66 ?_))
      refine WR.runk [2] [] [1, 7, 46, 47, 48] (L' := [(1, .pointer (some ⟨b28, 0, none⟩)), (7, .int .i64 v65), (46, .slice (some ⟨b62, 0, none⟩) 10 10), (47, .int .i64 10), (48, .int .i64 x48_l1)]) (w' := w) (by kernel_rfl) ?_
      refine WR.nil ?_
      refine At.go ?_
      refine WC.seq (by kernel_rfl) ?_
      refine WC.reg [0, 1, 2, 3, 4, 5, 6, 7, 8] (by kernel_rfl) (by kernel_rfl) ?_
      refine WR.runk [0] [1, 2, 3, 4, 5, 6, 7, 8] [1, 7, 46, 47, 48, 53] (L' := [(1, .pointer (some ⟨b28, 0, none⟩)), (7, .int .i64 v65), (46, .slice (some ⟨b62, 0, none⟩) 10 10), (47, .int .i64 10), (48, .int .i64 x48_l1), (53, .pointer (some ⟨b28, 0, none⟩))]) (w' := w) (by kernel_rfl) ?_
      have hS : Sat w (rf w0) [O46 b28 q29_l1, osl 3 (r0 (.int .i64)) 1 (some ⟨b62, 0, none⟩) ([7, 7, 7, 8, 8, 8, 8, 8, 8, 7] : List Int).length ([7, 7, 7, 8, 8, 8, 8, 8, 8, 7] : List Int)] := hS.sel [1, 0] (by kernel_rfl)
      obtain ⟨r67, e68, H⟩ := bind_ex H
      obtain ⟨B73, hso72, hsub70, hcs71, hb69⟩ := Sat.lend [O46 b28 q29_l1] (cs := [osl 3 (r0 (.int .i64)) 1 (some ⟨b62, 0, none⟩) ([7, 7, 7, 8, 8, 8, 8, 8, 8, 7] : List Int).length ([7, 7, 7, 8, 8, 8, 8, 8, 8, 7] : List Int)]) hS
      refine WR.st (St.call (by kernel_rfl) (f := 10) (args := #[.pointer (some ⟨b28, 0, none⟩)]) (by kernel_rfl) (fair_Ring_Next.calls B73 w b28 q29_l1 hso72  r67 e68) ?_)
      rintro _ w74 ⟨rfl, hS75⟩
      have hS : Sat w74 (rf w0) [O46 b28 r67.2.2.2, osl 3 (r0 (.int .i64)) 1 (some ⟨b62, 0, none⟩) ([7, 7, 7, 8, 8, 8, 8, 8, 8, 7] : List Int).length ([7, 7, 7, 8, 8, 8, 8, 8, 8, 7] : List Int)] := hb69 _ _ hS75
      refine WR.runk [2, 3, 4, 5, 6, 7, 8] [] [1, 7, 9, 10, 46, 47, 48] (L' := [(1, .pointer (some ⟨b28, 0, none⟩)), (7, .int .i64 v65), (9, .int .i64 r67.2.1), (10, .bool r67.2.2.1), (46, .slice (some ⟨b62, 0, none⟩) 10 10), (47, .int .i64 10), (48, .int .i64 x48_l1)]) (w' := w74) (by kernel_rfl) ?_
      refine WR.nil ?_
      refine At.go ?_
      refine WC.seq (by kernel_rfl) ?_
      refine WC.reg [0, 1, 2, 3, 4, 5, 6, 7, 8, 9, 10, 11] (by kernel_rfl) (by kernel_rfl) ?_
      refine WR.runk [0, 1, 2] [3, 4, 5, 6, 7, 8, 9, 10, 11] [1, 7, 9, 46, 47, 48, 60] (L' := [(1, .pointer (some ⟨b28, 0, none⟩)), (7, .int .i64 v65), (9, .int .i64 r67.2.1), (46, .slice (some ⟨b62, 0, none⟩) 10 10), (47, .int .i64 10), (48, .int .i64 x48_l1), (60, .bool (!r67.2.2.1))]) (w' := w74) (by kernel_rfl) ?_
      refine WR.split 60 (b := (!r67.2.2.1)) (by kernel_rfl) (fun hb76 => ?_) (fun hb76 => ?_)
      · replace H := ite_t H hb76
        refine WR.runk [3, 4, 5, 6, 7, 8, 9, 10, 11] [] [1, 46, 47, 48, 61, 62, 63, 66, 67, 68, 69] (L' := [(1, .pointer (some ⟨b28, 0, none⟩)), (46, .slice (some ⟨b62, 0, none⟩) 10 10), (47, .int .i64 10), (48, .int .i64 x48_l1), (61, undef), (62, undef), (63, undef), (66, undef), (67, undef), (68, undef), (69, .bool true)]) (w' := w74) (by kernel_rfl) ?_
        refine WR.nil ?_
        refine At.go ?_
        refine WC.condT (by kernel_rfl) (by kernel_rfl) (by kernel_rfl) ?_
        refine WC.seq (by kernel_rfl) ?_
        refine WC.reg [0] (by kernel_rfl) (by kernel_rfl) ?_
        refine WR.runk [0] [] [0] (L' := [(0, .bool false)]) (w' := w74) (by kernel_rfl) ?_
        refine WR.nil ?_
        refine At.go ?_
        refine WC.ret (by kernel_rfl) ?_
        refine At.blockRet ?_
        refine At.thenRet ?_
        refine At.thenRet ?_
        obtain rfl := Option.some.inj H
        have hS : Sat w74 (rf w0) [O46 b28 r67.2.2.2] := hS.sel [0] (by kernel_rfl)
        refine At.weaken [0] (L' := [(0, .bool false)]) (by kernel_rfl) ?_
        exact hn0 (false, r67.2.2.2) _ rfl hS
      · replace H := ite_f H hb76
        refine WR.runk [3, 4, 5, 6, 7] [8, 9, 10, 11] [1, 46, 47, 48, 61, 62, 63, 65] (L' := [(1, .pointer (some ⟨b28, 0, none⟩)), (46, .slice (some ⟨b62, 0, none⟩) 10 10), (47, .int .i64 10), (48, .int .i64 x48_l1), (61, .int .i64 r67.2.1), (62, .int .i64 v65), (63, .bool (r67.2.1 != v65)), (65, .bool (r67.2.1 != v65))]) (w' := w74) (by kernel_rfl) ?_
        refine WR.split 65 (b := (r67.2.1 != v65)) (by kernel_rfl) (fun hb77 => ?_) (fun hb77 => ?_)
        · replace H := ite_t H hb77
          refine WR.runk [8, 9, 10, 11] [] [1, 46, 47, 48, 61, 62, 63, 66, 67, 68, 69] (L' := [(1, .pointer (some ⟨b28, 0, none⟩)), (46, .slice (some ⟨b62, 0, none⟩) 10 10), (47, .int .i64 10), (48, .int .i64 x48_l1), (61, .int .i64 r67.2.1), (62, .int .i64 v65), (63, .bool (r67.2.1 != v65)), (66, undef), (67, undef), (68, undef), (69, .bool true)]) (w' := w74) (by kernel_rfl) ?_
          refine WR.nil ?_
          refine At.go ?_
          refine WC.condT (by kernel_rfl) (by kernel_rfl) (by kernel_rfl) ?_
          refine WC.seq (by kernel_rfl) ?_
          refine WC.reg [0] (by kernel_rfl) (by kernel_rfl) ?_
          refine WR.runk [0] [] [0] (L' := [(0, .bool false)]) (w' := w74) (by kernel_rfl) ?_
          refine WR.nil ?_
          refine At.go ?_
          refine WC.ret (by kernel_rfl) ?_
          refine At.blockRet ?_
          refine At.thenRet ?_
          refine At.thenRet ?_
          obtain rfl := Option.some.inj H
          have hS : Sat w74 (rf w0) [O46 b28 r67.2.2.2] := hS.sel [0] (by kernel_rfl)
          refine At.weaken [0] (L' := [(0, .bool false)]) (by kernel_rfl) ?_
          exact hn0 (false, r67.2.2.2) _ rfl hS
        · replace H := ite_f H hb77
          refine WR.runk [8] [9, 10, 11] [1, 46, 47, 48, 61, 62, 63, 65, 66] (L' := [(1, .pointer (some ⟨b28, 0, none⟩)), (46, .slice (some ⟨b62, 0, none⟩) 10 10), (47, .int .i64 10), (48, .int .i64 x48_l1), (61, .int .i64 r67.2.1), (62, .int .i64 v65), (63, .bool (r67.2.1 != v65)), (65, .bool false), (66, .pointer (some ⟨b28, 0, none⟩))]) (w' := w74) (by kernel_rfl) ?_
          obtain ⟨r78, e79, H⟩ := bind_ex H
          obtain ⟨B84, hso83, hsub81, hcs82, hb80⟩ := Sat.lend [O46 b28 r67.2.2.2] (cs := [osl 3 (r0 (.int .i64)) 1 (some ⟨b62, 0, none⟩) ([7, 7, 7, 8, 8, 8, 8, 8, 8, 7] : List Int).length ([7, 7, 7, 8, 8, 8, 8, 8, 8, 7] : List Int)]) hS
          refine WR.st (St.call (by kernel_rfl) (f := 11) (args := #[.pointer (some ⟨b28, 0, none⟩), .int .i64 1]) (by kernel_rfl) (fair_Ring_Charge.calls B84 w74 b28 r67.2.2.2 hso83 1 r78 e79) ?_)
          rintro _ w85 ⟨rfl, hS86⟩
          have hS : Sat w85 (rf w0) [O46 b28 r78.2, osl 3 (r0 (.int .i64)) 1 (some ⟨b62, 0, none⟩) ([7, 7, 7, 8, 8, 8, 8, 8, 8, 7] : List Int).length ([7, 7, 7, 8, 8, 8, 8, 8, 8, 7] : List Int)] := hb80 _ _ hS86
          refine WR.runk [10, 11] [] [1, 46, 47, 48, 61, 62, 63, 66, 67, 68, 69] (L' := [(1, .pointer (some ⟨b28, 0, none⟩)), (46, .slice (some ⟨b62, 0, none⟩) 10 10), (47, .int .i64 10), (48, .int .i64 x48_l1), (61, .int .i64 r67.2.1), (62, .int .i64 v65), (63, .bool (r67.2.1 != v65)), (66, .pointer (some ⟨b28, 0, none⟩)), (67, .bool r78.1), (68, .bool (!r78.1)), (69, .bool (!r78.1))]) (w' := w85) (by kernel_rfl) ?_
          refine WR.nil ?_
          refine At.go ?_
          refine WC.cond (by kernel_rfl) (!r78.1) (by kernel_rfl) (by kernel_rfl) (fun hb87 => ?_) (fun hb87 => ?_)
          · replace H := ite_t H hb87
            refine WC.seq (by kernel_rfl) ?_
            refine WC.reg [0] (by kernel_rfl) (by kernel_rfl) ?_
            refine WR.runk [0] [] [0] (L' := [(0, .bool false)]) (w' := w85) (by kernel_rfl) ?_
            refine WR.nil ?_
            refine At.go ?_
            refine WC.ret (by kernel_rfl) ?_
            refine At.blockRet ?_
            refine At.thenRet ?_
            refine At.thenRet ?_
            obtain rfl := Option.some.inj H
            have hS : Sat w85 (rf w0) [O46 b28 r78.2] := hS.sel [0] (by kernel_rfl)
            refine At.weaken [0] (L' := [(0, .bool false)]) (by kernel_rfl) ?_
            exact hn0 (false, r78.2) _ rfl hS
          · replace H := ite_f H hb87
            refine WC.skip (by kernel_rfl) ?_
            refine At.blockNormal ?_
            refine At.go ?_
            refine WC.reg [0, 1] (by kernel_rfl) (by kernel_rfl) ?_
            refine WR.runk [0, 1] [] [1, 46, 47, 48, 61, 62, 63, 66, 67] (L' := [(1, .pointer (some ⟨b28, 0, none⟩)), (46, .slice (some ⟨b62, 0, none⟩) 10 10), (47, .int .i64 10), (48, .int .i64 (wi (x48_l1 + 1))), (61, .int .i64 r67.2.1), (62, .int .i64 v65), (63, .bool (r67.2.1 != v65)), (66, .pointer (some ⟨b28, 0, none⟩)), (67, .bool r78.1)]) (w' := w85) (by kernel_rfl) ?_
            refine WR.nil ?_
            have hS : Sat w85 (rf w0) [osl 3 (r0 (.int .i64)) 1 (some ⟨b62, 0, none⟩) ([7, 7, 7, 8, 8, 8, 8, 8, 8, 7] : List Int).length ([7, 7, 7, 8, 8, 8, 8, 8, 8, 7] : List Int), O46 b28 r78.2] := hS.sel [1, 0] (by kernel_rfl)
            refine At.again ?_
            refine WL.weaken [1, 46, 47, 48] (L' := [(1, .pointer (some ⟨b28, 0, none⟩)), (46, .slice (some ⟨b62, 0, none⟩) 10 10), (47, .int .i64 10), (48, .int .i64 (wi (x48_l1 + 1)))]) (by kernel_rfl) ?_
            exact ih (wi (x48_l1 + 1)) r78.2 _ hS H
    · replace H := ite_f H hb64
      refine WC.exit (by kernel_rfl) ?_
      refine At.thenExit ?_
      refine At.thenExit ?_
      obtain rfl := Option.some.inj H
      have hS : Sat w (rf w0) [O46 b28 q29_l1] := hS.sel [1] (by kernel_rfl)
      refine At.weaken [1] (L' := [(1, .pointer (some ⟨b28, 0, none⟩))]) (by kernel_rfl) ?_
      exact hn1 q29_l1 _ rfl hS
theorem colophonlaw23_first.calls (w0 : World) (r : Bool) (H : colophonlaw23_first.f = some r) :
    Calls Try.prog 7 #[] w0 (fun e w' => ∃ v, e = .returned v ∧ colophonlaw23_first.post w0 r v w') := by
  have hS : Sat w0 (rf w0) [] := Sat.start w0
  unfold colophonlaw23_first.f at H
  refine calls_of_WC (vs := []) Try.func7 (c := C7) (n := 84) (by kernel_rfl) (by kernel_rfl) (by kernel_rfl) ?_
  refine WC.seq (by kernel_rfl) ?_
  refine WC.reg [0] (by kernel_rfl) (by kernel_rfl) ?_
  refine WR.runk [0] [] [] (L' := []) (w' := w0) (by kernel_rfl) ?_
  refine WR.nil ?_
  refine At.go ?_
  refine WC.seq (by kernel_rfl) ?_
  refine WC.reg [0, 1, 2, 3, 4, 5, 6] (by kernel_rfl) (by kernel_rfl) ?_
  refine WR.st (St.box hS (by kernel_rfl) (.cells #[.int .i64 1, .int .i64 2] 3) (fun b1 => .slice (some ⟨b1, 0, none⟩) 2 2) (fun _ => by kernel_rfl) (fun b1 w2 hS => ?_))
  refine WR.runk [] [1, 2, 3, 4, 5, 6] [12] (L' := [(12, .slice (some ⟨b1, 0, none⟩) 2 2)]) (w' := w2) (by kernel_rfl) ?_
  obtain ⟨r3, e4, H⟩ := bind_ex H
  refine WR.st (St.call (by kernel_rfl) (f := 8) (args := #[.int .i64 3, .slice (some ⟨b1, 0, none⟩) 2 2]) (by kernel_rfl) (fair_New.calls w2 3 (some ⟨b1, 0, none⟩) 2 ([1, 2] : List Int) (Sat.ptsAt 0 (r0 (.int .i64)) 1 ([1, 2] : List Int) hS rfl rfl (rdL.cons1 rfl (rdL.cons1 rfl (rdL.nil _ _)))) r3 e4) ?_)
  rintro _ w10 ⟨pv12, rfl, hS11⟩
  have hS : Sat w10 (rf w0) [optP O46 pv12 r3.1, pts b1 (.cells #[.int .i64 1, .int .i64 2] 3 (0, 0))] := hS.ext hS11
  refine WR.runk [2, 3, 4, 5, 6] [] [1, 2] (L' := [(1, pv12), (2, .int .i64 r3.2)]) (w' := w10) (by kernel_rfl) ?_
  refine WR.nil ?_
  refine At.go ?_
  refine WC.seq (by kernel_rfl) ?_
  refine WC.reg [0, 1, 2, 3, 4, 5, 6] (by kernel_rfl) (by kernel_rfl) ?_
  refine WR.st (St.box hS (by kernel_rfl) (.cells #[.int .i64 1] 3) (fun b13 => .slice (some ⟨b13, 0, none⟩) 1 1) (fun _ => by kernel_rfl) (fun b13 w14 hS => ?_))
  refine WR.runk [] [1, 2, 3, 4, 5, 6] [1, 2, 17] (L' := [(1, pv12), (2, .int .i64 r3.2), (17, .slice (some ⟨b13, 0, none⟩) 1 1)]) (w' := w14) (by kernel_rfl) ?_
  obtain ⟨r15, e16, H⟩ := bind_ex H
  refine WR.st (St.call (by kernel_rfl) (f := 8) (args := #[.int .i64 0, .slice (some ⟨b13, 0, none⟩) 1 1]) (by kernel_rfl) (fair_New.calls w14 0 (some ⟨b13, 0, none⟩) 1 ([1] : List Int) (Sat.ptsAt 0 (r0 (.int .i64)) 1 ([1] : List Int) hS rfl rfl (rdL.cons1 rfl (rdL.nil _ _))) r15 e16) ?_)
  rintro _ w22 ⟨pv24, rfl, hS23⟩
  have hS : Sat w22 (rf w0) [optP O46 pv24 r15.1, pts b13 (.cells #[.int .i64 1] 3 (0, 0)), optP O46 pv12 r3.1, pts b1 (.cells #[.int .i64 1, .int .i64 2] 3 (0, 0))] := hS.ext hS23
  refine WR.runk [2, 3, 4, 5, 6] [] [1, 2, 4] (L' := [(1, pv12), (2, .int .i64 r3.2), (4, .int .i64 r15.2)]) (w' := w22) (by kernel_rfl) ?_
  refine WR.nil ?_
  refine At.go ?_
  refine WC.seq (by kernel_rfl) ?_
  refine WC.seq (by kernel_rfl) ?_
  refine WC.reg [0, 1, 2, 3, 4, 5, 6, 7, 8, 9, 10, 11, 12, 13, 14, 15, 16, 17, 18, 19, 20, 21, 22, 23] (by kernel_rfl) (by kernel_rfl) ?_
  refine WR.runk [0] [1, 2, 3, 4, 5, 6, 7, 8, 9, 10, 11, 12, 13, 14, 15, 16, 17, 18, 19, 20, 21, 22, 23] [1, 2, 4, 21] (L' := [(1, pv12), (2, .int .i64 r3.2), (4, .int .i64 r15.2), (21, pv12)]) (w' := w22) (by kernel_rfl) ?_
  have hS : Sat w22 (rf w0) [optP O46 pv12 r3.1, optP O46 pv24 r15.1, pts b13 (.cells #[.int .i64 1] 3 (0, 0)), pts b1 (.cells #[.int .i64 1, .int .i64 2] 3 (0, 0))] := hS.sel [2, 0, 1, 3] (by kernel_rfl)
  rcases hr26 : r3.1 with _ | y25
  · rw [hr26] at H
    dsimp only at H
    have hv27 := optP.none hS hr26
    subst hv27
    have hS : Sat w22 (rf w0) [optP O46 pv24 r15.1, pts b13 (.cells #[.int .i64 1] 3 (0, 0)), pts b1 (.cells #[.int .i64 1, .int .i64 2] 3 (0, 0))] := hS.sel [1, 2, 3] (by kernel_rfl)
    refine WR.runk [1, 2, 3, 4, 5, 6, 7, 8, 9, 10, 11, 12, 13, 14, 15, 16, 17, 18, 19, 20, 21, 22, 23] [] [1, 44] (L' := [(1, .pointer none), (44, .bool true)]) (w' := w22) (by kernel_rfl) ?_
    refine WR.nil ?_
    refine At.go ?_
    refine WC.condT (by kernel_rfl) (by kernel_rfl) (by kernel_rfl) ?_
    refine WC.seq (by kernel_rfl) ?_
    refine WC.reg [0] (by kernel_rfl) (by kernel_rfl) ?_
    refine WR.runk [0] [] [0] (L' := [(0, .bool false)]) (w' := w22) (by kernel_rfl) ?_
    refine WR.nil ?_
    refine At.go ?_
    refine WC.ret (by kernel_rfl) ?_
    refine At.thenRet ?_
    obtain rfl := Option.some.inj H
    have hS : Sat w22 (rf w0) [] := hS.sel [] (by kernel_rfl)
    exact At.body [.bool false] (by kernel_rfl) ⟨_, rfl, rfl, hS⟩
  · rw [hr26] at H
    dsimp only at H
    obtain ⟨b28, hv27, hN127⟩ := optP.some hS hr26
    subst hv27
    have hS : Sat w22 (rf w0) [O46 b28 y25, optP O46 pv24 r15.1, pts b13 (.cells #[.int .i64 1] 3 (0, 0)), pts b1 (.cells #[.int .i64 1, .int .i64 2] 3 (0, 0))] := hN127
    refine WR.runk [1, 2, 3, 4, 5, 6] [7, 8, 9, 10, 11, 12, 13, 14, 15, 16, 17, 18, 19, 20, 21, 22, 23] [1, 4, 27] (L' := [(1, .pointer (some ⟨b28, 0, none⟩)), (4, .int .i64 r15.2), (27, .bool (r3.2 != 0))]) (w' := w22) (by kernel_rfl) ?_
    refine WR.split 27 (b := (r3.2 != 0)) (by kernel_rfl) (fun hb30 => ?_) (fun hb30 => ?_)
    · replace H := ite_t H hb30
      refine WR.runk [7, 8, 9, 10, 11, 12, 13, 14, 15, 16, 17, 18, 19, 20, 21, 22, 23] [] [1, 44] (L' := [(1, .pointer (some ⟨b28, 0, none⟩)), (44, .bool true)]) (w' := w22) (by kernel_rfl) ?_
      refine WR.nil ?_
      refine At.go ?_
      refine WC.condT (by kernel_rfl) (by kernel_rfl) (by kernel_rfl) ?_
      refine WC.seq (by kernel_rfl) ?_
      refine WC.reg [0] (by kernel_rfl) (by kernel_rfl) ?_
      refine WR.runk [0] [] [0] (L' := [(0, .bool false)]) (w' := w22) (by kernel_rfl) ?_
      refine WR.nil ?_
      refine At.go ?_
      refine WC.ret (by kernel_rfl) ?_
      refine At.thenRet ?_
      obtain rfl := Option.some.inj H
      have hS : Sat w22 (rf w0) [] := hS.sel [] (by kernel_rfl)
      exact At.body [.bool false] (by kernel_rfl) ⟨_, rfl, rfl, hS⟩
    · replace H := ite_f H hb30
      refine WR.runk [7, 8, 9, 10] [11, 12, 13, 14, 15, 16, 17, 18, 19, 20, 21, 22, 23] [1, 31] (L' := [(1, .pointer (some ⟨b28, 0, none⟩)), (31, .bool (r15.2 != 2))]) (w' := w22) (by kernel_rfl) ?_
      refine WR.split 31 (b := (r15.2 != 2)) (by kernel_rfl) (fun hb31 => ?_) (fun hb31 => ?_)
      · replace H := ite_t H hb31
        refine WR.runk [11, 12, 13, 14, 15, 16, 17, 18, 19, 20, 21, 22, 23] [] [1, 44] (L' := [(1, .pointer (some ⟨b28, 0, none⟩)), (44, .bool true)]) (w' := w22) (by kernel_rfl) ?_
        refine WR.nil ?_
        refine At.go ?_
        refine WC.condT (by kernel_rfl) (by kernel_rfl) (by kernel_rfl) ?_
        refine WC.seq (by kernel_rfl) ?_
        refine WC.reg [0] (by kernel_rfl) (by kernel_rfl) ?_
        refine WR.runk [0] [] [0] (L' := [(0, .bool false)]) (w' := w22) (by kernel_rfl) ?_
        refine WR.nil ?_
        refine At.go ?_
        refine WC.ret (by kernel_rfl) ?_
        refine At.thenRet ?_
        obtain rfl := Option.some.inj H
        have hS : Sat w22 (rf w0) [] := hS.sel [] (by kernel_rfl)
        exact At.body [.bool false] (by kernel_rfl) ⟨_, rfl, rfl, hS⟩
      · replace H := ite_f H hb31
        refine WR.runk [11] [12, 13, 14, 15, 16, 17, 18, 19, 20, 21, 22, 23] [1, 31, 32] (L' := [(1, .pointer (some ⟨b28, 0, none⟩)), (31, .bool false), (32, .pointer (some ⟨b28, 0, none⟩))]) (w' := w22) (by kernel_rfl) ?_
        obtain ⟨r32, e33, H⟩ := bind_ex H
        obtain ⟨B38, hso37, hsub35, hcs36, hb34⟩ := Sat.lend [O46 b28 y25] (cs := [optP O46 pv24 r15.1, pts b13 (.cells #[.int .i64 1] 3 (0, 0)), pts b1 (.cells #[.int .i64 1, .int .i64 2] 3 (0, 0))]) hS
        refine WR.st (St.call (by kernel_rfl) (f := 9) (args := #[.pointer (some ⟨b28, 0, none⟩), .int .i64 0, .int .i64 7]) (by kernel_rfl) (fair_Ring_Add.calls B38 w22 b28 y25 hso37 0 7 r32 e33) ?_)
        rintro _ w39 ⟨rfl, hS40⟩
        have hS : Sat w39 (rf w0) [O46 b28 r32.2, optP O46 pv24 r15.1, pts b13 (.cells #[.int .i64 1] 3 (0, 0)), pts b1 (.cells #[.int .i64 1, .int .i64 2] 3 (0, 0))] := hb34 _ _ hS40
        refine WR.runk [13, 14, 15] [16, 17, 18, 19, 20, 21, 22, 23] [1, 36] (L' := [(1, .pointer (some ⟨b28, 0, none⟩)), (36, .bool (!r32.1))]) (w' := w39) (by kernel_rfl) ?_
        refine WR.split 36 (b := (!r32.1)) (by kernel_rfl) (fun hb41 => ?_) (fun hb41 => ?_)
        · replace H := ite_t H hb41
          refine WR.runk [16, 17, 18, 19, 20, 21, 22, 23] [] [1, 44] (L' := [(1, .pointer (some ⟨b28, 0, none⟩)), (44, .bool true)]) (w' := w39) (by kernel_rfl) ?_
          refine WR.nil ?_
          refine At.go ?_
          refine WC.condT (by kernel_rfl) (by kernel_rfl) (by kernel_rfl) ?_
          refine WC.seq (by kernel_rfl) ?_
          refine WC.reg [0] (by kernel_rfl) (by kernel_rfl) ?_
          refine WR.runk [0] [] [0] (L' := [(0, .bool false)]) (w' := w39) (by kernel_rfl) ?_
          refine WR.nil ?_
          refine At.go ?_
          refine WC.ret (by kernel_rfl) ?_
          refine At.thenRet ?_
          obtain rfl := Option.some.inj H
          have hS : Sat w39 (rf w0) [] := hS.sel [] (by kernel_rfl)
          exact At.body [.bool false] (by kernel_rfl) ⟨_, rfl, rfl, hS⟩
        · replace H := ite_f H hb41
          refine WR.runk [16] [17, 18, 19, 20, 21, 22, 23] [1, 36, 37] (L' := [(1, .pointer (some ⟨b28, 0, none⟩)), (36, .bool false), (37, .pointer (some ⟨b28, 0, none⟩))]) (w' := w39) (by kernel_rfl) ?_
          obtain ⟨r42, e43, H⟩ := bind_ex H
          obtain ⟨B48, hso47, hsub45, hcs46, hb44⟩ := Sat.lend [O46 b28 r32.2] (cs := [optP O46 pv24 r15.1, pts b13 (.cells #[.int .i64 1] 3 (0, 0)), pts b1 (.cells #[.int .i64 1, .int .i64 2] 3 (0, 0))]) hS
          refine WR.st (St.call (by kernel_rfl) (f := 9) (args := #[.pointer (some ⟨b28, 0, none⟩), .int .i64 1, .int .i64 8]) (by kernel_rfl) (fair_Ring_Add.calls B48 w39 b28 r32.2 hso47 1 8 r42 e43) ?_)
          rintro _ w49 ⟨rfl, hS50⟩
          have hS : Sat w49 (rf w0) [O46 b28 r42.2, optP O46 pv24 r15.1, pts b13 (.cells #[.int .i64 1] 3 (0, 0)), pts b1 (.cells #[.int .i64 1, .int .i64 2] 3 (0, 0))] := hb44 _ _ hS50
          refine WR.runk [18, 19, 20] [21, 22, 23] [1, 41] (L' := [(1, .pointer (some ⟨b28, 0, none⟩)), (41, .bool (!r42.1))]) (w' := w49) (by kernel_rfl) ?_
          refine WR.split 41 (b := (!r42.1)) (by kernel_rfl) (fun hb51 => ?_) (fun hb51 => ?_)
          · replace H := ite_t H hb51
            refine WR.runk [21, 22, 23] [] [1, 44] (L' := [(1, .pointer (some ⟨b28, 0, none⟩)), (44, .bool true)]) (w' := w49) (by kernel_rfl) ?_
            refine WR.nil ?_
            refine At.go ?_
            refine WC.condT (by kernel_rfl) (by kernel_rfl) (by kernel_rfl) ?_
            refine WC.seq (by kernel_rfl) ?_
            refine WC.reg [0] (by kernel_rfl) (by kernel_rfl) ?_
            refine WR.runk [0] [] [0] (L' := [(0, .bool false)]) (w' := w49) (by kernel_rfl) ?_
            refine WR.nil ?_
            refine At.go ?_
            refine WC.ret (by kernel_rfl) ?_
            refine At.thenRet ?_
            obtain rfl := Option.some.inj H
            have hS : Sat w49 (rf w0) [] := hS.sel [] (by kernel_rfl)
            exact At.body [.bool false] (by kernel_rfl) ⟨_, rfl, rfl, hS⟩
          · replace H := ite_f H hb51
            refine WR.runk [21] [22, 23] [1, 41, 42] (L' := [(1, .pointer (some ⟨b28, 0, none⟩)), (41, .bool false), (42, .pointer (some ⟨b28, 0, none⟩))]) (w' := w49) (by kernel_rfl) ?_
            obtain ⟨r52, e53, H⟩ := bind_ex H
            obtain ⟨B58, hso57, hsub55, hcs56, hb54⟩ := Sat.lend [O46 b28 r42.2] (cs := [optP O46 pv24 r15.1, pts b13 (.cells #[.int .i64 1] 3 (0, 0)), pts b1 (.cells #[.int .i64 1, .int .i64 2] 3 (0, 0))]) hS
            refine WR.st (St.call (by kernel_rfl) (f := 9) (args := #[.pointer (some ⟨b28, 0, none⟩), .int .i64 0, .int .i64 8]) (by kernel_rfl) (fair_Ring_Add.calls B58 w49 b28 r42.2 hso57 0 8 r52 e53) ?_)
            rintro _ w59 ⟨rfl, hS60⟩
            have hS : Sat w59 (rf w0) [O46 b28 r52.2, optP O46 pv24 r15.1, pts b13 (.cells #[.int .i64 1] 3 (0, 0)), pts b1 (.cells #[.int .i64 1, .int .i64 2] 3 (0, 0))] := hb54 _ _ hS60
            refine WR.runk [23] [] [1, 44] (L' := [(1, .pointer (some ⟨b28, 0, none⟩)), (44, .bool r52.1)]) (w' := w59) (by kernel_rfl) ?_
            refine WR.nil ?_
            refine At.go ?_
            refine WC.cond (by kernel_rfl) r52.1 (by kernel_rfl) (by kernel_rfl) (fun hb61 => ?_) (fun hb61 => ?_)
            · replace H := ite_t H hb61
              refine WC.seq (by kernel_rfl) ?_
              refine WC.reg [0] (by kernel_rfl) (by kernel_rfl) ?_
              refine WR.runk [0] [] [0] (L' := [(0, .bool false)]) (w' := w59) (by kernel_rfl) ?_
              refine WR.nil ?_
              refine At.go ?_
              refine WC.ret (by kernel_rfl) ?_
              refine At.thenRet ?_
              obtain rfl := Option.some.inj H
              have hS : Sat w59 (rf w0) [] := hS.sel [] (by kernel_rfl)
              exact At.body [.bool false] (by kernel_rfl) ⟨_, rfl, rfl, hS⟩
            · replace H := ite_f H hb61
              refine WC.skip (by kernel_rfl) ?_
              refine At.go ?_
              refine WC.seq (by kernel_rfl) ?_
              refine WC.reg [0, 1] (by kernel_rfl) (by kernel_rfl) ?_
              refine WR.runk [] [0, 1] [1] (L' := [(1, .pointer (some ⟨b28, 0, none⟩))]) (w' := w59) (by kernel_rfl) ?_
              refine WR.st (St.box hS (by kernel_rfl) (.cells #[.int .i64 7, .int .i64 7, .int .i64 7, .int .i64 8, .int .i64 8, .int .i64 8, .int .i64 8, .int .i64 8, .int .i64 8, .int .i64 7] 3) (fun b62 => .slice (some ⟨b62, 0, none⟩) 10 10) (fun _ => by kernel_rfl) (fun b62 w63 hS => ?_))
              refine WR.runk [1] [] [1, 5] (L' := [(1, .pointer (some ⟨b28, 0, none⟩)), (5, .slice (some ⟨b62, 0, none⟩) 10 10)]) (w' := w63) (by kernel_rfl) ?_
              refine WR.nil ?_
              refine At.go ?_
              refine WC.seq (by kernel_rfl) ?_
              refine WC.seq (by kernel_rfl) ?_
              refine WC.reg [0, 1, 2] (by kernel_rfl) (by kernel_rfl) ?_
              refine WR.runk [0, 1, 2] [] [1, 46, 47, 48] (L' := [(1, .pointer (some ⟨b28, 0, none⟩)), (46, .slice (some ⟨b62, 0, none⟩) 10 10), (47, .int .i64 10), (48, .int .i64 0)]) (w' := w63) (by kernel_rfl) ?_
              refine WR.nil ?_
              refine At.go ?_
              refine WC.block (by kernel_rfl) ?_
              have hS : Sat w63 (rf w0) [osl 3 (r0 (.int .i64)) 1 (some ⟨b62, 0, none⟩) ([7, 7, 7, 8, 8, 8, 8, 8, 8, 7] : List Int).length ([7, 7, 7, 8, 8, 8, 8, 8, 8, 7] : List Int), O46 b28 r52.2, optP O46 pv24 r15.1, pts b13 (.cells #[.int .i64 1] 3 (0, 0)), pts b1 (.cells #[.int .i64 1, .int .i64 2] 3 (0, 0))] := Sat.toOsl' (r0 (.int .i64)) 1 ([7, 7, 7, 8, 8, 8, 8, 8, 8, 7] : List Int) hS rfl (rdL.cons1 rfl (rdL.cons1 rfl (rdL.cons1 rfl (rdL.cons1 rfl (rdL.cons1 rfl (rdL.cons1 rfl (rdL.cons1 rfl (rdL.cons1 rfl (rdL.cons1 rfl (rdL.cons1 rfl (rdL.nil _ _)))))))))))
              have hS : Sat w63 (rf w0) [osl 3 (r0 (.int .i64)) 1 (some ⟨b62, 0, none⟩) ([7, 7, 7, 8, 8, 8, 8, 8, 8, 7] : List Int).length ([7, 7, 7, 8, 8, 8, 8, 8, 8, 7] : List Int), O46 b28 r52.2] := hS.sel [0, 1] (by kernel_rfl)
              obtain ⟨o88, e89, H⟩ := bind_ex H
              refine WC.loop (by kernel_rfl) ?_
              refine WL.weaken [1, 46, 47, 48] (L' := [(1, .pointer (some ⟨b28, 0, none⟩)), (46, .slice (some ⟨b62, 0, none⟩) 10 10), (47, .int .i64 10), (48, .int .i64 0)]) (by kernel_rfl) ?_
              refine colophonlaw23_first.l1_ok w0 b28 b62 o88 (fun o90 w92 ho93 hS => ?_) (fun o94 w96 ho97 hS => ?_) FU 0 r52.2 _ hS e89
              · subst ho93
                dsimp only at H
                refine At.blockRet ?_
                refine At.thenRet ?_
                obtain rfl := Option.some.inj H
                have hS : Sat w92 (rf w0) [] := hS.sel [] (by kernel_rfl)
                exact At.body [.bool o90.1] (by kernel_rfl) ⟨_, rfl, rfl, hS⟩
              · subst ho97
                dsimp only at H
                refine At.hit ?_
                refine At.go ?_
                refine WC.seq (by kernel_rfl) ?_
                refine WC.reg [0, 1, 2, 3, 4, 5, 6, 7, 8, 9, 10, 11, 12, 13] (by kernel_rfl) (by kernel_rfl) ?_
                refine WR.runk [0] [1, 2, 3, 4, 5, 6, 7, 8, 9, 10, 11, 12, 13] [1, 71] (L' := [(1, .pointer (some ⟨b28, 0, none⟩)), (71, .pointer (some ⟨b28, 0, none⟩))]) (w' := w96) (by kernel_rfl) ?_
                obtain ⟨r98, e99, H⟩ := bind_ex H
                refine WR.st (St.call (by kernel_rfl) (f := 12) (args := #[.pointer (some ⟨b28, 0, none⟩), .int .i64 0]) (by kernel_rfl) (fair_Ring_Spent.calls w96 (.pointer (some ⟨b28, 0, none⟩)) (some o94) (Sat.rdAny 0 hS rfl (fun _ h => O46.rd _ _ _ h)) 0 r98 e99) ?_)
                rintro _ w105 ⟨rfl, hS106⟩
                have hS : Sat w105 (rf w0) [O46 b28 o94] := hS.ext hS106
                refine WR.runk [2, 3] [4, 5, 6, 7, 8, 9, 10, 11, 12, 13] [1, 74] (L' := [(1, .pointer (some ⟨b28, 0, none⟩)), (74, .bool (r98 == 4))]) (w' := w105) (by kernel_rfl) ?_
                refine WR.split 74 (b := (r98 == 4)) (by kernel_rfl) (fun hb107 => ?_) (fun hb107 => ?_)
                · replace H := ite_t H hb107
                  refine WR.runk [4] [5, 6, 7, 8, 9, 10, 11, 12, 13] [1, 74, 75] (L' := [(1, .pointer (some ⟨b28, 0, none⟩)), (74, .bool true), (75, .pointer (some ⟨b28, 0, none⟩))]) (w' := w105) (by kernel_rfl) ?_
                  obtain ⟨r108, e109, H⟩ := bind_ex H
                  refine WR.st (St.call (by kernel_rfl) (f := 12) (args := #[.pointer (some ⟨b28, 0, none⟩), .int .i64 1]) (by kernel_rfl) (fair_Ring_Spent.calls w105 (.pointer (some ⟨b28, 0, none⟩)) (some o94) (Sat.rdAny 0 hS rfl (fun _ h => O46.rd _ _ _ h)) 1 r108 e109) ?_)
                  rintro _ w115 ⟨rfl, hS116⟩
                  have hS : Sat w115 (rf w0) [O46 b28 o94] := hS.ext hS116
                  refine WR.runk [6, 7, 8] [9, 10, 11, 12, 13] [1, 79] (L' := [(1, .pointer (some ⟨b28, 0, none⟩)), (79, .bool (r108 == 6))]) (w' := w115) (by kernel_rfl) ?_
                  refine WR.split 79 (b := (r108 == 6)) (by kernel_rfl) (fun hb117 => ?_) (fun hb117 => ?_)
                  · replace H := ite_t H hb117
                    refine WR.runk [9] [10, 11, 12, 13] [79, 80] (L' := [(79, .bool true), (80, .pointer (some ⟨b28, 0, none⟩))]) (w' := w115) (by kernel_rfl) ?_
                    obtain ⟨r118, e119, H⟩ := bind_ex H
                    obtain ⟨B124, hso123, hsub121, hcs122, hb120⟩ := Sat.lend [O46 b28 o94] (cs := []) hS
                    refine WR.st (St.call (by kernel_rfl) (f := 11) (args := #[.pointer (some ⟨b28, 0, none⟩), .int .i64 1]) (by kernel_rfl) (fair_Ring_Charge.calls B124 w115 b28 o94 hso123 1 r118 e119) ?_)
                    rintro _ w125 ⟨rfl, hS126⟩
                    have hS : Sat w125 (rf w0) [O46 b28 r118.2] := hb120 _ _ hS126
                    refine WR.runk [11, 12, 13] [] [0] (L' := [(0, .bool (!r118.1))]) (w' := w125) (by kernel_rfl) ?_
                    refine WR.nil ?_
                    refine At.go ?_
                    refine WC.ret (by kernel_rfl) ?_
                    obtain rfl := Option.some.inj H
                    have hS : Sat w125 (rf w0) [] := hS.sel [] (by kernel_rfl)
                    exact At.body [.bool (!r118.1)] (by kernel_rfl) ⟨_, rfl, rfl, hS⟩
                  · replace H := ite_f H hb117
                    refine WR.runk [9, 10, 11, 12, 13] [] [0] (L' := [(0, .bool false)]) (w' := w115) (by kernel_rfl) ?_
                    refine WR.nil ?_
                    refine At.go ?_
                    refine WC.ret (by kernel_rfl) ?_
                    obtain rfl := Option.some.inj H
                    have hS : Sat w115 (rf w0) [] := hS.sel [] (by kernel_rfl)
                    exact At.body [.bool false] (by kernel_rfl) ⟨_, rfl, rfl, hS⟩
                · replace H := ite_f H hb107
                  refine WR.runk [4, 5, 6, 7, 8, 9, 10, 11, 12, 13] [] [0] (L' := [(0, .bool false)]) (w' := w105) (by kernel_rfl) ?_
                  refine WR.nil ?_
                  refine At.go ?_
                  refine WC.ret (by kernel_rfl) ?_
                  obtain rfl := Option.some.inj H
                  have hS : Sat w105 (rf w0) [] := hS.sel [] (by kernel_rfl)
                  exact At.body [.bool false] (by kernel_rfl) ⟨_, rfl, rfl, hS⟩
end Go.Proofs.Ytnffhpnlehcoiaa
