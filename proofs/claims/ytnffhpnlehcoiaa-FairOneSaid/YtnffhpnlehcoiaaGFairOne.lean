/-
  Printed by gen.py (my own tool): for each Go function a plain Lean function and the proof that a call of it does what that function says.
-/
import Derived.Test.YtnffhpnlehcoiaaGP1c
import Derived.Test.YtnffhpnlehcoiaaGN
set_option linter.unusedVariables false
set_option linter.unusedSimpArgs false
set_option maxRecDepth 100000
namespace Go.Proofs.Ytnffhpnlehcoiaa
open Go Go.Gol
/-! ### 4 colophon/colophonlaw23.FairOne -/
def colophonlaw23_FairOne.l1 (a1 : Int) : Nat → Int → (Int × (List (Option (Int × Int × Int × (List (Int × Bool))))) × Int × Bool × Int × Bool) → Option (Int × (List (Option (Int × Int × Int × (List (Int × Bool))))) × Int × Bool × Int × Bool)
  | 0, _, _ => none
  | k + 1, x38_l1, q27_l1 => (if decide (x38_l1 < wi (1 + (wi (Int.tmod a1 20)))) then ((fair_Ring_Add.f q27_l1 0 (wi (100 + x38_l1))).bind fun r29 => colophonlaw23_FairOne.l1 a1 k (wi (x38_l1 + 1)) r29.2) else some q27_l1)
def colophonlaw23_FairOne.l2 (a1 : Int) (l2 : List Int) : Nat → Int → Int → (Int × (List (Option (Int × Int × Int × (List (Int × Bool))))) × Int × Bool × Int × Bool) → Option (Sum (Int × (Int × (List (Option (Int × Int × Int × (List (Int × Bool))))) × Int × Bool × Int × Bool)) (Bool × (Int × (List (Option (Int × Int × Int × (List (Int × Bool))))) × Int × Bool × Int × Bool)))
  | 0, _, _, _ => none
  | k + 1, x11_l2, x48_l2, q27_l2 => (if decide (x48_l2 < (l2.length : Int)) then ((at? l2 x48_l2).bind fun v44 => (if decide (x48_l2 ≥ 200) then some (.inl (x11_l2, q27_l2)) else ((fair_Ring_Next.f q27_l2).bind fun r47 => (if (!r47.2.2.1) then some (.inr (false, r47.2.2.2)) else (if (r47.1 != 0) then some (.inr (false, r47.2.2.2)) else ((chk? (decide ((wi (1 + (wi (Int.tmod a1 20)))) ≠ 0))).bind fun _ => (if (r47.2.1 != (wi (100 + (Int.tmod x48_l2 (wi (1 + (wi (Int.tmod a1 20)))))))) then some (.inr (false, r47.2.2.2)) else ((fair_Ring_Charge.f r47.2.2.2 (wi (Int.tmod v44 4))).bind fun r60 => (if (!r60.1) then some (.inr (false, r60.2)) else colophonlaw23_FairOne.l2 a1 l2 k (wi (x11_l2 + (wi (Int.tmod v44 4)))) (wi (x48_l2 + 1)) r60.2))))))))) else some (.inl (x11_l2, q27_l2)))
def colophonlaw23_FairOne.f (a0 : Int) (a1 : Int) (l2 : List Int) : Option Bool := (colophonlaw23_first.f.bind fun r1 => (if (!r1) then some false else ((fair_New.f (wi (1 + (wi (Int.tmod (IntKind.wrap .u64 a0) 4096)))) ([wi (1 + (wi (Int.tmod a1 16)))] : List Int)).bind fun r13 => (r13.1.bind fun y23 => ((colophonlaw23_FairOne.l1 a1 FU 0 y23).bind fun o38 => ((colophonlaw23_FairOne.l2 a1 l2 FU 0 0 o38).bind fun o70 => (match o70 with | .inl o72 => ((fair_Ring_Spent.f (some o72.2) 0).bind fun r76 => some (r76 == o72.1)) | .inr o85 => some o85.1)))))))
def colophonlaw23_FairOne.post (w : World) (r : Bool) (v : Value) (w' : World) : Prop := v = (.bool r : Value) ∧ Sat w' (rf w) []
theorem colophonlaw23_FairOne.l1_ok {Q} (w0 : World) (a1 : Int) (A2 : Option Addr) (c2 : Nat) (l2 : List Int) (b26 : Nat) (out : (Int × (List (Option (Int × Int × Int × (List (Int × Bool))))) × Int × Bool × Int × Bool)) (hn0 : ∀ (w : World), Sat w (rf w0) [O46 b26 out] → At Q (.exit 0) 93 [(2, .slice A2 l2.length c2), (7, .int .i64 (wi (1 + (wi (Int.tmod a1 20))))), (8, .pointer (some ⟨b26, 0, none⟩))] w) :
    ∀ (k : Nat) (x38_l1 : Int) (q27_l1 : Int × (List (Option (Int × Int × Int × (List (Int × Bool))))) × Int × Bool × Int × Bool) (w : World), Sat w (rf w0) [O46 b26 q27_l1] → colophonlaw23_FairOne.l1 a1 k x38_l1 q27_l1 = some out → WL Try.prog (cbody (cbody (cr (cl (cr (cr (cr (cr C4)))))))) Q 93 [(2, .slice A2 l2.length c2), (7, .int .i64 (wi (1 + (wi (Int.tmod a1 20))))), (8, .pointer (some ⟨b26, 0, none⟩)), (37, .int .i64 (wi (1 + (wi (Int.tmod a1 20))))), (38, .int .i64 x38_l1)] w := by
  intro k
  induction k with
  | zero => intro x38_l1 q27_l1 w hS H; exact absurd (show none = some out from H) (by simp)
  | succ k ih =>
    intro x38_l1 q27_l1 w hS H
    unfold colophonlaw23_FairOne.l1 at H
    refine WL.round ?_
    refine WC.seq (by kernel_rfl) ?_
    refine WC.reg [0] (by kernel_rfl) (by kernel_rfl) ?_
    refine WR.runk [0] [] [2, 7, 8, 37, 38, 39] (L' := [(2, .slice A2 l2.length c2), (7, .int .i64 (wi (1 + (wi (Int.tmod a1 20))))), (8, .pointer (some ⟨b26, 0, none⟩)), (37, .int .i64 (wi (1 + (wi (Int.tmod a1 20))))), (38, .int .i64 x38_l1), (39, .bool (decide (x38_l1 < wi (1 + (wi (Int.tmod a1 20))))))]) (w' := w) (by kernel_rfl) ?_
    refine WR.nil ?_
    refine At.go ?_
    refine WC.seq (by kernel_rfl) ?_
    refine WC.cond (by kernel_rfl) (decide (x38_l1 < wi (1 + (wi (Int.tmod a1 20))))) (by kernel_rfl) (by kernel_rfl) (fun hb28 => ?_) (fun hb28 => ?_)
    · replace H := ite_t H hb28
      refine WC.skip (by kernel_rfl) ?_
      refine At.go ?_
      refine WC.seq (by kernel_rfl) ?_
      refine WC.block (by kernel_rfl) ?_
      refine WC.seq (by kernel_rfl) ?_
      refine WC.reg [0, 1] (by kernel_rfl) (by kernel_rfl) ?_
      refine WR.runk [0, 1] [] [2, 7, 8, 10, 37, 38] (L' := [(2, .slice A2 l2.length c2), (7, .int .i64 (wi (1 + (wi (Int.tmod a1 20))))), (8, .pointer (some ⟨b26, 0, none⟩)), (10, .int .i64 x38_l1), (37, .int .i64 (wi (1 + (wi (Int.tmod a1 20))))), (38, .int .i64 x38_l1)]) (w' := w) (by kernel_rfl) ?_
      refine WR.nil ?_
      refine At.go ?_
      refine WC.reg [0, 1, 2, 3] (by kernel_rfl) (by kernel_rfl) ?_
      refine WR.runk [0, 1, 2] [3] [2, 7, 8, 37, 38, 41, 43] (L' := [(2, .slice A2 l2.length c2), (7, .int .i64 (wi (1 + (wi (Int.tmod a1 20))))), (8, .pointer (some ⟨b26, 0, none⟩)), (37, .int .i64 (wi (1 + (wi (Int.tmod a1 20))))), (38, .int .i64 x38_l1), (41, .pointer (some ⟨b26, 0, none⟩)), (43, .int .i64 (wi (100 + x38_l1)))]) (w' := w) (by kernel_rfl) ?_
      obtain ⟨r29, e30, H⟩ := bind_ex H
      obtain ⟨B35, hso34, hsub32, hcs33, hb31⟩ := Sat.lend [O46 b26 q27_l1] (cs := []) hS
      refine WR.st (St.call (by kernel_rfl) (f := 9) (args := #[.pointer (some ⟨b26, 0, none⟩), .int .i64 0, .int .i64 (wi (100 + x38_l1))]) (by kernel_rfl) (fair_Ring_Add.calls B35 w b26 q27_l1 hso34 0 (wi (100 + x38_l1)) r29 e30) ?_)
      rintro _ w36 ⟨rfl, hS37⟩
      have hS : Sat w36 (rf w0) [O46 b26 r29.2] := hb31 _ _ hS37
      refine WR.runk [] [] [2, 7, 8, 37, 38] (L' := [(2, .slice A2 l2.length c2), (7, .int .i64 (wi (1 + (wi (Int.tmod a1 20))))), (8, .pointer (some ⟨b26, 0, none⟩)), (37, .int .i64 (wi (1 + (wi (Int.tmod a1 20))))), (38, .int .i64 x38_l1)]) (w' := w36) (by kernel_rfl) ?_
      refine WR.nil ?_
      refine At.blockNormal ?_
      refine At.go ?_
      refine WC.reg [0, 1] (by kernel_rfl) (by kernel_rfl) ?_
      refine WR.runk [0, 1] [] [2, 7, 8, 37, 38] (L' := [(2, .slice A2 l2.length c2), (7, .int .i64 (wi (1 + (wi (Int.tmod a1 20))))), (8, .pointer (some ⟨b26, 0, none⟩)), (37, .int .i64 (wi (1 + (wi (Int.tmod a1 20))))), (38, .int .i64 (wi (x38_l1 + 1)))]) (w' := w36) (by kernel_rfl) ?_
      refine WR.nil ?_
      have hS : Sat w36 (rf w0) [O46 b26 r29.2] := hS.sel [0] (by kernel_rfl)
      refine At.again ?_
      refine WL.weaken [2, 7, 8, 37, 38] (L' := [(2, .slice A2 l2.length c2), (7, .int .i64 (wi (1 + (wi (Int.tmod a1 20))))), (8, .pointer (some ⟨b26, 0, none⟩)), (37, .int .i64 (wi (1 + (wi (Int.tmod a1 20))))), (38, .int .i64 (wi (x38_l1 + 1)))]) (by kernel_rfl) ?_
      exact ih (wi (x38_l1 + 1)) r29.2 _ hS H
    · replace H := ite_f H hb28
      refine WC.exit (by kernel_rfl) ?_
      refine At.thenExit ?_
      refine At.thenExit ?_
      obtain rfl := Option.some.inj H
      have hS : Sat w (rf w0) [O46 b26 q27_l1] := hS.sel [0] (by kernel_rfl)
      refine At.weaken [2, 7, 8] (L' := [(2, .slice A2 l2.length c2), (7, .int .i64 (wi (1 + (wi (Int.tmod a1 20))))), (8, .pointer (some ⟨b26, 0, none⟩))]) (by kernel_rfl) ?_
      exact hn0 _ hS
theorem colophonlaw23_FairOne.l2_ok {Q} (w0 : World) (a1 : Int) (A2 : Option Addr) (c2 : Nat) (l2 : List Int) (b26 : Nat) (R2 : rdS (r0 (.int .u8)) 1 (hp w0) A2 c2 l2) (out : Sum (Int × (Int × (List (Option (Int × Int × Int × (List (Int × Bool))))) × Int × Bool × Int × Bool)) (Bool × (Int × (List (Option (Int × Int × Int × (List (Int × Bool))))) × Int × Bool × Int × Bool))) (hn0 : ∀ (o0 : Int × (Int × (List (Option (Int × Int × Int × (List (Int × Bool))))) × Int × Bool × Int × Bool)) (w : World), out = (.inl o0) → Sat w (rf w0) [O46 b26 o0.2] → At Q (.exit 2) 93 [(8, .pointer (some ⟨b26, 0, none⟩)), (11, .int .i64 o0.1)] w) (hn1 : ∀ (o1 : Bool × (Int × (List (Option (Int × Int × Int × (List (Int × Bool))))) × Int × Bool × Int × Bool)) (w : World), out = (.inr o1) → Sat w (rf w0) [O46 b26 o1.2] → At Q .ret 93 [(6, .bool o1.1)] w) :
    ∀ (k : Nat) (x11_l2 : Int) (x48_l2 : Int) (q27_l2 : Int × (List (Option (Int × Int × Int × (List (Int × Bool))))) × Int × Bool × Int × Bool) (w : World), Sat w (rf w0) [O46 b26 q27_l2] → colophonlaw23_FairOne.l2 a1 l2 k x11_l2 x48_l2 q27_l2 = some out → WL Try.prog (cbody (cbody (cr (cl (cr (cr (cr (cr (cr (cr C4)))))))))) Q 93 [(7, .int .i64 (wi (1 + (wi (Int.tmod a1 20))))), (8, .pointer (some ⟨b26, 0, none⟩)), (11, .int .i64 x11_l2), (46, .slice A2 l2.length c2), (47, .int .i64 (l2.length : Int)), (48, .int .i64 x48_l2)] w := by
  intro k
  induction k with
  | zero => intro x11_l2 x48_l2 q27_l2 w hS H; exact absurd (show none = some out from H) (by simp)
  | succ k ih =>
    intro x11_l2 x48_l2 q27_l2 w hS H
    unfold colophonlaw23_FairOne.l2 at H
    refine WL.round ?_
    refine WC.seq (by kernel_rfl) ?_
    refine WC.reg [0] (by kernel_rfl) (by kernel_rfl) ?_
    refine WR.runk [0] [] [7, 8, 11, 46, 47, 48, 49] (L' := [(7, .int .i64 (wi (1 + (wi (Int.tmod a1 20))))), (8, .pointer (some ⟨b26, 0, none⟩)), (11, .int .i64 x11_l2), (46, .slice A2 l2.length c2), (47, .int .i64 (l2.length : Int)), (48, .int .i64 x48_l2), (49, .bool (decide (x48_l2 < (l2.length : Int))))]) (w' := w) (by kernel_rfl) ?_
    refine WR.nil ?_
    refine At.go ?_
    refine WC.seq (by kernel_rfl) ?_
    refine WC.cond (by kernel_rfl) (decide (x48_l2 < (l2.length : Int))) (by kernel_rfl) (by kernel_rfl) (fun hb43 => ?_) (fun hb43 => ?_)
    · replace H := ite_t H hb43
      refine WC.skip (by kernel_rfl) ?_
      refine At.go ?_
      refine WC.seq (by kernel_rfl) ?_
      refine WC.block (by kernel_rfl) ?_
      refine WC.seq (by kernel_rfl) ?_
      refine WC.reg [0, 1, 2, 3, 4] (by kernel_rfl) (by kernel_rfl) ?_
      refine WR.runk [0] [1, 2, 3, 4] [7, 8, 11, 46, 47, 48, 50] (L' := [(7, .int .i64 (wi (1 + (wi (Int.tmod a1 20))))), (8, .pointer (some ⟨b26, 0, none⟩)), (11, .int .i64 x11_l2), (46, .slice A2 l2.length c2), (47, .int .i64 (l2.length : Int)), (48, .int .i64 x48_l2), (50, .int .i64 x48_l2)]) (w' := w) (by kernel_rfl) ?_
      obtain ⟨v44, e45, H⟩ := bind_ex H
      refine WR.st (St.ofP (PSt.idx (k := .i64) (.tmp 46) (.tmp 48) (by kernel_rfl) (by kernel_rfl) E22 (by kernel_rfl) (by kernel_rfl) (rdS.up R2 hS.sub0) e45 ?_))
      refine WR.runk [] [2, 3, 4] [7, 8, 11, 46, 47, 48, 50, 51] (L' := [(7, .int .i64 (wi (1 + (wi (Int.tmod a1 20))))), (8, .pointer (some ⟨b26, 0, none⟩)), (11, .int .i64 x11_l2), (46, .slice A2 l2.length c2), (47, .int .i64 (l2.length : Int)), (48, .int .i64 x48_l2), (50, .int .i64 x48_l2), (51, .pointer (some (adr A2 x48_l2.toNat 1)))]) (w' := w) (by kernel_rfl) ?_
      refine WR.st (St.ofR (RSt.loadInt (t := 5) (.tmp 51) (by kernel_rfl) (by kernel_rfl) (by kernel_rfl) (by kernel_rfl) (rdS.up R2 hS.sub0) e45 ?_))
      refine WR.runk [3, 4] [] [7, 8, 11, 12, 13, 46, 47, 48] (L' := [(7, .int .i64 (wi (1 + (wi (Int.tmod a1 20))))), (8, .pointer (some ⟨b26, 0, none⟩)), (11, .int .i64 x11_l2), (12, .int .i64 x48_l2), (13, .int .u8 v44), (46, .slice A2 l2.length c2), (47, .int .i64 (l2.length : Int)), (48, .int .i64 x48_l2)]) (w' := w) (by kernel_rfl) ?_
      refine WR.nil ?_
      refine At.go ?_
      refine WC.seq (by kernel_rfl) ?_
      refine WC.seq (by kernel_rfl) ?_
      refine WC.reg [0, 1] (by kernel_rfl) (by kernel_rfl) ?_
      refine WR.runk [0, 1] [] [7, 8, 11, 12, 13, 46, 47, 48, 54] (L' := [(7, .int .i64 (wi (1 + (wi (Int.tmod a1 20))))), (8, .pointer (some ⟨b26, 0, none⟩)), (11, .int .i64 x11_l2), (12, .int .i64 x48_l2), (13, .int .u8 v44), (46, .slice A2 l2.length c2), (47, .int .i64 (l2.length : Int)), (48, .int .i64 x48_l2), (54, .bool (decide (x48_l2 ≥ 200)))]) (w' := w) (by kernel_rfl) ?_
      refine WR.nil ?_
      refine At.go ?_
      refine WC.cond (by kernel_rfl) (decide (x48_l2 ≥ 200)) (by kernel_rfl) (by kernel_rfl) (fun hb46 => ?_) (fun hb46 => ?_)
      · replace H := ite_t H hb46
        refine WC.exit (by kernel_rfl) ?_
        refine At.thenExit ?_
        refine At.miss (by kernel_rfl) ?_
        refine At.thenExit ?_
        refine At.thenExit ?_
        obtain rfl := Option.some.inj H
        have hS : Sat w (rf w0) [O46 b26 q27_l2] := hS.sel [0] (by kernel_rfl)
        refine At.weaken [8, 11] (L' := [(8, .pointer (some ⟨b26, 0, none⟩)), (11, .int .i64 x11_l2)]) (by kernel_rfl) ?_
        exact hn0 (x11_l2, q27_l2) _ rfl hS
      · replace H := ite_f H hb46
        refine WC.skip (by kernel_rfl) ?_
        refine At.go ?_
        refine WC.seq (by kernel_rfl) ?_
        refine WC.reg [0, 1, 2, 3, 4, 5, 6, 7, 8] (by kernel_rfl) (by kernel_rfl) ?_
        refine WR.runk [0] [1, 2, 3, 4, 5, 6, 7, 8] [7, 8, 11, 12, 13, 46, 47, 48, 56] (L' := [(7, .int .i64 (wi (1 + (wi (Int.tmod a1 20))))), (8, .pointer (some ⟨b26, 0, none⟩)), (11, .int .i64 x11_l2), (12, .int .i64 x48_l2), (13, .int .u8 v44), (46, .slice A2 l2.length c2), (47, .int .i64 (l2.length : Int)), (48, .int .i64 x48_l2), (56, .pointer (some ⟨b26, 0, none⟩))]) (w' := w) (by kernel_rfl) ?_
        obtain ⟨r47, e48, H⟩ := bind_ex H
        obtain ⟨B53, hso52, hsub50, hcs51, hb49⟩ := Sat.lend [O46 b26 q27_l2] (cs := []) hS
        refine WR.st (St.call (by kernel_rfl) (f := 10) (args := #[.pointer (some ⟨b26, 0, none⟩)]) (by kernel_rfl) (fair_Ring_Next.calls B53 w b26 q27_l2 hso52  r47 e48) ?_)
        rintro _ w54 ⟨rfl, hS55⟩
        have hS : Sat w54 (rf w0) [O46 b26 r47.2.2.2] := hb49 _ _ hS55
        refine WR.runk [2, 3, 4, 5, 6, 7, 8] [] [7, 8, 11, 12, 13, 14, 15, 16, 46, 47, 48] (L' := [(7, .int .i64 (wi (1 + (wi (Int.tmod a1 20))))), (8, .pointer (some ⟨b26, 0, none⟩)), (11, .int .i64 x11_l2), (12, .int .i64 x48_l2), (13, .int .u8 v44), (14, .int .i64 r47.1), (15, .int .i64 r47.2.1), (16, .bool r47.2.2.1), (46, .slice A2 l2.length c2), (47, .int .i64 (l2.length : Int)), (48, .int .i64 x48_l2)]) (w' := w54) (by kernel_rfl) ?_
        refine WR.nil ?_
        refine At.go ?_
        refine WC.seq (by kernel_rfl) ?_
        refine WC.seq (by kernel_rfl) ?_
        refine WC.reg [0, 1, 2, 3, 4, 5, 6, 7, 8, 9, 10, 11, 12, 13, 14, 15, 16, 17, 18, 19, 20, 21] (by kernel_rfl) (by kernel_rfl) ?_
        refine WR.runk [0, 1, 2] [3, 4, 5, 6, 7, 8, 9, 10, 11, 12, 13, 14, 15, 16, 17, 18, 19, 20, 21] [7, 8, 11, 12, 13, 14, 15, 46, 47, 48, 63] (L' := [(7, .int .i64 (wi (1 + (wi (Int.tmod a1 20))))), (8, .pointer (some ⟨b26, 0, none⟩)), (11, .int .i64 x11_l2), (12, .int .i64 x48_l2), (13, .int .u8 v44), (14, .int .i64 r47.1), (15, .int .i64 r47.2.1), (46, .slice A2 l2.length c2), (47, .int .i64 (l2.length : Int)), (48, .int .i64 x48_l2), (63, .bool (!r47.2.2.1))]) (w' := w54) (by kernel_rfl) ?_
        refine WR.split 63 (b := (!r47.2.2.1)) (by kernel_rfl) (fun hb56 => ?_) (fun hb56 => ?_)
        · replace H := ite_t H hb56
          refine WR.runk [3, 4, 5, 6, 7, 8, 9, 10, 11, 12, 13, 14, 15, 16, 17, 18, 19, 20, 21] [] [7, 8, 11, 13, 46, 47, 48, 64, 65, 68, 69, 70, 71, 72, 73, 76, 77, 78, 79, 80, 81, 82] (L' := [(7, .int .i64 (wi (1 + (wi (Int.tmod a1 20))))), (8, .pointer (some ⟨b26, 0, none⟩)), (11, .int .i64 x11_l2), (13, .int .u8 v44), (46, .slice A2 l2.length c2), (47, .int .i64 (l2.length : Int)), (48, .int .i64 x48_l2), (64, undef), (65, undef), (68, undef), (69, undef), (70, undef), (71, undef), (72, undef), (73, undef), (76, undef), (77, undef), (78, undef), (79, undef), (80, undef), (81, undef), (82, .bool true)]) (w' := w54) (by kernel_rfl) ?_
          refine WR.nil ?_
          refine At.go ?_
          refine WC.condT (by kernel_rfl) (by kernel_rfl) (by kernel_rfl) ?_
          refine WC.seq (by kernel_rfl) ?_
          refine WC.reg [0] (by kernel_rfl) (by kernel_rfl) ?_
          refine WR.runk [0] [] [6] (L' := [(6, .bool false)]) (w' := w54) (by kernel_rfl) ?_
          refine WR.nil ?_
          refine At.go ?_
          refine WC.ret (by kernel_rfl) ?_
          refine At.thenRet ?_
          refine At.blockRet ?_
          refine At.thenRet ?_
          refine At.thenRet ?_
          obtain rfl := Option.some.inj H
          have hS : Sat w54 (rf w0) [O46 b26 r47.2.2.2] := hS.sel [0] (by kernel_rfl)
          refine At.weaken [6] (L' := [(6, .bool false)]) (by kernel_rfl) ?_
          exact hn1 (false, r47.2.2.2) _ rfl hS
        · replace H := ite_f H hb56
          refine WR.runk [3, 4, 5, 6] [7, 8, 9, 10, 11, 12, 13, 14, 15, 16, 17, 18, 19, 20, 21] [7, 8, 11, 12, 13, 15, 46, 47, 48, 64, 65, 67] (L' := [(7, .int .i64 (wi (1 + (wi (Int.tmod a1 20))))), (8, .pointer (some ⟨b26, 0, none⟩)), (11, .int .i64 x11_l2), (12, .int .i64 x48_l2), (13, .int .u8 v44), (15, .int .i64 r47.2.1), (46, .slice A2 l2.length c2), (47, .int .i64 (l2.length : Int)), (48, .int .i64 x48_l2), (64, .int .i64 r47.1), (65, .bool (r47.1 != 0)), (67, .bool (r47.1 != 0))]) (w' := w54) (by kernel_rfl) ?_
          refine WR.split 67 (b := (r47.1 != 0)) (by kernel_rfl) (fun hb57 => ?_) (fun hb57 => ?_)
          · replace H := ite_t H hb57
            refine WR.runk [7, 8, 9, 10, 11, 12, 13, 14, 15, 16, 17, 18, 19, 20, 21] [] [7, 8, 11, 13, 46, 47, 48, 64, 65, 68, 69, 70, 71, 72, 73, 76, 77, 78, 79, 80, 81, 82] (L' := [(7, .int .i64 (wi (1 + (wi (Int.tmod a1 20))))), (8, .pointer (some ⟨b26, 0, none⟩)), (11, .int .i64 x11_l2), (13, .int .u8 v44), (46, .slice A2 l2.length c2), (47, .int .i64 (l2.length : Int)), (48, .int .i64 x48_l2), (64, .int .i64 r47.1), (65, .bool (r47.1 != 0)), (68, undef), (69, undef), (70, undef), (71, undef), (72, undef), (73, undef), (76, undef), (77, undef), (78, undef), (79, undef), (80, undef), (81, undef), (82, .bool true)]) (w' := w54) (by kernel_rfl) ?_
            refine WR.nil ?_
            refine At.go ?_
            refine WC.condT (by kernel_rfl) (by kernel_rfl) (by kernel_rfl) ?_
            refine WC.seq (by kernel_rfl) ?_
            refine WC.reg [0] (by kernel_rfl) (by kernel_rfl) ?_
            refine WR.runk [0] [] [6] (L' := [(6, .bool false)]) (w' := w54) (by kernel_rfl) ?_
            refine WR.nil ?_
            refine At.go ?_
            refine WC.ret (by kernel_rfl) ?_
            refine At.thenRet ?_
            refine At.blockRet ?_
            refine At.thenRet ?_
            refine At.thenRet ?_
            obtain rfl := Option.some.inj H
            have hS : Sat w54 (rf w0) [O46 b26 r47.2.2.2] := hS.sel [0] (by kernel_rfl)
            refine At.weaken [6] (L' := [(6, .bool false)]) (by kernel_rfl) ?_
            exact hn1 (false, r47.2.2.2) _ rfl hS
          · replace H := ite_f H hb57
            refine WR.runk [7, 8, 9] [10, 11, 12, 13, 14, 15, 16, 17, 18, 19, 20, 21] [7, 8, 11, 13, 46, 47, 48, 64, 65, 67, 68, 69, 70] (L' := [(7, .int .i64 (wi (1 + (wi (Int.tmod a1 20))))), (8, .pointer (some ⟨b26, 0, none⟩)), (11, .int .i64 x11_l2), (13, .int .u8 v44), (46, .slice A2 l2.length c2), (47, .int .i64 (l2.length : Int)), (48, .int .i64 x48_l2), (64, .int .i64 r47.1), (65, .bool (r47.1 != 0)), (67, .bool false), (68, .int .i64 r47.2.1), (69, .int .i64 x48_l2), (70, .int .i64 (wi (1 + (wi (Int.tmod a1 20)))))]) (w' := w54) (by kernel_rfl) ?_
            obtain ⟨_, e58, H⟩ := bind_ex H
            refine WR.st (St.ofP (PSt.div (k := .i64) (t := 3) (t2 := 3) (a := x48_l2) (b := (wi (1 + (wi (Int.tmod a1 20))))) .rem (by decide) (.tmp 69) (.tmp 70) (by kernel_rfl) (by kernel_rfl) (by kernel_rfl) (by kernel_rfl) (of_decide_eq_true (chk?_some e58)) ?_))
            refine WR.runk [11, 12, 13, 14] [15, 16, 17, 18, 19, 20, 21] [7, 8, 11, 13, 46, 47, 48, 64, 65, 68, 69, 70, 71, 72, 73, 75] (L' := [(7, .int .i64 (wi (1 + (wi (Int.tmod a1 20))))), (8, .pointer (some ⟨b26, 0, none⟩)), (11, .int .i64 x11_l2), (13, .int .u8 v44), (46, .slice A2 l2.length c2), (47, .int .i64 (l2.length : Int)), (48, .int .i64 x48_l2), (64, .int .i64 r47.1), (65, .bool (r47.1 != 0)), (68, .int .i64 r47.2.1), (69, .int .i64 x48_l2), (70, .int .i64 (wi (1 + (wi (Int.tmod a1 20))))), (71, .int .i64 (Int.tmod x48_l2 (wi (1 + (wi (Int.tmod a1 20)))))), (72, .int .i64 (wi (100 + (Int.tmod x48_l2 (wi (1 + (wi (Int.tmod a1 20)))))))), (73, .bool (r47.2.1 != (wi (100 + (Int.tmod x48_l2 (wi (1 + (wi (Int.tmod a1 20))))))))), (75, .bool (r47.2.1 != (wi (100 + (Int.tmod x48_l2 (wi (1 + (wi (Int.tmod a1 20)))))))))]) (w' := w54) (by kernel_rfl) ?_
            refine WR.split 75 (b := (r47.2.1 != (wi (100 + (Int.tmod x48_l2 (wi (1 + (wi (Int.tmod a1 20))))))))) (by kernel_rfl) (fun hb59 => ?_) (fun hb59 => ?_)
            · replace H := ite_t H hb59
              refine WR.runk [15, 16, 17, 18, 19, 20, 21] [] [7, 8, 11, 13, 46, 47, 48, 64, 65, 68, 69, 70, 71, 72, 73, 76, 77, 78, 79, 80, 81, 82] (L' := [(7, .int .i64 (wi (1 + (wi (Int.tmod a1 20))))), (8, .pointer (some ⟨b26, 0, none⟩)), (11, .int .i64 x11_l2), (13, .int .u8 v44), (46, .slice A2 l2.length c2), (47, .int .i64 (l2.length : Int)), (48, .int .i64 x48_l2), (64, .int .i64 r47.1), (65, .bool (r47.1 != 0)), (68, .int .i64 r47.2.1), (69, .int .i64 x48_l2), (70, .int .i64 (wi (1 + (wi (Int.tmod a1 20))))), (71, .int .i64 (Int.tmod x48_l2 (wi (1 + (wi (Int.tmod a1 20)))))), (72, .int .i64 (wi (100 + (Int.tmod x48_l2 (wi (1 + (wi (Int.tmod a1 20)))))))), (73, .bool (r47.2.1 != (wi (100 + (Int.tmod x48_l2 (wi (1 + (wi (Int.tmod a1 20))))))))), (76, undef), (77, undef), (78, undef), (79, undef), (80, undef), (81, undef), (82, .bool true)]) (w' := w54) (by kernel_rfl) ?_
              refine WR.nil ?_
              refine At.go ?_
              refine WC.condT (by kernel_rfl) (by kernel_rfl) (by kernel_rfl) ?_
              refine WC.seq (by kernel_rfl) ?_
              refine WC.reg [0] (by kernel_rfl) (by kernel_rfl) ?_
              refine WR.runk [0] [] [6] (L' := [(6, .bool false)]) (w' := w54) (by kernel_rfl) ?_
              refine WR.nil ?_
              refine At.go ?_
              refine WC.ret (by kernel_rfl) ?_
              refine At.thenRet ?_
              refine At.blockRet ?_
              refine At.thenRet ?_
              refine At.thenRet ?_
              obtain rfl := Option.some.inj H
              have hS : Sat w54 (rf w0) [O46 b26 r47.2.2.2] := hS.sel [0] (by kernel_rfl)
              refine At.weaken [6] (L' := [(6, .bool false)]) (by kernel_rfl) ?_
              exact hn1 (false, r47.2.2.2) _ rfl hS
            · replace H := ite_f H hb59
              refine WR.runk [15, 16, 17, 18] [19, 20, 21] [7, 8, 11, 13, 46, 47, 48, 64, 65, 68, 69, 70, 71, 72, 73, 75, 76, 77, 78, 79] (L' := [(7, .int .i64 (wi (1 + (wi (Int.tmod a1 20))))), (8, .pointer (some ⟨b26, 0, none⟩)), (11, .int .i64 x11_l2), (13, .int .u8 v44), (46, .slice A2 l2.length c2), (47, .int .i64 (l2.length : Int)), (48, .int .i64 x48_l2), (64, .int .i64 r47.1), (65, .bool (r47.1 != 0)), (68, .int .i64 r47.2.1), (69, .int .i64 x48_l2), (70, .int .i64 (wi (1 + (wi (Int.tmod a1 20))))), (71, .int .i64 (Int.tmod x48_l2 (wi (1 + (wi (Int.tmod a1 20)))))), (72, .int .i64 (wi (100 + (Int.tmod x48_l2 (wi (1 + (wi (Int.tmod a1 20)))))))), (73, .bool (r47.2.1 != (wi (100 + (Int.tmod x48_l2 (wi (1 + (wi (Int.tmod a1 20))))))))), (75, .bool false), (76, .pointer (some ⟨b26, 0, none⟩)), (77, .int .u8 v44), (78, .int .u8 (Int.tmod v44 4)), (79, .int .i64 (wi (Int.tmod v44 4)))]) (w' := w54) (by kernel_rfl) ?_
              obtain ⟨r60, e61, H⟩ := bind_ex H
              obtain ⟨B66, hso65, hsub63, hcs64, hb62⟩ := Sat.lend [O46 b26 r47.2.2.2] (cs := []) hS
              refine WR.st (St.call (by kernel_rfl) (f := 11) (args := #[.pointer (some ⟨b26, 0, none⟩), .int .i64 (wi (Int.tmod v44 4))]) (by kernel_rfl) (fair_Ring_Charge.calls B66 w54 b26 r47.2.2.2 hso65 (wi (Int.tmod v44 4)) r60 e61) ?_)
              rintro _ w67 ⟨rfl, hS68⟩
              have hS : Sat w67 (rf w0) [O46 b26 r60.2] := hb62 _ _ hS68
              refine WR.runk [20, 21] [] [7, 8, 11, 13, 46, 47, 48, 64, 65, 68, 69, 70, 71, 72, 73, 76, 77, 78, 79, 80, 81, 82] (L' := [(7, .int .i64 (wi (1 + (wi (Int.tmod a1 20))))), (8, .pointer (some ⟨b26, 0, none⟩)), (11, .int .i64 x11_l2), (13, .int .u8 v44), (46, .slice A2 l2.length c2), (47, .int .i64 (l2.length : Int)), (48, .int .i64 x48_l2), (64, .int .i64 r47.1), (65, .bool (r47.1 != 0)), (68, .int .i64 r47.2.1), (69, .int .i64 x48_l2), (70, .int .i64 (wi (1 + (wi (Int.tmod a1 20))))), (71, .int .i64 (Int.tmod x48_l2 (wi (1 + (wi (Int.tmod a1 20)))))), (72, .int .i64 (wi (100 + (Int.tmod x48_l2 (wi (1 + (wi (Int.tmod a1 20)))))))), (73, .bool (r47.2.1 != (wi (100 + (Int.tmod x48_l2 (wi (1 + (wi (Int.tmod a1 20))))))))), (76, .pointer (some ⟨b26, 0, none⟩)), (77, .int .u8 v44), (78, .int .u8 (Int.tmod v44 4)), (79, .int .i64 (wi (Int.tmod v44 4))), (80, .bool r60.1), (81, .bool (!r60.1)), (82, .bool (!r60.1))]) (w' := w67) (by kernel_rfl) ?_
              refine WR.nil ?_
              refine At.go ?_
              refine WC.cond (by kernel_rfl) (!r60.1) (by kernel_rfl) (by kernel_rfl) (fun hb69 => ?_) (fun hb69 => ?_)
              · replace H := ite_t H hb69
                refine WC.seq (by kernel_rfl) ?_
                refine WC.reg [0] (by kernel_rfl) (by kernel_rfl) ?_
                refine WR.runk [0] [] [6] (L' := [(6, .bool false)]) (w' := w67) (by kernel_rfl) ?_
                refine WR.nil ?_
                refine At.go ?_
                refine WC.ret (by kernel_rfl) ?_
                refine At.thenRet ?_
                refine At.blockRet ?_
                refine At.thenRet ?_
                refine At.thenRet ?_
                obtain rfl := Option.some.inj H
                have hS : Sat w67 (rf w0) [O46 b26 r60.2] := hS.sel [0] (by kernel_rfl)
                refine At.weaken [6] (L' := [(6, .bool false)]) (by kernel_rfl) ?_
                exact hn1 (false, r60.2) _ rfl hS
              · replace H := ite_f H hb69
                refine WC.skip (by kernel_rfl) ?_
                refine At.go ?_
                refine WC.reg [0, 1, 2, 3, 4, 5] (by kernel_rfl) (by kernel_rfl) ?_
                refine WR.runk [0, 1, 2, 3, 4, 5] [] [7, 8, 11, 46, 47, 48, 64, 65, 68, 69, 70, 71, 72, 73, 76, 77, 78, 79, 80] (L' := [(7, .int .i64 (wi (1 + (wi (Int.tmod a1 20))))), (8, .pointer (some ⟨b26, 0, none⟩)), (11, .int .i64 (wi (x11_l2 + (wi (Int.tmod v44 4))))), (46, .slice A2 l2.length c2), (47, .int .i64 (l2.length : Int)), (48, .int .i64 x48_l2), (64, .int .i64 r47.1), (65, .bool (r47.1 != 0)), (68, .int .i64 r47.2.1), (69, .int .i64 x48_l2), (70, .int .i64 (wi (1 + (wi (Int.tmod a1 20))))), (71, .int .i64 (Int.tmod x48_l2 (wi (1 + (wi (Int.tmod a1 20)))))), (72, .int .i64 (wi (100 + (Int.tmod x48_l2 (wi (1 + (wi (Int.tmod a1 20)))))))), (73, .bool (r47.2.1 != (wi (100 + (Int.tmod x48_l2 (wi (1 + (wi (Int.tmod a1 20))))))))), (76, .pointer (some ⟨b26, 0, none⟩)), (77, .int .u8 v44), (78, .int .u8 (Int.tmod v44 4)), (79, .int .i64 (wi (Int.tmod v44 4))), (80, .bool r60.1)]) (w' := w67) (by kernel_rfl) ?_
                refine WR.nil ?_
                refine At.blockNormal ?_
                refine At.go ?_
                refine WC.reg [0, 1] (by kernel_rfl) (by kernel_rfl) ?_
                refine WR.runk [0, 1] [] [7, 8, 11, 46, 47, 48, 64, 65, 68, 69, 70, 71, 72, 73, 76, 77, 78, 79, 80] (L' := [(7, .int .i64 (wi (1 + (wi (Int.tmod a1 20))))), (8, .pointer (some ⟨b26, 0, none⟩)), (11, .int .i64 (wi (x11_l2 + (wi (Int.tmod v44 4))))), (46, .slice A2 l2.length c2), (47, .int .i64 (l2.length : Int)), (48, .int .i64 (wi (x48_l2 + 1))), (64, .int .i64 r47.1), (65, .bool (r47.1 != 0)), (68, .int .i64 r47.2.1), (69, .int .i64 x48_l2), (70, .int .i64 (wi (1 + (wi (Int.tmod a1 20))))), (71, .int .i64 (Int.tmod x48_l2 (wi (1 + (wi (Int.tmod a1 20)))))), (72, .int .i64 (wi (100 + (Int.tmod x48_l2 (wi (1 + (wi (Int.tmod a1 20)))))))), (73, .bool (r47.2.1 != (wi (100 + (Int.tmod x48_l2 (wi (1 + (wi (Int.tmod a1 20))))))))), (76, .pointer (some ⟨b26, 0, none⟩)), (77, .int .u8 v44), (78, .int .u8 (Int.tmod v44 4)), (79, .int .i64 (wi (Int.tmod v44 4))), (80, .bool r60.1)]) (w' := w67) (by kernel_rfl) ?_
                refine WR.nil ?_
                have hS : Sat w67 (rf w0) [O46 b26 r60.2] := hS.sel [0] (by kernel_rfl)
                refine At.again ?_
                refine WL.weaken [7, 8, 11, 46, 47, 48] (L' := [(7, .int .i64 (wi (1 + (wi (Int.tmod a1 20))))), (8, .pointer (some ⟨b26, 0, none⟩)), (11, .int .i64 (wi (x11_l2 + (wi (Int.tmod v44 4))))), (46, .slice A2 l2.length c2), (47, .int .i64 (l2.length : Int)), (48, .int .i64 (wi (x48_l2 + 1)))]) (by kernel_rfl) ?_
                exact ih (wi (x11_l2 + (wi (Int.tmod v44 4)))) (wi (x48_l2 + 1)) r60.2 _ hS H
    · replace H := ite_f H hb43
      refine WC.exit (by kernel_rfl) ?_
      refine At.thenExit ?_
      refine At.thenExit ?_
      obtain rfl := Option.some.inj H
      have hS : Sat w (rf w0) [O46 b26 q27_l2] := hS.sel [0] (by kernel_rfl)
      refine At.weaken [8, 11] (L' := [(8, .pointer (some ⟨b26, 0, none⟩)), (11, .int .i64 x11_l2)]) (by kernel_rfl) ?_
      exact hn0 (x11_l2, q27_l2) _ rfl hS
theorem colophonlaw23_FairOne.calls (w0 : World) (a0 : Int) (a1 : Int) (A2 : Option Addr) (c2 : Nat) (l2 : List Int) (R2 : rdS (r0 (.int .u8)) 1 (hp w0) A2 c2 l2) (r : Bool) (H : colophonlaw23_FairOne.f a0 a1 l2 = some r) :
    Calls Try.prog 4 #[.int .i64 a0, .int .u8 a1, .slice A2 l2.length c2] w0 (fun e w' => ∃ v, e = .returned v ∧ colophonlaw23_FairOne.post w0 r v w') := by
  have hS : Sat w0 (rf w0) [] := Sat.start w0
  unfold colophonlaw23_FairOne.f at H
  refine calls_of_WC (vs := [.int .i64 a0, .int .u8 a1, .slice A2 l2.length c2]) Try.func4 (c := C4) (n := 93) (by kernel_rfl) (by kernel_rfl) (by kernel_rfl) ?_
  refine WC.seq (by kernel_rfl) ?_
  refine WC.reg [0] (by kernel_rfl) (by kernel_rfl) ?_
  refine WR.runk [0] [] [0, 1, 2] (L' := [(0, .int .i64 a0), (1, .int .u8 a1), (2, .slice A2 l2.length c2)]) (w' := w0) (by kernel_rfl) ?_
  refine WR.nil ?_
  refine At.go ?_
  refine WC.seq (by kernel_rfl) ?_
  refine WC.seq (by kernel_rfl) ?_
  refine WC.reg [0, 1] (by kernel_rfl) (by kernel_rfl) ?_
  obtain ⟨r1, e2, H⟩ := bind_ex H
  refine WR.st (St.call (by kernel_rfl) (f := 7) (args := #[]) (by kernel_rfl) (colophonlaw23_first.calls w0  r1 e2) ?_)
  rintro _ w8 ⟨rfl, hS9⟩
  have hS : Sat w8 (rf w0) [] := hS.ext hS9
  refine WR.runk [1] [] [0, 1, 2, 18] (L' := [(0, .int .i64 a0), (1, .int .u8 a1), (2, .slice A2 l2.length c2), (18, .bool (!r1))]) (w' := w8) (by kernel_rfl) ?_
  refine WR.nil ?_
  refine At.go ?_
  refine WC.cond (by kernel_rfl) (!r1) (by kernel_rfl) (by kernel_rfl) (fun hb10 => ?_) (fun hb10 => ?_)
  · replace H := ite_t H hb10
    refine WC.seq (by kernel_rfl) ?_
    refine WC.reg [0] (by kernel_rfl) (by kernel_rfl) ?_
    refine WR.runk [0] [] [6] (L' := [(6, .bool false)]) (w' := w8) (by kernel_rfl) ?_
    refine WR.nil ?_
    refine At.go ?_
    refine WC.ret (by kernel_rfl) ?_
    refine At.thenRet ?_
    obtain rfl := Option.some.inj H
    have hS : Sat w8 (rf w0) [] := hS.sel [] (by kernel_rfl)
    exact At.body [.bool false] (by kernel_rfl) ⟨_, rfl, rfl, hS⟩
  · replace H := ite_f H hb10
    refine WC.skip (by kernel_rfl) ?_
    refine At.go ?_
    refine WC.seq (by kernel_rfl) ?_
    refine WC.reg [0, 1, 2, 3, 4] (by kernel_rfl) (by kernel_rfl) ?_
    refine WR.runk [0, 1, 2, 3, 4] [] [0, 1, 2, 7] (L' := [(0, .int .i64 a0), (1, .int .u8 a1), (2, .slice A2 l2.length c2), (7, .int .i64 (wi (1 + (wi (Int.tmod a1 20)))))]) (w' := w8) (by kernel_rfl) ?_
    refine WR.nil ?_
    refine At.go ?_
    refine WC.seq (by kernel_rfl) ?_
    refine WC.reg [0, 1, 2, 3, 4, 5, 6, 7, 8, 9, 10, 11, 12, 13, 14, 15] (by kernel_rfl) (by kernel_rfl) ?_
    refine WR.runk [0, 1, 2, 3, 4, 5, 6, 7, 8] [9, 10, 11, 12, 13, 14, 15] [2, 7, 28, 32] (L' := [(2, .slice A2 l2.length c2), (7, .int .i64 (wi (1 + (wi (Int.tmod a1 20))))), (28, .int .i64 (wi (1 + (wi (Int.tmod (IntKind.wrap .u64 a0) 4096))))), (32, .int .i64 (wi (1 + (wi (Int.tmod a1 16)))))]) (w' := w8) (by kernel_rfl) ?_
    refine WR.st (St.box hS (by kernel_rfl) (.cells #[.int .i64 (wi (1 + (wi (Int.tmod a1 16))))] 3) (fun b11 => .slice (some ⟨b11, 0, none⟩) 1 1) (fun _ => by kernel_rfl) (fun b11 w12 hS => ?_))
    refine WR.runk [] [10, 11, 12, 13, 14, 15] [2, 7, 28, 33] (L' := [(2, .slice A2 l2.length c2), (7, .int .i64 (wi (1 + (wi (Int.tmod a1 20))))), (28, .int .i64 (wi (1 + (wi (Int.tmod (IntKind.wrap .u64 a0) 4096))))), (33, .slice (some ⟨b11, 0, none⟩) 1 1)]) (w' := w12) (by kernel_rfl) ?_
    obtain ⟨r13, e14, H⟩ := bind_ex H
    refine WR.st (St.call (by kernel_rfl) (f := 8) (args := #[.int .i64 (wi (1 + (wi (Int.tmod (IntKind.wrap .u64 a0) 4096)))), .slice (some ⟨b11, 0, none⟩) 1 1]) (by kernel_rfl) (fair_New.calls w12 (wi (1 + (wi (Int.tmod (IntKind.wrap .u64 a0) 4096)))) (some ⟨b11, 0, none⟩) 1 ([wi (1 + (wi (Int.tmod a1 16)))] : List Int) (Sat.ptsAt 0 (r0 (.int .i64)) 1 ([wi (1 + (wi (Int.tmod a1 16)))] : List Int) hS rfl rfl (rdL.cons1 rfl (rdL.nil _ _))) r13 e14) ?_)
    rintro _ w20 ⟨pv22, rfl, hS21⟩
    have hS : Sat w20 (rf w0) [optP O46 pv22 r13.1, pts b11 (.cells #[.int .i64 (wi (1 + (wi (Int.tmod a1 16))))] 3 (0, 0))] := hS.ext hS21
    refine WR.runk [11, 12, 13, 14, 15] [] [2, 7, 8] (L' := [(2, .slice A2 l2.length c2), (7, .int .i64 (wi (1 + (wi (Int.tmod a1 20))))), (8, pv22)]) (w' := w20) (by kernel_rfl) ?_
    refine WR.nil ?_
    refine At.go ?_
    refine WC.seq (by kernel_rfl) ?_
    refine WC.seq (by kernel_rfl) ?_
    refine WC.reg [0, 1] (by kernel_rfl) (by kernel_rfl) ?_
    refine WR.runk [0, 1] [] [2, 7, 8, 37, 38] (L' := [(2, .slice A2 l2.length c2), (7, .int .i64 (wi (1 + (wi (Int.tmod a1 20))))), (8, pv22), (37, .int .i64 (wi (1 + (wi (Int.tmod a1 20))))), (38, .int .i64 0)]) (w' := w20) (by kernel_rfl) ?_
    refine WR.nil ?_
    refine At.go ?_
    refine WC.block (by kernel_rfl) ?_
    obtain ⟨y23, hr24, H⟩ := bind_ex H
    obtain ⟨b26, hv25, hN89⟩ := optP.some hS hr24
    subst hv25
    have hS : Sat w20 (rf w0) [O46 b26 y23, pts b11 (.cells #[.int .i64 (wi (1 + (wi (Int.tmod a1 16))))] 3 (0, 0))] := hN89
    have hS : Sat w20 (rf w0) [O46 b26 y23] := hS.sel [0] (by kernel_rfl)
    obtain ⟨o38, e39, H⟩ := bind_ex H
    refine WC.loop (by kernel_rfl) ?_
    refine WL.weaken [2, 7, 8, 37, 38] (L' := [(2, .slice A2 l2.length c2), (7, .int .i64 (wi (1 + (wi (Int.tmod a1 20))))), (8, .pointer (some ⟨b26, 0, none⟩)), (37, .int .i64 (wi (1 + (wi (Int.tmod a1 20))))), (38, .int .i64 0)]) (by kernel_rfl) ?_
    refine colophonlaw23_FairOne.l1_ok w0 a1 A2 c2 l2 b26 o38 (fun w41 hS => ?_) FU 0 y23 _ hS e39
    refine At.hit ?_
    refine At.go ?_
    refine WC.seq (by kernel_rfl) ?_
    refine WC.reg [0] (by kernel_rfl) (by kernel_rfl) ?_
    refine WR.runk [0] [] [2, 7, 8, 11] (L' := [(2, .slice A2 l2.length c2), (7, .int .i64 (wi (1 + (wi (Int.tmod a1 20))))), (8, .pointer (some ⟨b26, 0, none⟩)), (11, .int .i64 0)]) (w' := w41) (by kernel_rfl) ?_
    refine WR.nil ?_
    refine At.go ?_
    refine WC.seq (by kernel_rfl) ?_
    refine WC.seq (by kernel_rfl) ?_
    refine WC.reg [0, 1, 2] (by kernel_rfl) (by kernel_rfl) ?_
    refine WR.runk [0, 1, 2] [] [7, 8, 11, 46, 47, 48] (L' := [(7, .int .i64 (wi (1 + (wi (Int.tmod a1 20))))), (8, .pointer (some ⟨b26, 0, none⟩)), (11, .int .i64 0), (46, .slice A2 l2.length c2), (47, .int .i64 (l2.length : Int)), (48, .int .i64 0)]) (w' := w41) (by kernel_rfl) ?_
    refine WR.nil ?_
    refine At.go ?_
    refine WC.block (by kernel_rfl) ?_
    have hS : Sat w41 (rf w0) [O46 b26 o38] := hS.sel [0] (by kernel_rfl)
    obtain ⟨o70, e71, H⟩ := bind_ex H
    refine WC.loop (by kernel_rfl) ?_
    refine WL.weaken [7, 8, 11, 46, 47, 48] (L' := [(7, .int .i64 (wi (1 + (wi (Int.tmod a1 20))))), (8, .pointer (some ⟨b26, 0, none⟩)), (11, .int .i64 0), (46, .slice A2 l2.length c2), (47, .int .i64 (l2.length : Int)), (48, .int .i64 0)]) (by kernel_rfl) ?_
    refine colophonlaw23_FairOne.l2_ok w0 a1 A2 c2 l2 b26 R2 o70 (fun o72 w74 ho75 hS => ?_) (fun o85 w87 ho88 hS => ?_) FU 0 0 o38 _ hS e71
    · subst ho75
      dsimp only at H
      refine At.hit ?_
      refine At.go ?_
      refine WC.seq (by kernel_rfl) ?_
      refine WC.reg [0, 1, 2, 3, 4] (by kernel_rfl) (by kernel_rfl) ?_
      refine WR.runk [0] [1, 2, 3, 4] [11, 89] (L' := [(11, .int .i64 o72.1), (89, .pointer (some ⟨b26, 0, none⟩))]) (w' := w74) (by kernel_rfl) ?_
      obtain ⟨r76, e77, H⟩ := bind_ex H
      refine WR.st (St.call (by kernel_rfl) (f := 12) (args := #[.pointer (some ⟨b26, 0, none⟩), .int .i64 0]) (by kernel_rfl) (fair_Ring_Spent.calls w74 (.pointer (some ⟨b26, 0, none⟩)) (some o72.2) (Sat.rdAny 0 hS rfl (fun _ h => O46.rd _ _ _ h)) 0 r76 e77) ?_)
      rintro _ w83 ⟨rfl, hS84⟩
      have hS : Sat w83 (rf w0) [O46 b26 o72.2] := hS.ext hS84
      refine WR.runk [2, 3, 4] [] [6] (L' := [(6, .bool (r76 == o72.1))]) (w' := w83) (by kernel_rfl) ?_
      refine WR.nil ?_
      refine At.go ?_
      refine WC.ret (by kernel_rfl) ?_
      obtain rfl := Option.some.inj H
      have hS : Sat w83 (rf w0) [] := hS.sel [] (by kernel_rfl)
      exact At.body [.bool (r76 == o72.1)] (by kernel_rfl) ⟨_, rfl, rfl, hS⟩
    · subst ho88
      dsimp only at H
      refine At.blockRet ?_
      refine At.thenRet ?_
      obtain rfl := Option.some.inj H
      have hS : Sat w87 (rf w0) [] := hS.sel [] (by kernel_rfl)
      exact At.body [.bool o85.1] (by kernel_rfl) ⟨_, rfl, rfl, hS⟩
end Go.Proofs.Ytnffhpnlehcoiaa
