/-
  Printed by gen.py (my own tool): for each Go function a plain Lean function and the proof that a call of it does what that function says.
-/
import Derived.Test.YtamlfkfdpgchiaaGP1b
set_option linter.unusedVariables false
set_option linter.unusedSimpArgs false
set_option maxRecDepth 100000
namespace Go.Proofs.Ytamlfkfdpgchiaa
open Go Go.Gol
/-! ### 6 colophon/colophonlaw01.PackFrom -/
def colophonlaw01_PackFrom.l1 (y17 : List Int) : Nat → (List Int) → Int → Option Unit
  | 0, _, _ => none
  | k + 1, x7_l1, x64_l1 => (if decide (x64_l1 < (y17.length : Int)) then ((at? x7_l1 x64_l1).bind fun v73 => ((set? x7_l1 x64_l1 (ixor .u64 v73 5)).bind fun y75 => colophonlaw01_PackFrom.l1 y17 k y75 (wi (x64_l1 + 1)))) else some ())
def colophonlaw01_PackFrom.l2 (l2 : List Int) (r48 : (List Int) × Bool) (y67 : Int × Int × (List Int)) : Nat → Int → Option (Sum Bool Unit)
  | 0, _ => none
  | k + 1, x91_l2 => (if decide (x91_l2 < (r48.1.length : Int)) then ((at? r48.1 x91_l2).bind fun v119 => ((pack_Ints_Get.f (some y67) x91_l2).bind fun r121 => (if (r121 != v119) then some (.inl false) else colophonlaw01_PackFrom.l2 l2 r48 y67 k (wi (x91_l2 + 1))))) else some (.inr ()))
def colophonlaw01_PackFrom.l3 (y145 : List Int) : Nat → (List Int) → Int → Option Unit
  | 0, _, _ => none
  | k + 1, x7_l3, x64_l3 => (if decide (x64_l3 < (y145.length : Int)) then ((at? x7_l3 x64_l3).bind fun v201 => ((set? x7_l3 x64_l3 (ixor .u64 v201 5)).bind fun y203 => colophonlaw01_PackFrom.l3 y145 k y203 (wi (x64_l3 + 1)))) else some ())
def colophonlaw01_PackFrom.l4 (r176 : (List Int) × Bool) (y195 : Int × Int × (List Int)) : Nat → Int → Option (Sum Bool Unit)
  | 0, _ => none
  | k + 1, x91_l4 => (if decide (x91_l4 < (r176.1.length : Int)) then ((at? r176.1 x91_l4).bind fun v247 => ((pack_Ints_Get.f (some y195) x91_l4).bind fun r249 => (if (r249 != v247) then some (.inl false) else colophonlaw01_PackFrom.l4 r176 y195 k (wi (x91_l4 + 1))))) else some (.inr ()))
def colophonlaw01_PackFrom.f (a0 : Int) (a1 : Int) (l2 : List Int) : Option Bool := (colophonlaw01_first.f.bind fun r1 => (if (!r1) then some false else (if decide ((l2.length : Int) > 2000) then some true else (if decide (a1 > 3000) then (if decide (a1 ≤ 4194304) then some true else ((app? 17592186044416 (([] : List Int) : List Int) l2).bind fun y17 => ((pack_From.f a0 a1 y17).bind fun r21 => ((colophonref01_Right.f a0 a1).bind fun r31 => (if (!r31) then (if (r21.2 == 2) then (match r21.1 with | none => some true | some y42 => some false) else some false) else ((colophonref01_List.f a0 a1 l2).bind fun r48 => (if (!r48.2) then (if (r21.2 == 10) then (match r21.1 with | none => some true | some y61 => some false) else some false) else (r21.1.bind fun y67 => ((colophonlaw01_PackFrom.l1 y17 FU y17 0).bind fun o79 => (if (r21.2 != 0) then some false else ((pack_Ints_Len.f (some y67)).bind fun r85 => (if (r85 != a1) then some false else ((pack_Ints_Words.f (some y67)).bind fun r95 => ((colophonref01_Same.f r95 l2).bind fun r106 => (if (!r106) then some false else ((colophonlaw01_PackFrom.l2 l2 r48 y67 FU 0).bind fun o131 => (match o131 with | .inl o133 => some o133 | .inr o137 => some true))))))))))))))))) else ((app? 17592186044416 (([] : List Int) : List Int) l2).bind fun y145 => ((pack_From.f a0 a1 y145).bind fun r149 => ((colophonref01_Right.f a0 a1).bind fun r159 => (if (!r159) then (if (r149.2 == 2) then (match r149.1 with | none => some true | some y170 => some false) else some false) else ((colophonref01_List.f a0 a1 l2).bind fun r176 => (if (!r176.2) then (if (r149.2 == 10) then (match r149.1 with | none => some true | some y189 => some false) else some false) else (r149.1.bind fun y195 => ((colophonlaw01_PackFrom.l3 y145 FU y145 0).bind fun o207 => (if (r149.2 != 0) then some false else ((pack_Ints_Len.f (some y195)).bind fun r213 => (if (r213 != a1) then some false else ((pack_Ints_Words.f (some y195)).bind fun r223 => ((colophonref01_Same.f r223 l2).bind fun r234 => (if (!r234) then some false else ((colophonlaw01_PackFrom.l4 r176 y195 FU 0).bind fun o259 => (match o259 with | .inl o261 => some o261 | .inr o265 => some true))))))))))))))))))))
def colophonlaw01_PackFrom.post (w : World) (r : Bool) (v : Value) (w' : World) : Prop := v = (.bool r : Value) ∧ Sat w' (rf w) []
theorem colophonlaw01_PackFrom.l1_ok {Q} (w0 : World) (a1 : Int) (A2 : Option Addr) (c2 : Nat) (l2 : List Int) (y17 : List Int) (r21 : (Option (Int × Int × (List Int))) × Int) (r48 : (List Int) × Bool) (A57 : Option Addr) (c58 : Nat) (y67 : Int × Int × (List Int)) (b70 : Nat) (out : Unit) (hn0 : ∀ (w : World), Sat w (rf w0) [osl 22 (r0 (.int .u64)) 1 A57 c58 r48.1, O55 b70 y67] → At Q (.exit 0) 103 [(1, .int .i64 a1), (2, .slice A2 l2.length c2), (8, .pointer (some ⟨b70, 0, none⟩)), (9, .int .i64 r21.2), (10, .slice A57 r48.1.length c58)] w) :
    ∀ (k : Nat) (x7_l1 : List Int) (x64_l1 : Int) (A7_l1 : Option Addr) (c7_l1 : Nat) (w : World), Sat w (rf w0) [osl 22 (r0 (.int .u64)) 1 A7_l1 c7_l1 x7_l1, osl 22 (r0 (.int .u64)) 1 A57 c58 r48.1, O55 b70 y67] → colophonlaw01_PackFrom.l1 y17 k x7_l1 x64_l1 = some out → WL Try.prog (cbody (cbody (cr (cl (cr (cr (cr (cr (cr (cr (cr (cr C6)))))))))))) Q 103 [(1, .int .i64 a1), (2, .slice A2 l2.length c2), (7, .slice A7_l1 x7_l1.length c7_l1), (8, .pointer (some ⟨b70, 0, none⟩)), (9, .int .i64 r21.2), (10, .slice A57 r48.1.length c58), (63, .int .i64 (y17.length : Int)), (64, .int .i64 x64_l1)] w := by
  intro k
  induction k with
  | zero => intro x7_l1 x64_l1 A7_l1 c7_l1 w hS H; exact absurd (show none = some out from H) (by simp)
  | succ k ih =>
    intro x7_l1 x64_l1 A7_l1 c7_l1 w hS H
    unfold colophonlaw01_PackFrom.l1 at H
    refine WL.round ?_
    refine WC.seq (by kernel_rfl) ?_
    refine WC.reg [0] (by kernel_rfl) (by kernel_rfl) ?_
    refine WR.runk [0] [] [1, 2, 7, 8, 9, 10, 63, 64, 65] (L' := [(1, .int .i64 a1), (2, .slice A2 l2.length c2), (7, .slice A7_l1 x7_l1.length c7_l1), (8, .pointer (some ⟨b70, 0, none⟩)), (9, .int .i64 r21.2), (10, .slice A57 r48.1.length c58), (63, .int .i64 (y17.length : Int)), (64, .int .i64 x64_l1), (65, .bool (decide (x64_l1 < (y17.length : Int))))]) (w' := w) (by kernel_rfl) ?_
    refine WR.nil ?_
    refine At.go ?_
    refine WC.seq (by kernel_rfl) ?_
    refine WC.cond (by kernel_rfl) (decide (x64_l1 < (y17.length : Int))) (by kernel_rfl) (by kernel_rfl) (fun hb72 => ?_) (fun hb72 => ?_)
    · replace H := ite_t H hb72
      refine WC.skip (by kernel_rfl) ?_
      refine At.go ?_
      refine WC.seq (by kernel_rfl) ?_
      refine WC.block (by kernel_rfl) ?_
      refine WC.seq (by kernel_rfl) ?_
      refine WC.reg [0, 1] (by kernel_rfl) (by kernel_rfl) ?_
      refine WR.runk [0, 1] [] [1, 2, 7, 8, 9, 10, 12, 63, 64] (L' := [(1, .int .i64 a1), (2, .slice A2 l2.length c2), (7, .slice A7_l1 x7_l1.length c7_l1), (8, .pointer (some ⟨b70, 0, none⟩)), (9, .int .i64 r21.2), (10, .slice A57 r48.1.length c58), (12, .int .i64 x64_l1), (63, .int .i64 (y17.length : Int)), (64, .int .i64 x64_l1)]) (w' := w) (by kernel_rfl) ?_
      refine WR.nil ?_
      refine At.go ?_
      refine WC.reg [0, 1, 2, 3, 4, 5, 6] (by kernel_rfl) (by kernel_rfl) ?_
      refine WR.runk [0, 1] [2, 3, 4, 5, 6] [1, 2, 7, 8, 9, 10, 63, 64, 67, 68] (L' := [(1, .int .i64 a1), (2, .slice A2 l2.length c2), (7, .slice A7_l1 x7_l1.length c7_l1), (8, .pointer (some ⟨b70, 0, none⟩)), (9, .int .i64 r21.2), (10, .slice A57 r48.1.length c58), (63, .int .i64 (y17.length : Int)), (64, .int .i64 x64_l1), (67, .slice A7_l1 x7_l1.length c7_l1), (68, .int .i64 x64_l1)]) (w' := w) (by kernel_rfl) ?_
      obtain ⟨v73, e74, H⟩ := bind_ex H
      refine WR.st (St.ofP (PSt.idx (k := .i64) (.tmp 67) (.tmp 68) (by kernel_rfl) (by kernel_rfl) E32 (by kernel_rfl) (by kernel_rfl) (Sat.rdAt 0 hS rfl) e74 ?_))
      refine WR.runk [] [3, 4, 5, 6] [1, 2, 7, 8, 9, 10, 63, 64, 67, 68, 69] (L' := [(1, .int .i64 a1), (2, .slice A2 l2.length c2), (7, .slice A7_l1 x7_l1.length c7_l1), (8, .pointer (some ⟨b70, 0, none⟩)), (9, .int .i64 r21.2), (10, .slice A57 r48.1.length c58), (63, .int .i64 (y17.length : Int)), (64, .int .i64 x64_l1), (67, .slice A7_l1 x7_l1.length c7_l1), (68, .int .i64 x64_l1), (69, .pointer (some (adr A7_l1 x64_l1.toNat 1)))]) (w' := w) (by kernel_rfl) ?_
      refine WR.st (St.ofR (RSt.loadInt (t := 22) (.tmp 69) (by kernel_rfl) (by kernel_rfl) (by kernel_rfl) (by kernel_rfl) (Sat.rdAt 0 hS rfl) e74 ?_))
      refine WR.runk [4] [5, 6] [1, 2, 7, 8, 9, 10, 63, 64, 67, 68, 71] (L' := [(1, .int .i64 a1), (2, .slice A2 l2.length c2), (7, .slice A7_l1 x7_l1.length c7_l1), (8, .pointer (some ⟨b70, 0, none⟩)), (9, .int .i64 r21.2), (10, .slice A57 r48.1.length c58), (63, .int .i64 (y17.length : Int)), (64, .int .i64 x64_l1), (67, .slice A7_l1 x7_l1.length c7_l1), (68, .int .i64 x64_l1), (71, .int .u64 (ixor .u64 v73 5))]) (w' := w) (by kernel_rfl) ?_
      refine WR.st (St.ofP (PSt.idx (k := .i64) (.tmp 67) (.tmp 68) (by kernel_rfl) (by kernel_rfl) E32 (by kernel_rfl) (by kernel_rfl) (Sat.rdAt 0 hS rfl) e74 ?_))
      refine WR.runk [] [6] [1, 2, 7, 8, 9, 10, 63, 64, 71, 72] (L' := [(1, .int .i64 a1), (2, .slice A2 l2.length c2), (7, .slice A7_l1 x7_l1.length c7_l1), (8, .pointer (some ⟨b70, 0, none⟩)), (9, .int .i64 r21.2), (10, .slice A57 r48.1.length c58), (63, .int .i64 (y17.length : Int)), (64, .int .i64 x64_l1), (71, .int .u64 (ixor .u64 v73 5)), (72, .pointer (some (adr A7_l1 x64_l1.toNat 1)))]) (w' := w) (by kernel_rfl) ?_
      obtain ⟨y75, e76, H⟩ := bind_ex H
      refine WR.st (St.storeElem' (t := 22) (.tmp 72) (.tmp 71) (by kernel_rfl) (by kernel_rfl) (by kernel_rfl) hS (by kernel_rfl) (by kernel_rfl) rfl e76 rfl (fun w77 hS => ?_))
      have hl78 := set?_len e76
      refine WR.know 7 (.slice A7_l1 y75.length c7_l1) (.slice A7_l1 x7_l1.length c7_l1) (by kernel_rfl) (by rw [hl78]) ?_
      refine WR.runk [] [] [1, 2, 7, 8, 9, 10, 63, 64] (L' := [(1, .int .i64 a1), (2, .slice A2 l2.length c2), (7, .slice A7_l1 y75.length c7_l1), (8, .pointer (some ⟨b70, 0, none⟩)), (9, .int .i64 r21.2), (10, .slice A57 r48.1.length c58), (63, .int .i64 (y17.length : Int)), (64, .int .i64 x64_l1)]) (w' := w77) (by kernel_rfl) ?_
      refine WR.nil ?_
      refine At.blockNormal ?_
      refine At.go ?_
      refine WC.reg [0, 1] (by kernel_rfl) (by kernel_rfl) ?_
      refine WR.runk [0, 1] [] [1, 2, 7, 8, 9, 10, 63, 64] (L' := [(1, .int .i64 a1), (2, .slice A2 l2.length c2), (7, .slice A7_l1 y75.length c7_l1), (8, .pointer (some ⟨b70, 0, none⟩)), (9, .int .i64 r21.2), (10, .slice A57 r48.1.length c58), (63, .int .i64 (y17.length : Int)), (64, .int .i64 (wi (x64_l1 + 1)))]) (w' := w77) (by kernel_rfl) ?_
      refine WR.nil ?_
      have hS : Sat w77 (rf w0) [osl 22 (r0 (.int .u64)) 1 A7_l1 c7_l1 y75, osl 22 (r0 (.int .u64)) 1 A57 c58 r48.1, O55 b70 y67] := hS.sel [0, 1, 2] (by kernel_rfl)
      refine At.again ?_
      refine WL.weaken [1, 2, 7, 8, 9, 10, 63, 64] (L' := [(1, .int .i64 a1), (2, .slice A2 l2.length c2), (7, .slice A7_l1 y75.length c7_l1), (8, .pointer (some ⟨b70, 0, none⟩)), (9, .int .i64 r21.2), (10, .slice A57 r48.1.length c58), (63, .int .i64 (y17.length : Int)), (64, .int .i64 (wi (x64_l1 + 1)))]) (by kernel_rfl) ?_
      exact ih y75 (wi (x64_l1 + 1)) A7_l1 c7_l1 _ hS H
    · replace H := ite_f H hb72
      refine WC.exit (by kernel_rfl) ?_
      refine At.thenExit ?_
      refine At.thenExit ?_
      obtain rfl := Option.some.inj H
      have hS : Sat w (rf w0) [osl 22 (r0 (.int .u64)) 1 A57 c58 r48.1, O55 b70 y67] := hS.sel [1, 2] (by kernel_rfl)
      refine At.weaken [1, 2, 8, 9, 10] (L' := [(1, .int .i64 a1), (2, .slice A2 l2.length c2), (8, .pointer (some ⟨b70, 0, none⟩)), (9, .int .i64 r21.2), (10, .slice A57 r48.1.length c58)]) (by kernel_rfl) ?_
      exact hn0 _ hS
theorem colophonlaw01_PackFrom.l2_ok {Q} (w0 : World) (l2 : List Int) (r48 : (List Int) × Bool) (A57 : Option Addr) (c58 : Nat) (y67 : Int × Int × (List Int)) (b70 : Nat) (out : Sum Bool Unit) (hn0 : ∀ (o0 : Bool) (w : World), out = (.inl o0) → Sat w (rf w0) [O55 b70 y67] → At Q .ret 103 [(6, .bool o0)] w) (hn1 : ∀ (o1 : Unit) (w : World), out = (.inr o1) → Sat w (rf w0) [O55 b70 y67] → At Q (.exit 2) 103 [] w) :
    ∀ (k : Nat) (x91_l2 : Int) (w : World), Sat w (rf w0) [osl 22 (r0 (.int .u64)) 1 A57 c58 r48.1, O55 b70 y67] → colophonlaw01_PackFrom.l2 l2 r48 y67 k x91_l2 = some out → WL Try.prog (cbody (cbody (cr (cl (cr (cr (cr (cr (cr (cr (cr (cr (cr (cr C6)))))))))))))) Q 103 [(8, .pointer (some ⟨b70, 0, none⟩)), (10, .slice A57 r48.1.length c58), (90, .int .i64 (r48.1.length : Int)), (91, .int .i64 x91_l2)] w := by
  intro k
  induction k with
  | zero => intro x91_l2 w hS H; exact absurd (show none = some out from H) (by simp)
  | succ k ih =>
    intro x91_l2 w hS H
    unfold colophonlaw01_PackFrom.l2 at H
    refine WL.round ?_
    refine WC.seq (by kernel_rfl) ?_
    refine WC.reg [0] (by kernel_rfl) (by kernel_rfl) ?_
    refine WR.runk [0] [] [8, 10, 90, 91, 92] (L' := [(8, .pointer (some ⟨b70, 0, none⟩)), (10, .slice A57 r48.1.length c58), (90, .int .i64 (r48.1.length : Int)), (91, .int .i64 x91_l2), (92, .bool (decide (x91_l2 < (r48.1.length : Int))))]) (w' := w) (by kernel_rfl) ?_
    refine WR.nil ?_
    refine At.go ?_
    refine WC.seq (by kernel_rfl) ?_
    refine WC.cond (by kernel_rfl) (decide (x91_l2 < (r48.1.length : Int))) (by kernel_rfl) (by kernel_rfl) (fun hb116 => ?_) (fun hb116 => ?_)
    · replace H := ite_t H hb116
      refine WC.skip (by kernel_rfl) ?_
      refine At.go ?_
      refine WC.seq (by kernel_rfl) ?_
      refine WC.block (by kernel_rfl) ?_
      refine WC.seq (by kernel_rfl) ?_
      refine WC.reg [0, 1] (by kernel_rfl) (by kernel_rfl) ?_
      refine WR.runk [0, 1] [] [8, 10, 13, 90, 91] (L' := [(8, .pointer (some ⟨b70, 0, none⟩)), (10, .slice A57 r48.1.length c58), (13, .int .i64 x91_l2), (90, .int .i64 (r48.1.length : Int)), (91, .int .i64 x91_l2)]) (w' := w) (by kernel_rfl) ?_
      refine WR.nil ?_
      refine At.go ?_
      refine WC.seq (by kernel_rfl) ?_
      refine WC.drawn (by kernel_rfl) (by kernel_rfl) 8 (by kernel_rfl) (fun w117 hw118 => ?_)
      have hS := hS.heap hw118.1 hw118.2
      refine WD.weaken [8, 10, 13, 90, 91] (L' := [(8, .pointer (some ⟨b70, 0, none⟩)), (10, .slice A57 r48.1.length c58), (13, .int .i64 x91_l2), (90, .int .i64 (r48.1.length : Int)), (91, .int .i64 x91_l2)]) (by kernel_rfl) ?_
      refine WD.pure (i := 0) (v := .pointer (some ⟨b70, 0, none⟩)) (by kernel_rfl) (by kernel_rfl) (fun _ => by kernel_rfl) ?_
      refine WD.weaken [8, 10, 13, 90, 91, 94] (L' := [(8, .pointer (some ⟨b70, 0, none⟩)), (10, .slice A57 r48.1.length c58), (13, .int .i64 x91_l2), (90, .int .i64 (r48.1.length : Int)), (91, .int .i64 x91_l2), (94, .pointer (some ⟨b70, 0, none⟩))]) (by kernel_rfl) ?_
      refine WD.pure (i := 1) (v := .int .i64 x91_l2) (by kernel_rfl) (by kernel_rfl) (fun _ => by kernel_rfl) ?_
      refine WD.weaken [8, 10, 13, 90, 91, 94, 95] (L' := [(8, .pointer (some ⟨b70, 0, none⟩)), (10, .slice A57 r48.1.length c58), (13, .int .i64 x91_l2), (90, .int .i64 (r48.1.length : Int)), (91, .int .i64 x91_l2), (94, .pointer (some ⟨b70, 0, none⟩)), (95, .int .i64 x91_l2)]) (by kernel_rfl) ?_
      refine WD.pure (i := 3) (v := .slice A57 r48.1.length c58) (by kernel_rfl) (by kernel_rfl) (fun _ => by kernel_rfl) ?_
      refine WD.weaken [8, 10, 13, 90, 91, 94, 95, 97] (L' := [(8, .pointer (some ⟨b70, 0, none⟩)), (10, .slice A57 r48.1.length c58), (13, .int .i64 x91_l2), (90, .int .i64 (r48.1.length : Int)), (91, .int .i64 x91_l2), (94, .pointer (some ⟨b70, 0, none⟩)), (95, .int .i64 x91_l2), (97, .slice A57 r48.1.length c58)]) (by kernel_rfl) ?_
      refine WD.pure (i := 4) (v := .int .i64 x91_l2) (by kernel_rfl) (by kernel_rfl) (fun _ => by kernel_rfl) ?_
      refine WD.weaken [8, 10, 90, 91, 94, 95, 97, 98] (L' := [(8, .pointer (some ⟨b70, 0, none⟩)), (10, .slice A57 r48.1.length c58), (90, .int .i64 (r48.1.length : Int)), (91, .int .i64 x91_l2), (94, .pointer (some ⟨b70, 0, none⟩)), (95, .int .i64 x91_l2), (97, .slice A57 r48.1.length c58), (98, .int .i64 x91_l2)]) (by kernel_rfl) ?_
      obtain ⟨v119, e120, H⟩ := bind_ex H
      refine WD.ofP (i := 5) (by kernel_rfl) (PSt.idx (k := .i64) (.tmp 97) (.tmp 98) (by kernel_rfl) (by kernel_rfl) E32 (by kernel_rfl) (by kernel_rfl) (Sat.rdAt 0 hS rfl) e120 ?_)
      refine WD.weaken [8, 10, 90, 91, 94, 95, 99] (L' := [(8, .pointer (some ⟨b70, 0, none⟩)), (10, .slice A57 r48.1.length c58), (90, .int .i64 (r48.1.length : Int)), (91, .int .i64 x91_l2), (94, .pointer (some ⟨b70, 0, none⟩)), (95, .int .i64 x91_l2), (99, .pointer (some (adr A57 x91_l2.toNat 1)))]) (by kernel_rfl) ?_
      refine WD.ofR (i := 6) (by kernel_rfl) (RSt.loadInt (t := 22) (.tmp 99) (by kernel_rfl) (by kernel_rfl) (by kernel_rfl) (by kernel_rfl) (Sat.rdAt 0 hS rfl) e120 ?_)
      refine WD.weaken [8, 10, 90, 91, 94, 95, 100] (L' := [(8, .pointer (some ⟨b70, 0, none⟩)), (10, .slice A57 r48.1.length c58), (90, .int .i64 (r48.1.length : Int)), (91, .int .i64 x91_l2), (94, .pointer (some ⟨b70, 0, none⟩)), (95, .int .i64 x91_l2), (100, .int .u64 v119)]) (by kernel_rfl) ?_
      obtain ⟨r121, e122, H⟩ := bind_ex H
      refine WD.act (i := 2) (by kernel_rfl) (St.call (by kernel_rfl) (f := 13) (args := #[.pointer (some ⟨b70, 0, none⟩), .int .i64 x91_l2]) (by kernel_rfl) (pack_Ints_Get.calls w117 (.pointer (some ⟨b70, 0, none⟩)) (some y67) (Sat.rdAny 1 hS rfl (fun _ h => O55.rd _ _ _ h)) x91_l2 r121 e122) ?_)
      rintro _ w128 ⟨rfl, hS129⟩
      have hS : Sat w128 (rf w0) [osl 22 (r0 (.int .u64)) 1 A57 c58 r48.1, O55 b70 y67] := hS.ext hS129
      refine ⟨(asked.cons (RSt.run (n := 103) (RSt.loadInt (t := 22) (.tmp 99) (by kernel_rfl) (by kernel_rfl) (by kernel_rfl) (by kernel_rfl) (Sat.rdAt 0 hS rfl) e120 rfl)) (asked.nil _ _)), ?_⟩
      refine WD.weaken [8, 10, 90, 91, 96, 100] (L' := [(8, .pointer (some ⟨b70, 0, none⟩)), (10, .slice A57 r48.1.length c58), (90, .int .i64 (r48.1.length : Int)), (91, .int .i64 x91_l2), (96, .int .u64 r121), (100, .int .u64 v119)]) (by kernel_rfl) ?_
      refine WD.pure (i := 7) (v := .bool (r121 != v119)) (by kernel_rfl) (by kernel_rfl) (fun _ => by kernel_rfl) ?_
      refine WD.weaken [8, 10, 90, 91, 101] (L' := [(8, .pointer (some ⟨b70, 0, none⟩)), (10, .slice A57 r48.1.length c58), (90, .int .i64 (r48.1.length : Int)), (91, .int .i64 x91_l2), (101, .bool (r121 != v119))]) (by kernel_rfl) ?_
      refine WD.nil (by kernel_rfl) ?_
      refine At.go ?_
      refine WC.cond (by kernel_rfl) (r121 != v119) (by kernel_rfl) (by kernel_rfl) (fun hb130 => ?_) (fun hb130 => ?_)
      · replace H := ite_t H hb130
        refine WC.seq (by kernel_rfl) ?_
        refine WC.reg [0] (by kernel_rfl) (by kernel_rfl) ?_
        refine WR.runk [0] [] [6] (L' := [(6, .bool false)]) (w' := w128) (by kernel_rfl) ?_
        refine WR.nil ?_
        refine At.go ?_
        refine WC.ret (by kernel_rfl) ?_
        refine At.blockRet ?_
        refine At.thenRet ?_
        refine At.thenRet ?_
        obtain rfl := Option.some.inj H
        have hS : Sat w128 (rf w0) [O55 b70 y67] := hS.sel [1] (by kernel_rfl)
        refine At.weaken [6] (L' := [(6, .bool false)]) (by kernel_rfl) ?_
        exact hn0 false _ rfl hS
      · replace H := ite_f H hb130
        refine WC.skip (by kernel_rfl) ?_
        refine At.blockNormal ?_
        refine At.go ?_
        refine WC.reg [0, 1] (by kernel_rfl) (by kernel_rfl) ?_
        refine WR.runk [0, 1] [] [8, 10, 90, 91] (L' := [(8, .pointer (some ⟨b70, 0, none⟩)), (10, .slice A57 r48.1.length c58), (90, .int .i64 (r48.1.length : Int)), (91, .int .i64 (wi (x91_l2 + 1)))]) (w' := w128) (by kernel_rfl) ?_
        refine WR.nil ?_
        have hS : Sat w128 (rf w0) [osl 22 (r0 (.int .u64)) 1 A57 c58 r48.1, O55 b70 y67] := hS.sel [0, 1] (by kernel_rfl)
        refine At.again ?_
        refine WL.weaken [8, 10, 90, 91] (L' := [(8, .pointer (some ⟨b70, 0, none⟩)), (10, .slice A57 r48.1.length c58), (90, .int .i64 (r48.1.length : Int)), (91, .int .i64 (wi (x91_l2 + 1)))]) (by kernel_rfl) ?_
        exact ih (wi (x91_l2 + 1)) _ hS H
    · replace H := ite_f H hb116
      refine WC.exit (by kernel_rfl) ?_
      refine At.thenExit ?_
      refine At.thenExit ?_
      obtain rfl := Option.some.inj H
      have hS : Sat w (rf w0) [O55 b70 y67] := hS.sel [1] (by kernel_rfl)
      refine At.weaken [] (L' := []) (by kernel_rfl) ?_
      exact hn1 () _ rfl hS
theorem colophonlaw01_PackFrom.l3_ok {Q} (w0 : World) (a1 : Int) (A2 : Option Addr) (c2 : Nat) (l2 : List Int) (y145 : List Int) (r149 : (Option (Int × Int × (List Int))) × Int) (r176 : (List Int) × Bool) (A185 : Option Addr) (c186 : Nat) (y195 : Int × Int × (List Int)) (b198 : Nat) (out : Unit) (hn0 : ∀ (w : World), Sat w (rf w0) [osl 22 (r0 (.int .u64)) 1 A185 c186 r176.1, O55 b198 y195] → At Q (.exit 0) 103 [(1, .int .i64 a1), (2, .slice A2 l2.length c2), (8, .pointer (some ⟨b198, 0, none⟩)), (9, .int .i64 r149.2), (10, .slice A185 r176.1.length c186)] w) :
    ∀ (k : Nat) (x7_l3 : List Int) (x64_l3 : Int) (A7_l3 : Option Addr) (c7_l3 : Nat) (w : World), Sat w (rf w0) [osl 22 (r0 (.int .u64)) 1 A7_l3 c7_l3 x7_l3, osl 22 (r0 (.int .u64)) 1 A185 c186 r176.1, O55 b198 y195] → colophonlaw01_PackFrom.l3 y145 k x7_l3 x64_l3 = some out → WL Try.prog (cbody (cbody (cr (cl (cr (cr (cr (cr (cr (cr (cr (cr C6)))))))))))) Q 103 [(1, .int .i64 a1), (2, .slice A2 l2.length c2), (7, .slice A7_l3 x7_l3.length c7_l3), (8, .pointer (some ⟨b198, 0, none⟩)), (9, .int .i64 r149.2), (10, .slice A185 r176.1.length c186), (63, .int .i64 (y145.length : Int)), (64, .int .i64 x64_l3)] w := by
  intro k
  induction k with
  | zero => intro x7_l3 x64_l3 A7_l3 c7_l3 w hS H; exact absurd (show none = some out from H) (by simp)
  | succ k ih =>
    intro x7_l3 x64_l3 A7_l3 c7_l3 w hS H
    unfold colophonlaw01_PackFrom.l3 at H
    refine WL.round ?_
    refine WC.seq (by kernel_rfl) ?_
    refine WC.reg [0] (by kernel_rfl) (by kernel_rfl) ?_
    refine WR.runk [0] [] [1, 2, 7, 8, 9, 10, 63, 64, 65] (L' := [(1, .int .i64 a1), (2, .slice A2 l2.length c2), (7, .slice A7_l3 x7_l3.length c7_l3), (8, .pointer (some ⟨b198, 0, none⟩)), (9, .int .i64 r149.2), (10, .slice A185 r176.1.length c186), (63, .int .i64 (y145.length : Int)), (64, .int .i64 x64_l3), (65, .bool (decide (x64_l3 < (y145.length : Int))))]) (w' := w) (by kernel_rfl) ?_
    refine WR.nil ?_
    refine At.go ?_
    refine WC.seq (by kernel_rfl) ?_
    refine WC.cond (by kernel_rfl) (decide (x64_l3 < (y145.length : Int))) (by kernel_rfl) (by kernel_rfl) (fun hb200 => ?_) (fun hb200 => ?_)
    · replace H := ite_t H hb200
      refine WC.skip (by kernel_rfl) ?_
      refine At.go ?_
      refine WC.seq (by kernel_rfl) ?_
      refine WC.block (by kernel_rfl) ?_
      refine WC.seq (by kernel_rfl) ?_
      refine WC.reg [0, 1] (by kernel_rfl) (by kernel_rfl) ?_
      refine WR.runk [0, 1] [] [1, 2, 7, 8, 9, 10, 12, 63, 64] (L' := [(1, .int .i64 a1), (2, .slice A2 l2.length c2), (7, .slice A7_l3 x7_l3.length c7_l3), (8, .pointer (some ⟨b198, 0, none⟩)), (9, .int .i64 r149.2), (10, .slice A185 r176.1.length c186), (12, .int .i64 x64_l3), (63, .int .i64 (y145.length : Int)), (64, .int .i64 x64_l3)]) (w' := w) (by kernel_rfl) ?_
      refine WR.nil ?_
      refine At.go ?_
      refine WC.reg [0, 1, 2, 3, 4, 5, 6] (by kernel_rfl) (by kernel_rfl) ?_
      refine WR.runk [0, 1] [2, 3, 4, 5, 6] [1, 2, 7, 8, 9, 10, 63, 64, 67, 68] (L' := [(1, .int .i64 a1), (2, .slice A2 l2.length c2), (7, .slice A7_l3 x7_l3.length c7_l3), (8, .pointer (some ⟨b198, 0, none⟩)), (9, .int .i64 r149.2), (10, .slice A185 r176.1.length c186), (63, .int .i64 (y145.length : Int)), (64, .int .i64 x64_l3), (67, .slice A7_l3 x7_l3.length c7_l3), (68, .int .i64 x64_l3)]) (w' := w) (by kernel_rfl) ?_
      obtain ⟨v201, e202, H⟩ := bind_ex H
      refine WR.st (St.ofP (PSt.idx (k := .i64) (.tmp 67) (.tmp 68) (by kernel_rfl) (by kernel_rfl) E32 (by kernel_rfl) (by kernel_rfl) (Sat.rdAt 0 hS rfl) e202 ?_))
      refine WR.runk [] [3, 4, 5, 6] [1, 2, 7, 8, 9, 10, 63, 64, 67, 68, 69] (L' := [(1, .int .i64 a1), (2, .slice A2 l2.length c2), (7, .slice A7_l3 x7_l3.length c7_l3), (8, .pointer (some ⟨b198, 0, none⟩)), (9, .int .i64 r149.2), (10, .slice A185 r176.1.length c186), (63, .int .i64 (y145.length : Int)), (64, .int .i64 x64_l3), (67, .slice A7_l3 x7_l3.length c7_l3), (68, .int .i64 x64_l3), (69, .pointer (some (adr A7_l3 x64_l3.toNat 1)))]) (w' := w) (by kernel_rfl) ?_
      refine WR.st (St.ofR (RSt.loadInt (t := 22) (.tmp 69) (by kernel_rfl) (by kernel_rfl) (by kernel_rfl) (by kernel_rfl) (Sat.rdAt 0 hS rfl) e202 ?_))
      refine WR.runk [4] [5, 6] [1, 2, 7, 8, 9, 10, 63, 64, 67, 68, 71] (L' := [(1, .int .i64 a1), (2, .slice A2 l2.length c2), (7, .slice A7_l3 x7_l3.length c7_l3), (8, .pointer (some ⟨b198, 0, none⟩)), (9, .int .i64 r149.2), (10, .slice A185 r176.1.length c186), (63, .int .i64 (y145.length : Int)), (64, .int .i64 x64_l3), (67, .slice A7_l3 x7_l3.length c7_l3), (68, .int .i64 x64_l3), (71, .int .u64 (ixor .u64 v201 5))]) (w' := w) (by kernel_rfl) ?_
      refine WR.st (St.ofP (PSt.idx (k := .i64) (.tmp 67) (.tmp 68) (by kernel_rfl) (by kernel_rfl) E32 (by kernel_rfl) (by kernel_rfl) (Sat.rdAt 0 hS rfl) e202 ?_))
      refine WR.runk [] [6] [1, 2, 7, 8, 9, 10, 63, 64, 71, 72] (L' := [(1, .int .i64 a1), (2, .slice A2 l2.length c2), (7, .slice A7_l3 x7_l3.length c7_l3), (8, .pointer (some ⟨b198, 0, none⟩)), (9, .int .i64 r149.2), (10, .slice A185 r176.1.length c186), (63, .int .i64 (y145.length : Int)), (64, .int .i64 x64_l3), (71, .int .u64 (ixor .u64 v201 5)), (72, .pointer (some (adr A7_l3 x64_l3.toNat 1)))]) (w' := w) (by kernel_rfl) ?_
      obtain ⟨y203, e204, H⟩ := bind_ex H
      refine WR.st (St.storeElem' (t := 22) (.tmp 72) (.tmp 71) (by kernel_rfl) (by kernel_rfl) (by kernel_rfl) hS (by kernel_rfl) (by kernel_rfl) rfl e204 rfl (fun w205 hS => ?_))
      have hl206 := set?_len e204
      refine WR.know 7 (.slice A7_l3 y203.length c7_l3) (.slice A7_l3 x7_l3.length c7_l3) (by kernel_rfl) (by rw [hl206]) ?_
      refine WR.runk [] [] [1, 2, 7, 8, 9, 10, 63, 64] (L' := [(1, .int .i64 a1), (2, .slice A2 l2.length c2), (7, .slice A7_l3 y203.length c7_l3), (8, .pointer (some ⟨b198, 0, none⟩)), (9, .int .i64 r149.2), (10, .slice A185 r176.1.length c186), (63, .int .i64 (y145.length : Int)), (64, .int .i64 x64_l3)]) (w' := w205) (by kernel_rfl) ?_
      refine WR.nil ?_
      refine At.blockNormal ?_
      refine At.go ?_
      refine WC.reg [0, 1] (by kernel_rfl) (by kernel_rfl) ?_
      refine WR.runk [0, 1] [] [1, 2, 7, 8, 9, 10, 63, 64] (L' := [(1, .int .i64 a1), (2, .slice A2 l2.length c2), (7, .slice A7_l3 y203.length c7_l3), (8, .pointer (some ⟨b198, 0, none⟩)), (9, .int .i64 r149.2), (10, .slice A185 r176.1.length c186), (63, .int .i64 (y145.length : Int)), (64, .int .i64 (wi (x64_l3 + 1)))]) (w' := w205) (by kernel_rfl) ?_
      refine WR.nil ?_
      have hS : Sat w205 (rf w0) [osl 22 (r0 (.int .u64)) 1 A7_l3 c7_l3 y203, osl 22 (r0 (.int .u64)) 1 A185 c186 r176.1, O55 b198 y195] := hS.sel [0, 1, 2] (by kernel_rfl)
      refine At.again ?_
      refine WL.weaken [1, 2, 7, 8, 9, 10, 63, 64] (L' := [(1, .int .i64 a1), (2, .slice A2 l2.length c2), (7, .slice A7_l3 y203.length c7_l3), (8, .pointer (some ⟨b198, 0, none⟩)), (9, .int .i64 r149.2), (10, .slice A185 r176.1.length c186), (63, .int .i64 (y145.length : Int)), (64, .int .i64 (wi (x64_l3 + 1)))]) (by kernel_rfl) ?_
      exact ih y203 (wi (x64_l3 + 1)) A7_l3 c7_l3 _ hS H
    · replace H := ite_f H hb200
      refine WC.exit (by kernel_rfl) ?_
      refine At.thenExit ?_
      refine At.thenExit ?_
      obtain rfl := Option.some.inj H
      have hS : Sat w (rf w0) [osl 22 (r0 (.int .u64)) 1 A185 c186 r176.1, O55 b198 y195] := hS.sel [1, 2] (by kernel_rfl)
      refine At.weaken [1, 2, 8, 9, 10] (L' := [(1, .int .i64 a1), (2, .slice A2 l2.length c2), (8, .pointer (some ⟨b198, 0, none⟩)), (9, .int .i64 r149.2), (10, .slice A185 r176.1.length c186)]) (by kernel_rfl) ?_
      exact hn0 _ hS
theorem colophonlaw01_PackFrom.l4_ok {Q} (w0 : World) (r176 : (List Int) × Bool) (A185 : Option Addr) (c186 : Nat) (y195 : Int × Int × (List Int)) (b198 : Nat) (out : Sum Bool Unit) (hn0 : ∀ (o0 : Bool) (w : World), out = (.inl o0) → Sat w (rf w0) [O55 b198 y195] → At Q .ret 103 [(6, .bool o0)] w) (hn1 : ∀ (o1 : Unit) (w : World), out = (.inr o1) → Sat w (rf w0) [O55 b198 y195] → At Q (.exit 2) 103 [] w) :
    ∀ (k : Nat) (x91_l4 : Int) (w : World), Sat w (rf w0) [osl 22 (r0 (.int .u64)) 1 A185 c186 r176.1, O55 b198 y195] → colophonlaw01_PackFrom.l4 r176 y195 k x91_l4 = some out → WL Try.prog (cbody (cbody (cr (cl (cr (cr (cr (cr (cr (cr (cr (cr (cr (cr C6)))))))))))))) Q 103 [(8, .pointer (some ⟨b198, 0, none⟩)), (10, .slice A185 r176.1.length c186), (90, .int .i64 (r176.1.length : Int)), (91, .int .i64 x91_l4)] w := by
  intro k
  induction k with
  | zero => intro x91_l4 w hS H; exact absurd (show none = some out from H) (by simp)
  | succ k ih =>
    intro x91_l4 w hS H
    unfold colophonlaw01_PackFrom.l4 at H
    refine WL.round ?_
    refine WC.seq (by kernel_rfl) ?_
    refine WC.reg [0] (by kernel_rfl) (by kernel_rfl) ?_
    refine WR.runk [0] [] [8, 10, 90, 91, 92] (L' := [(8, .pointer (some ⟨b198, 0, none⟩)), (10, .slice A185 r176.1.length c186), (90, .int .i64 (r176.1.length : Int)), (91, .int .i64 x91_l4), (92, .bool (decide (x91_l4 < (r176.1.length : Int))))]) (w' := w) (by kernel_rfl) ?_
    refine WR.nil ?_
    refine At.go ?_
    refine WC.seq (by kernel_rfl) ?_
    refine WC.cond (by kernel_rfl) (decide (x91_l4 < (r176.1.length : Int))) (by kernel_rfl) (by kernel_rfl) (fun hb244 => ?_) (fun hb244 => ?_)
    · replace H := ite_t H hb244
      refine WC.skip (by kernel_rfl) ?_
      refine At.go ?_
      refine WC.seq (by kernel_rfl) ?_
      refine WC.block (by kernel_rfl) ?_
      refine WC.seq (by kernel_rfl) ?_
      refine WC.reg [0, 1] (by kernel_rfl) (by kernel_rfl) ?_
      refine WR.runk [0, 1] [] [8, 10, 13, 90, 91] (L' := [(8, .pointer (some ⟨b198, 0, none⟩)), (10, .slice A185 r176.1.length c186), (13, .int .i64 x91_l4), (90, .int .i64 (r176.1.length : Int)), (91, .int .i64 x91_l4)]) (w' := w) (by kernel_rfl) ?_
      refine WR.nil ?_
      refine At.go ?_
      refine WC.seq (by kernel_rfl) ?_
      refine WC.drawn (by kernel_rfl) (by kernel_rfl) 8 (by kernel_rfl) (fun w245 hw246 => ?_)
      have hS := hS.heap hw246.1 hw246.2
      refine WD.weaken [8, 10, 13, 90, 91] (L' := [(8, .pointer (some ⟨b198, 0, none⟩)), (10, .slice A185 r176.1.length c186), (13, .int .i64 x91_l4), (90, .int .i64 (r176.1.length : Int)), (91, .int .i64 x91_l4)]) (by kernel_rfl) ?_
      refine WD.pure (i := 0) (v := .pointer (some ⟨b198, 0, none⟩)) (by kernel_rfl) (by kernel_rfl) (fun _ => by kernel_rfl) ?_
      refine WD.weaken [8, 10, 13, 90, 91, 94] (L' := [(8, .pointer (some ⟨b198, 0, none⟩)), (10, .slice A185 r176.1.length c186), (13, .int .i64 x91_l4), (90, .int .i64 (r176.1.length : Int)), (91, .int .i64 x91_l4), (94, .pointer (some ⟨b198, 0, none⟩))]) (by kernel_rfl) ?_
      refine WD.pure (i := 1) (v := .int .i64 x91_l4) (by kernel_rfl) (by kernel_rfl) (fun _ => by kernel_rfl) ?_
      refine WD.weaken [8, 10, 13, 90, 91, 94, 95] (L' := [(8, .pointer (some ⟨b198, 0, none⟩)), (10, .slice A185 r176.1.length c186), (13, .int .i64 x91_l4), (90, .int .i64 (r176.1.length : Int)), (91, .int .i64 x91_l4), (94, .pointer (some ⟨b198, 0, none⟩)), (95, .int .i64 x91_l4)]) (by kernel_rfl) ?_
      refine WD.pure (i := 3) (v := .slice A185 r176.1.length c186) (by kernel_rfl) (by kernel_rfl) (fun _ => by kernel_rfl) ?_
      refine WD.weaken [8, 10, 13, 90, 91, 94, 95, 97] (L' := [(8, .pointer (some ⟨b198, 0, none⟩)), (10, .slice A185 r176.1.length c186), (13, .int .i64 x91_l4), (90, .int .i64 (r176.1.length : Int)), (91, .int .i64 x91_l4), (94, .pointer (some ⟨b198, 0, none⟩)), (95, .int .i64 x91_l4), (97, .slice A185 r176.1.length c186)]) (by kernel_rfl) ?_
      refine WD.pure (i := 4) (v := .int .i64 x91_l4) (by kernel_rfl) (by kernel_rfl) (fun _ => by kernel_rfl) ?_
      refine WD.weaken [8, 10, 90, 91, 94, 95, 97, 98] (L' := [(8, .pointer (some ⟨b198, 0, none⟩)), (10, .slice A185 r176.1.length c186), (90, .int .i64 (r176.1.length : Int)), (91, .int .i64 x91_l4), (94, .pointer (some ⟨b198, 0, none⟩)), (95, .int .i64 x91_l4), (97, .slice A185 r176.1.length c186), (98, .int .i64 x91_l4)]) (by kernel_rfl) ?_
      obtain ⟨v247, e248, H⟩ := bind_ex H
      refine WD.ofP (i := 5) (by kernel_rfl) (PSt.idx (k := .i64) (.tmp 97) (.tmp 98) (by kernel_rfl) (by kernel_rfl) E32 (by kernel_rfl) (by kernel_rfl) (Sat.rdAt 0 hS rfl) e248 ?_)
      refine WD.weaken [8, 10, 90, 91, 94, 95, 99] (L' := [(8, .pointer (some ⟨b198, 0, none⟩)), (10, .slice A185 r176.1.length c186), (90, .int .i64 (r176.1.length : Int)), (91, .int .i64 x91_l4), (94, .pointer (some ⟨b198, 0, none⟩)), (95, .int .i64 x91_l4), (99, .pointer (some (adr A185 x91_l4.toNat 1)))]) (by kernel_rfl) ?_
      refine WD.ofR (i := 6) (by kernel_rfl) (RSt.loadInt (t := 22) (.tmp 99) (by kernel_rfl) (by kernel_rfl) (by kernel_rfl) (by kernel_rfl) (Sat.rdAt 0 hS rfl) e248 ?_)
      refine WD.weaken [8, 10, 90, 91, 94, 95, 100] (L' := [(8, .pointer (some ⟨b198, 0, none⟩)), (10, .slice A185 r176.1.length c186), (90, .int .i64 (r176.1.length : Int)), (91, .int .i64 x91_l4), (94, .pointer (some ⟨b198, 0, none⟩)), (95, .int .i64 x91_l4), (100, .int .u64 v247)]) (by kernel_rfl) ?_
      obtain ⟨r249, e250, H⟩ := bind_ex H
      refine WD.act (i := 2) (by kernel_rfl) (St.call (by kernel_rfl) (f := 13) (args := #[.pointer (some ⟨b198, 0, none⟩), .int .i64 x91_l4]) (by kernel_rfl) (pack_Ints_Get.calls w245 (.pointer (some ⟨b198, 0, none⟩)) (some y195) (Sat.rdAny 1 hS rfl (fun _ h => O55.rd _ _ _ h)) x91_l4 r249 e250) ?_)
      rintro _ w256 ⟨rfl, hS257⟩
      have hS : Sat w256 (rf w0) [osl 22 (r0 (.int .u64)) 1 A185 c186 r176.1, O55 b198 y195] := hS.ext hS257
      refine ⟨(asked.cons (RSt.run (n := 103) (RSt.loadInt (t := 22) (.tmp 99) (by kernel_rfl) (by kernel_rfl) (by kernel_rfl) (by kernel_rfl) (Sat.rdAt 0 hS rfl) e248 rfl)) (asked.nil _ _)), ?_⟩
      refine WD.weaken [8, 10, 90, 91, 96, 100] (L' := [(8, .pointer (some ⟨b198, 0, none⟩)), (10, .slice A185 r176.1.length c186), (90, .int .i64 (r176.1.length : Int)), (91, .int .i64 x91_l4), (96, .int .u64 r249), (100, .int .u64 v247)]) (by kernel_rfl) ?_
      refine WD.pure (i := 7) (v := .bool (r249 != v247)) (by kernel_rfl) (by kernel_rfl) (fun _ => by kernel_rfl) ?_
      refine WD.weaken [8, 10, 90, 91, 101] (L' := [(8, .pointer (some ⟨b198, 0, none⟩)), (10, .slice A185 r176.1.length c186), (90, .int .i64 (r176.1.length : Int)), (91, .int .i64 x91_l4), (101, .bool (r249 != v247))]) (by kernel_rfl) ?_
      refine WD.nil (by kernel_rfl) ?_
      refine At.go ?_
      refine WC.cond (by kernel_rfl) (r249 != v247) (by kernel_rfl) (by kernel_rfl) (fun hb258 => ?_) (fun hb258 => ?_)
      · replace H := ite_t H hb258
        refine WC.seq (by kernel_rfl) ?_
        refine WC.reg [0] (by kernel_rfl) (by kernel_rfl) ?_
        refine WR.runk [0] [] [6] (L' := [(6, .bool false)]) (w' := w256) (by kernel_rfl) ?_
        refine WR.nil ?_
        refine At.go ?_
        refine WC.ret (by kernel_rfl) ?_
        refine At.blockRet ?_
        refine At.thenRet ?_
        refine At.thenRet ?_
        obtain rfl := Option.some.inj H
        have hS : Sat w256 (rf w0) [O55 b198 y195] := hS.sel [1] (by kernel_rfl)
        refine At.weaken [6] (L' := [(6, .bool false)]) (by kernel_rfl) ?_
        exact hn0 false _ rfl hS
      · replace H := ite_f H hb258
        refine WC.skip (by kernel_rfl) ?_
        refine At.blockNormal ?_
        refine At.go ?_
        refine WC.reg [0, 1] (by kernel_rfl) (by kernel_rfl) ?_
        refine WR.runk [0, 1] [] [8, 10, 90, 91] (L' := [(8, .pointer (some ⟨b198, 0, none⟩)), (10, .slice A185 r176.1.length c186), (90, .int .i64 (r176.1.length : Int)), (91, .int .i64 (wi (x91_l4 + 1)))]) (w' := w256) (by kernel_rfl) ?_
        refine WR.nil ?_
        have hS : Sat w256 (rf w0) [osl 22 (r0 (.int .u64)) 1 A185 c186 r176.1, O55 b198 y195] := hS.sel [0, 1] (by kernel_rfl)
        refine At.again ?_
        refine WL.weaken [8, 10, 90, 91] (L' := [(8, .pointer (some ⟨b198, 0, none⟩)), (10, .slice A185 r176.1.length c186), (90, .int .i64 (r176.1.length : Int)), (91, .int .i64 (wi (x91_l4 + 1)))]) (by kernel_rfl) ?_
        exact ih (wi (x91_l4 + 1)) _ hS H
    · replace H := ite_f H hb244
      refine WC.exit (by kernel_rfl) ?_
      refine At.thenExit ?_
      refine At.thenExit ?_
      obtain rfl := Option.some.inj H
      have hS : Sat w (rf w0) [O55 b198 y195] := hS.sel [1] (by kernel_rfl)
      refine At.weaken [] (L' := []) (by kernel_rfl) ?_
      exact hn1 () _ rfl hS
theorem colophonlaw01_PackFrom.calls (w0 : World) (a0 : Int) (a1 : Int) (A2 : Option Addr) (c2 : Nat) (l2 : List Int) (R2 : rdS (r0 (.int .u64)) 1 (hp w0) A2 c2 l2) (r : Bool) (H : colophonlaw01_PackFrom.f a0 a1 l2 = some r) :
    Calls Try.prog 6 #[.int .i64 a0, .int .i64 a1, .slice A2 l2.length c2] w0 (fun e w' => ∃ v, e = .returned v ∧ colophonlaw01_PackFrom.post w0 r v w') := by
  have hS : Sat w0 (rf w0) [] := Sat.start w0
  unfold colophonlaw01_PackFrom.f at H
  refine calls_of_WC (vs := [.int .i64 a0, .int .i64 a1, .slice A2 l2.length c2]) Try.func6 (c := C6) (n := 103) (by kernel_rfl) (by kernel_rfl) (by kernel_rfl) ?_
  refine WC.seq (by kernel_rfl) ?_
  refine WC.reg [0] (by kernel_rfl) (by kernel_rfl) ?_
  refine WR.runk [0] [] [0, 1, 2] (L' := [(0, .int .i64 a0), (1, .int .i64 a1), (2, .slice A2 l2.length c2)]) (w' := w0) (by kernel_rfl) ?_
  refine WR.nil ?_
  refine At.go ?_
  refine WC.seq (by kernel_rfl) ?_
  refine WC.seq (by kernel_rfl) ?_
  refine WC.reg [0, 1] (by kernel_rfl) (by kernel_rfl) ?_
  obtain ⟨r1, e2, H⟩ := bind_ex H
  refine WR.st (St.call (by kernel_rfl) (f := 9) (args := #[]) (by kernel_rfl) (colophonlaw01_first.calls w0  r1 e2) ?_)
  rintro _ w8 ⟨rfl, hS9⟩
  have hS : Sat w8 (rf w0) [] := hS.ext hS9
  refine WR.runk [1] [] [0, 1, 2, 15] (L' := [(0, .int .i64 a0), (1, .int .i64 a1), (2, .slice A2 l2.length c2), (15, .bool (!r1))]) (w' := w8) (by kernel_rfl) ?_
  refine WR.nil ?_
  refine At.go ?_
  refine WC.cond (by kernel_rfl) (!r1) (by kernel_rfl) (by kernel_rfl) (fun hb10 => ?_) (fun hb10 => ?_)
  · replace H := ite_t H hb10
    refine WC.seq (by kernel_rfl) ?_
    refine WC.reg [0] (by kernel_rfl) (by kernel_rfl) ?_
    refine WR.runk [0] [] [6] (L' := [(6, .bool false)]) (w' := w8) (by kernel_rfl) ?_
    refine WR.nil ?_
    refine At.go ?_
    refine WC.ret (by kernel_rfl) ?_
    refine At.thenRet ?_
    obtain rfl := Option.some.inj H
    have hS : Sat w8 (rf w0) [] := hS.sel [] (by kernel_rfl)
    exact At.body [.bool false] (by kernel_rfl) ⟨_, rfl, rfl, hS⟩
  · replace H := ite_f H hb10
    refine WC.skip (by kernel_rfl) ?_
    refine At.go ?_
    refine WC.seq (by kernel_rfl) ?_
    refine WC.seq (by kernel_rfl) ?_
    refine WC.reg [0, 1, 2, 3, 4, 5, 6, 7, 8, 9, 10] (by kernel_rfl) (by kernel_rfl) ?_
    refine WR.runk [0, 1, 2, 3] [4, 5, 6, 7, 8, 9, 10] [0, 1, 2, 19] (L' := [(0, .int .i64 a0), (1, .int .i64 a1), (2, .slice A2 l2.length c2), (19, .bool (decide ((l2.length : Int) > 2000)))]) (w' := w8) (by kernel_rfl) ?_
    refine WR.split 19 (b := decide ((l2.length : Int) > 2000)) (by kernel_rfl) (fun hb11 => ?_) (fun hb11 => ?_)
    · replace H := ite_t H hb11
      refine WR.runk [4, 5, 6, 7, 8, 9, 10] [] [0, 1, 2, 26] (L' := [(0, .int .i64 a0), (1, .int .i64 a1), (2, .slice A2 l2.length c2), (26, .bool true)]) (w' := w8) (by kernel_rfl) ?_
      refine WR.nil ?_
      refine At.go ?_
      refine WC.condT (by kernel_rfl) (by kernel_rfl) (by kernel_rfl) ?_
      refine WC.seq (by kernel_rfl) ?_
      refine WC.reg [0] (by kernel_rfl) (by kernel_rfl) ?_
      refine WR.runk [0] [] [6] (L' := [(6, .bool true)]) (w' := w8) (by kernel_rfl) ?_
      refine WR.nil ?_
      refine At.go ?_
      refine WC.ret (by kernel_rfl) ?_
      refine At.thenRet ?_
      obtain rfl := Option.some.inj H
      have hS : Sat w8 (rf w0) [] := hS.sel [] (by kernel_rfl)
      exact At.body [.bool true] (by kernel_rfl) ⟨_, rfl, rfl, hS⟩
    · replace H := ite_f H hb11
      refine WR.runk [4, 5, 6] [7, 8, 9, 10] [0, 1, 2, 19, 22] (L' := [(0, .int .i64 a0), (1, .int .i64 a1), (2, .slice A2 l2.length c2), (19, .bool false), (22, .bool (decide (a1 > 3000)))]) (w' := w8) (by kernel_rfl) ?_
      refine WR.split 22 (b := decide (a1 > 3000)) (by kernel_rfl) (fun hb12 => ?_) (fun hb12 => ?_)
      · replace H := ite_t H hb12
        refine WR.runk [7, 8, 9, 10] [] [0, 1, 2, 26] (L' := [(0, .int .i64 a0), (1, .int .i64 a1), (2, .slice A2 l2.length c2), (26, .bool (decide (a1 ≤ 4194304)))]) (w' := w8) (by kernel_rfl) ?_
        refine WR.nil ?_
        refine At.go ?_
        refine WC.cond (by kernel_rfl) (decide (a1 ≤ 4194304)) (by kernel_rfl) (by kernel_rfl) (fun hb13 => ?_) (fun hb13 => ?_)
        · replace H := ite_t H hb13
          refine WC.seq (by kernel_rfl) ?_
          refine WC.reg [0] (by kernel_rfl) (by kernel_rfl) ?_
          refine WR.runk [0] [] [6] (L' := [(6, .bool true)]) (w' := w8) (by kernel_rfl) ?_
          refine WR.nil ?_
          refine At.go ?_
          refine WC.ret (by kernel_rfl) ?_
          refine At.thenRet ?_
          obtain rfl := Option.some.inj H
          have hS : Sat w8 (rf w0) [] := hS.sel [] (by kernel_rfl)
          exact At.body [.bool true] (by kernel_rfl) ⟨_, rfl, rfl, hS⟩
        · replace H := ite_f H hb13
          refine WC.skip (by kernel_rfl) ?_
          refine At.go ?_
          refine WC.seq (by kernel_rfl) ?_
          refine WC.reg [0, 1, 2, 3] (by kernel_rfl) (by kernel_rfl) ?_
          refine WR.runk [] [0, 1, 2, 3] [0, 1, 2] (L' := [(0, .int .i64 a0), (1, .int .i64 a1), (2, .slice A2 l2.length c2)]) (w' := w8) (by kernel_rfl) ?_
          refine WR.st (St.box hS (by kernel_rfl) (.cells #[] 22) (fun b14 => .slice (some ⟨b14, 0, none⟩) 0 0) (fun _ => by kernel_rfl) (fun b14 w15 hS => ?_))
          refine WR.runk [1] [2, 3] [0, 1, 2, 27, 28] (L' := [(0, .int .i64 a0), (1, .int .i64 a1), (2, .slice A2 l2.length c2), (27, .slice (some ⟨b14, 0, none⟩) 0 0), (28, .slice A2 l2.length c2)]) (w' := w15) (by kernel_rfl) ?_
          have hS : Sat w15 (rf w0) [osl 22 (r0 (.int .u64)) 1 (some ⟨b14, 0, none⟩) (([] : List Int) : List Int).length (([] : List Int) : List Int)] := Sat.toOsl' (r0 (.int .u64)) 1 (([] : List Int) : List Int) hS rfl (rdL.nil _ _)
          obtain ⟨y17, e16, H⟩ := bind_ex H
          refine WR.st (St.append' (.tmp 27) (.tmp 28) (by kernel_rfl) (by kernel_rfl) E32 (r0_one _) hS (by kernel_rfl) (by kernel_rfl) (rdS.up R2 hS.sub0) 17592186044416 (by kernel_rfl) (by kernel_rfl) e16 (fun A18 c19 w20 hS => ?_))
          refine WR.runk [3] [] [0, 1, 2, 7] (L' := [(0, .int .i64 a0), (1, .int .i64 a1), (2, .slice A2 l2.length c2), (7, .slice A18 y17.length c19)]) (w' := w20) (by kernel_rfl) ?_
          refine WR.nil ?_
          refine At.go ?_
          refine WC.seq (by kernel_rfl) ?_
          refine WC.reg [0, 1, 2, 3, 4, 5, 6, 7, 8] (by kernel_rfl) (by kernel_rfl) ?_
          refine WR.runk [0, 1, 2] [3, 4, 5, 6, 7, 8] [0, 1, 2, 7, 31, 32, 33] (L' := [(0, .int .i64 a0), (1, .int .i64 a1), (2, .slice A2 l2.length c2), (7, .slice A18 y17.length c19), (31, .int .i64 a0), (32, .int .i64 a1), (33, .slice A18 y17.length c19)]) (w' := w20) (by kernel_rfl) ?_
          obtain ⟨r21, e22, H⟩ := bind_ex H
          refine WR.st (St.call (by kernel_rfl) (f := 15) (args := #[.int .i64 a0, .int .i64 a1, .slice A18 y17.length c19]) (by kernel_rfl) (pack_From.calls w20 a0 a1 A18 c19 y17 (Sat.rdAt 0 hS rfl) r21 e22) ?_)
          rintro _ w28 ⟨pv30, rfl, hS29⟩
          have hS : Sat w28 (rf w0) [optP O55 pv30 r21.1, osl 22 (r0 (.int .u64)) 1 A18 c19 y17] := hS.ext hS29
          refine WR.runk [4, 5, 6, 7, 8] [] [0, 1, 2, 7, 8, 9] (L' := [(0, .int .i64 a0), (1, .int .i64 a1), (2, .slice A2 l2.length c2), (7, .slice A18 y17.length c19), (8, pv30), (9, .int .i64 r21.2)]) (w' := w28) (by kernel_rfl) ?_
          refine WR.nil ?_
          refine At.go ?_
          refine WC.seq (by kernel_rfl) ?_
          refine WC.seq (by kernel_rfl) ?_
          refine WC.reg [0, 1, 2, 3] (by kernel_rfl) (by kernel_rfl) ?_
          refine WR.runk [0, 1] [2, 3] [0, 1, 2, 7, 8, 9, 37, 38] (L' := [(0, .int .i64 a0), (1, .int .i64 a1), (2, .slice A2 l2.length c2), (7, .slice A18 y17.length c19), (8, pv30), (9, .int .i64 r21.2), (37, .int .i64 a0), (38, .int .i64 a1)]) (w' := w28) (by kernel_rfl) ?_
          obtain ⟨r31, e32, H⟩ := bind_ex H
          refine WR.st (St.call (by kernel_rfl) (f := 16) (args := #[.int .i64 a0, .int .i64 a1]) (by kernel_rfl) (colophonref01_Right.calls w28 a0 a1 r31 e32) ?_)
          rintro _ w38 ⟨rfl, hS39⟩
          have hS : Sat w38 (rf w0) [optP O55 pv30 r21.1, osl 22 (r0 (.int .u64)) 1 A18 c19 y17] := hS.ext hS39
          refine WR.runk [3] [] [0, 1, 2, 7, 8, 9, 40] (L' := [(0, .int .i64 a0), (1, .int .i64 a1), (2, .slice A2 l2.length c2), (7, .slice A18 y17.length c19), (8, pv30), (9, .int .i64 r21.2), (40, .bool (!r31))]) (w' := w38) (by kernel_rfl) ?_
          refine WR.nil ?_
          refine At.go ?_
          refine WC.cond (by kernel_rfl) (!r31) (by kernel_rfl) (by kernel_rfl) (fun hb40 => ?_) (fun hb40 => ?_)
          · replace H := ite_t H hb40
            refine WC.seq (by kernel_rfl) ?_
            refine WC.reg [0, 1, 2, 3, 4, 5, 6] (by kernel_rfl) (by kernel_rfl) ?_
            refine WR.runk [0, 1, 2] [3, 4, 5, 6] [8, 43] (L' := [(8, pv30), (43, .bool (r21.2 == 2))]) (w' := w38) (by kernel_rfl) ?_
            refine WR.split 43 (b := (r21.2 == 2)) (by kernel_rfl) (fun hb41 => ?_) (fun hb41 => ?_)
            · replace H := ite_t H hb41
              refine WR.runk [3] [4, 5, 6] [43, 44] (L' := [(43, .bool true), (44, pv30)]) (w' := w38) (by kernel_rfl) ?_
              rcases hr43 : r21.1 with _ | y42
              · rw [hr43] at H
                dsimp only at H
                have hv44 := optP.none hS hr43
                subst hv44
                have hS : Sat w38 (rf w0) [osl 22 (r0 (.int .u64)) 1 A18 c19 y17] := hS.sel [1] (by kernel_rfl)
                refine WR.runk [4, 5, 6] [] [6] (L' := [(6, .bool true)]) (w' := w38) (by kernel_rfl) ?_
                refine WR.nil ?_
                refine At.go ?_
                refine WC.ret (by kernel_rfl) ?_
                refine At.thenRet ?_
                obtain rfl := Option.some.inj H
                have hS : Sat w38 (rf w0) [] := hS.sel [] (by kernel_rfl)
                exact At.body [.bool true] (by kernel_rfl) ⟨_, rfl, rfl, hS⟩
              · rw [hr43] at H
                dsimp only at H
                obtain ⟨b45, hv44, hN47⟩ := optP.some hS hr43
                subst hv44
                have hS : Sat w38 (rf w0) [O55 b45 y42, osl 22 (r0 (.int .u64)) 1 A18 c19 y17] := hN47
                refine WR.runk [4, 5, 6] [] [6] (L' := [(6, .bool false)]) (w' := w38) (by kernel_rfl) ?_
                refine WR.nil ?_
                refine At.go ?_
                refine WC.ret (by kernel_rfl) ?_
                refine At.thenRet ?_
                obtain rfl := Option.some.inj H
                have hS : Sat w38 (rf w0) [] := hS.sel [] (by kernel_rfl)
                exact At.body [.bool false] (by kernel_rfl) ⟨_, rfl, rfl, hS⟩
            · replace H := ite_f H hb41
              refine WR.runk [3, 4, 5, 6] [] [6] (L' := [(6, .bool false)]) (w' := w38) (by kernel_rfl) ?_
              refine WR.nil ?_
              refine At.go ?_
              refine WC.ret (by kernel_rfl) ?_
              refine At.thenRet ?_
              obtain rfl := Option.some.inj H
              have hS : Sat w38 (rf w0) [] := hS.sel [] (by kernel_rfl)
              exact At.body [.bool false] (by kernel_rfl) ⟨_, rfl, rfl, hS⟩
          · replace H := ite_f H hb40
            refine WC.skip (by kernel_rfl) ?_
            refine At.go ?_
            refine WC.seq (by kernel_rfl) ?_
            refine WC.reg [0, 1, 2, 3, 4, 5, 6, 7, 8] (by kernel_rfl) (by kernel_rfl) ?_
            refine WR.runk [0, 1, 2] [3, 4, 5, 6, 7, 8] [1, 2, 7, 8, 9, 48, 49, 50] (L' := [(1, .int .i64 a1), (2, .slice A2 l2.length c2), (7, .slice A18 y17.length c19), (8, pv30), (9, .int .i64 r21.2), (48, .int .i64 a0), (49, .int .i64 a1), (50, .slice A2 l2.length c2)]) (w' := w38) (by kernel_rfl) ?_
            obtain ⟨r48, e49, H⟩ := bind_ex H
            refine WR.st (St.call (by kernel_rfl) (f := 17) (args := #[.int .i64 a0, .int .i64 a1, .slice A2 l2.length c2]) (by kernel_rfl) (colophonref01_List.calls w38 a0 a1 A2 c2 l2 (rdS.up R2 hS.sub0) r48 e49) ?_)
            rintro _ w55 ⟨A57, c58, rfl, hS56⟩
            have hS : Sat w55 (rf w0) [osl 22 (r0 (.int .u64)) 1 A57 c58 r48.1, optP O55 pv30 r21.1, osl 22 (r0 (.int .u64)) 1 A18 c19 y17] := hS.ext hS56
            refine WR.runk [4, 5, 6, 7, 8] [] [1, 2, 7, 8, 9, 10, 11] (L' := [(1, .int .i64 a1), (2, .slice A2 l2.length c2), (7, .slice A18 y17.length c19), (8, pv30), (9, .int .i64 r21.2), (10, .slice A57 r48.1.length c58), (11, .bool r48.2)]) (w' := w55) (by kernel_rfl) ?_
            refine WR.nil ?_
            refine At.go ?_
            refine WC.seq (by kernel_rfl) ?_
            refine WC.seq (by kernel_rfl) ?_
            refine WC.reg [0, 1] (by kernel_rfl) (by kernel_rfl) ?_
            refine WR.runk [0, 1] [] [1, 2, 7, 8, 9, 10, 55] (L' := [(1, .int .i64 a1), (2, .slice A2 l2.length c2), (7, .slice A18 y17.length c19), (8, pv30), (9, .int .i64 r21.2), (10, .slice A57 r48.1.length c58), (55, .bool (!r48.2))]) (w' := w55) (by kernel_rfl) ?_
            refine WR.nil ?_
            refine At.go ?_
            refine WC.cond (by kernel_rfl) (!r48.2) (by kernel_rfl) (by kernel_rfl) (fun hb59 => ?_) (fun hb59 => ?_)
            · replace H := ite_t H hb59
              refine WC.seq (by kernel_rfl) ?_
              refine WC.reg [0, 1, 2, 3, 4, 5, 6] (by kernel_rfl) (by kernel_rfl) ?_
              refine WR.runk [0, 1, 2] [3, 4, 5, 6] [8, 58] (L' := [(8, pv30), (58, .bool (r21.2 == 10))]) (w' := w55) (by kernel_rfl) ?_
              refine WR.split 58 (b := (r21.2 == 10)) (by kernel_rfl) (fun hb60 => ?_) (fun hb60 => ?_)
              · replace H := ite_t H hb60
                refine WR.runk [3] [4, 5, 6] [58, 59] (L' := [(58, .bool true), (59, pv30)]) (w' := w55) (by kernel_rfl) ?_
                have hS : Sat w55 (rf w0) [optP O55 pv30 r21.1, osl 22 (r0 (.int .u64)) 1 A57 c58 r48.1, osl 22 (r0 (.int .u64)) 1 A18 c19 y17] := hS.sel [1, 0, 2] (by kernel_rfl)
                rcases hr62 : r21.1 with _ | y61
                · rw [hr62] at H
                  dsimp only at H
                  have hv63 := optP.none hS hr62
                  subst hv63
                  have hS : Sat w55 (rf w0) [osl 22 (r0 (.int .u64)) 1 A57 c58 r48.1, osl 22 (r0 (.int .u64)) 1 A18 c19 y17] := hS.sel [1, 2] (by kernel_rfl)
                  refine WR.runk [4, 5, 6] [] [6] (L' := [(6, .bool true)]) (w' := w55) (by kernel_rfl) ?_
                  refine WR.nil ?_
                  refine At.go ?_
                  refine WC.ret (by kernel_rfl) ?_
                  refine At.thenRet ?_
                  obtain rfl := Option.some.inj H
                  have hS : Sat w55 (rf w0) [] := hS.sel [] (by kernel_rfl)
                  exact At.body [.bool true] (by kernel_rfl) ⟨_, rfl, rfl, hS⟩
                · rw [hr62] at H
                  dsimp only at H
                  obtain ⟨b64, hv63, hN66⟩ := optP.some hS hr62
                  subst hv63
                  have hS : Sat w55 (rf w0) [O55 b64 y61, osl 22 (r0 (.int .u64)) 1 A57 c58 r48.1, osl 22 (r0 (.int .u64)) 1 A18 c19 y17] := hN66
                  refine WR.runk [4, 5, 6] [] [6] (L' := [(6, .bool false)]) (w' := w55) (by kernel_rfl) ?_
                  refine WR.nil ?_
                  refine At.go ?_
                  refine WC.ret (by kernel_rfl) ?_
                  refine At.thenRet ?_
                  obtain rfl := Option.some.inj H
                  have hS : Sat w55 (rf w0) [] := hS.sel [] (by kernel_rfl)
                  exact At.body [.bool false] (by kernel_rfl) ⟨_, rfl, rfl, hS⟩
              · replace H := ite_f H hb60
                refine WR.runk [3, 4, 5, 6] [] [6] (L' := [(6, .bool false)]) (w' := w55) (by kernel_rfl) ?_
                refine WR.nil ?_
                refine At.go ?_
                refine WC.ret (by kernel_rfl) ?_
                refine At.thenRet ?_
                obtain rfl := Option.some.inj H
                have hS : Sat w55 (rf w0) [] := hS.sel [] (by kernel_rfl)
                exact At.body [.bool false] (by kernel_rfl) ⟨_, rfl, rfl, hS⟩
            · replace H := ite_f H hb59
              refine WC.skip (by kernel_rfl) ?_
              refine At.go ?_
              refine WC.seq (by kernel_rfl) ?_
              refine WC.seq (by kernel_rfl) ?_
              refine WC.reg [0, 1, 2] (by kernel_rfl) (by kernel_rfl) ?_
              refine WR.runk [0, 1, 2] [] [1, 2, 7, 8, 9, 10, 63, 64] (L' := [(1, .int .i64 a1), (2, .slice A2 l2.length c2), (7, .slice A18 y17.length c19), (8, pv30), (9, .int .i64 r21.2), (10, .slice A57 r48.1.length c58), (63, .int .i64 (y17.length : Int)), (64, .int .i64 0)]) (w' := w55) (by kernel_rfl) ?_
              refine WR.nil ?_
              refine At.go ?_
              refine WC.block (by kernel_rfl) ?_
              have hS : Sat w55 (rf w0) [optP O55 pv30 r21.1, osl 22 (r0 (.int .u64)) 1 A57 c58 r48.1, osl 22 (r0 (.int .u64)) 1 A18 c19 y17] := hS.sel [1, 0, 2] (by kernel_rfl)
              obtain ⟨y67, hr68, H⟩ := bind_ex H
              obtain ⟨b70, hv69, hN141⟩ := optP.some hS hr68
              subst hv69
              have hS : Sat w55 (rf w0) [O55 b70 y67, osl 22 (r0 (.int .u64)) 1 A57 c58 r48.1, osl 22 (r0 (.int .u64)) 1 A18 c19 y17] := hN141
              have hS : Sat w55 (rf w0) [osl 22 (r0 (.int .u64)) 1 A18 c19 y17, osl 22 (r0 (.int .u64)) 1 A57 c58 r48.1, O55 b70 y67] := hS.sel [2, 1, 0] (by kernel_rfl)
              obtain ⟨o79, e80, H⟩ := bind_ex H
              refine WC.loop (by kernel_rfl) ?_
              refine WL.weaken [1, 2, 7, 8, 9, 10, 63, 64] (L' := [(1, .int .i64 a1), (2, .slice A2 l2.length c2), (7, .slice A18 y17.length c19), (8, .pointer (some ⟨b70, 0, none⟩)), (9, .int .i64 r21.2), (10, .slice A57 r48.1.length c58), (63, .int .i64 (y17.length : Int)), (64, .int .i64 0)]) (by kernel_rfl) ?_
              refine colophonlaw01_PackFrom.l1_ok w0 a1 A2 c2 l2 y17 r21 r48 A57 c58 y67 b70 o79 (fun w82 hS => ?_) FU y17 0 A18 c19 _ hS e80
              refine At.hit ?_
              refine At.go ?_
              refine WC.seq (by kernel_rfl) ?_
              refine WC.seq (by kernel_rfl) ?_
              refine WC.reg [0, 1, 2, 3, 4, 5, 6, 7, 8, 9, 10, 11, 12, 13, 14] (by kernel_rfl) (by kernel_rfl) ?_
              refine WR.runk [0, 1, 2] [3, 4, 5, 6, 7, 8, 9, 10, 11, 12, 13, 14] [1, 2, 8, 10, 76] (L' := [(1, .int .i64 a1), (2, .slice A2 l2.length c2), (8, .pointer (some ⟨b70, 0, none⟩)), (10, .slice A57 r48.1.length c58), (76, .bool (r21.2 != 0))]) (w' := w82) (by kernel_rfl) ?_
              refine WR.split 76 (b := (r21.2 != 0)) (by kernel_rfl) (fun hb84 => ?_) (fun hb84 => ?_)
              · replace H := ite_t H hb84
                refine WR.runk [3, 4, 5, 6, 7, 8, 9, 10, 11, 12, 13, 14] [] [8, 10, 88] (L' := [(8, .pointer (some ⟨b70, 0, none⟩)), (10, .slice A57 r48.1.length c58), (88, .bool true)]) (w' := w82) (by kernel_rfl) ?_
                refine WR.nil ?_
                refine At.go ?_
                refine WC.condT (by kernel_rfl) (by kernel_rfl) (by kernel_rfl) ?_
                refine WC.seq (by kernel_rfl) ?_
                refine WC.reg [0] (by kernel_rfl) (by kernel_rfl) ?_
                refine WR.runk [0] [] [6] (L' := [(6, .bool false)]) (w' := w82) (by kernel_rfl) ?_
                refine WR.nil ?_
                refine At.go ?_
                refine WC.ret (by kernel_rfl) ?_
                refine At.thenRet ?_
                obtain rfl := Option.some.inj H
                have hS : Sat w82 (rf w0) [] := hS.sel [] (by kernel_rfl)
                exact At.body [.bool false] (by kernel_rfl) ⟨_, rfl, rfl, hS⟩
              · replace H := ite_f H hb84
                refine WR.runk [3] [4, 5, 6, 7, 8, 9, 10, 11, 12, 13, 14] [1, 2, 8, 10, 76, 77] (L' := [(1, .int .i64 a1), (2, .slice A2 l2.length c2), (8, .pointer (some ⟨b70, 0, none⟩)), (10, .slice A57 r48.1.length c58), (76, .bool false), (77, .pointer (some ⟨b70, 0, none⟩))]) (w' := w82) (by kernel_rfl) ?_
                obtain ⟨r85, e86, H⟩ := bind_ex H
                refine WR.st (St.call (by kernel_rfl) (f := 18) (args := #[.pointer (some ⟨b70, 0, none⟩)]) (by kernel_rfl) (pack_Ints_Len.calls w82 (.pointer (some ⟨b70, 0, none⟩)) (some y67) (Sat.rdAny 1 hS rfl (fun _ h => O55.rd _ _ _ h)) r85 e86) ?_)
                rintro _ w92 ⟨rfl, hS93⟩
                have hS : Sat w92 (rf w0) [osl 22 (r0 (.int .u64)) 1 A57 c58 r48.1, O55 b70 y67] := hS.ext hS93
                refine WR.runk [5, 6, 7, 8] [9, 10, 11, 12, 13, 14] [2, 8, 10, 82] (L' := [(2, .slice A2 l2.length c2), (8, .pointer (some ⟨b70, 0, none⟩)), (10, .slice A57 r48.1.length c58), (82, .bool (r85 != a1))]) (w' := w92) (by kernel_rfl) ?_
                refine WR.split 82 (b := (r85 != a1)) (by kernel_rfl) (fun hb94 => ?_) (fun hb94 => ?_)
                · replace H := ite_t H hb94
                  refine WR.runk [9, 10, 11, 12, 13, 14] [] [8, 10, 88] (L' := [(8, .pointer (some ⟨b70, 0, none⟩)), (10, .slice A57 r48.1.length c58), (88, .bool true)]) (w' := w92) (by kernel_rfl) ?_
                  refine WR.nil ?_
                  refine At.go ?_
                  refine WC.condT (by kernel_rfl) (by kernel_rfl) (by kernel_rfl) ?_
                  refine WC.seq (by kernel_rfl) ?_
                  refine WC.reg [0] (by kernel_rfl) (by kernel_rfl) ?_
                  refine WR.runk [0] [] [6] (L' := [(6, .bool false)]) (w' := w92) (by kernel_rfl) ?_
                  refine WR.nil ?_
                  refine At.go ?_
                  refine WC.ret (by kernel_rfl) ?_
                  refine At.thenRet ?_
                  obtain rfl := Option.some.inj H
                  have hS : Sat w92 (rf w0) [] := hS.sel [] (by kernel_rfl)
                  exact At.body [.bool false] (by kernel_rfl) ⟨_, rfl, rfl, hS⟩
                · replace H := ite_f H hb94
                  refine WR.runk [9] [10, 11, 12, 13, 14] [2, 8, 10, 82, 83] (L' := [(2, .slice A2 l2.length c2), (8, .pointer (some ⟨b70, 0, none⟩)), (10, .slice A57 r48.1.length c58), (82, .bool false), (83, .pointer (some ⟨b70, 0, none⟩))]) (w' := w92) (by kernel_rfl) ?_
                  obtain ⟨r95, e96, H⟩ := bind_ex H
                  refine WR.st (St.call (by kernel_rfl) (f := 14) (args := #[.pointer (some ⟨b70, 0, none⟩)]) (by kernel_rfl) (pack_Ints_Words.calls w92 (.pointer (some ⟨b70, 0, none⟩)) (some y67) (Sat.rdAny 1 hS rfl (fun _ h => O55.rd _ _ _ h)) r95 e96) ?_)
                  rintro _ w102 ⟨A104, c105, rfl, hS103⟩
                  have hS : Sat w102 (rf w0) [osl 22 (r0 (.int .u64)) 1 A104 c105 r95, osl 22 (r0 (.int .u64)) 1 A57 c58 r48.1, O55 b70 y67] := hS.ext hS103
                  refine WR.runk [11] [12, 13, 14] [8, 10, 82, 84, 85] (L' := [(8, .pointer (some ⟨b70, 0, none⟩)), (10, .slice A57 r48.1.length c58), (82, .bool false), (84, .slice A104 r95.length c105), (85, .slice A2 l2.length c2)]) (w' := w102) (by kernel_rfl) ?_
                  obtain ⟨r106, e107, H⟩ := bind_ex H
                  refine WR.st (St.call (by kernel_rfl) (f := 19) (args := #[.slice A104 r95.length c105, .slice A2 l2.length c2]) (by kernel_rfl) (colophonref01_Same.calls w102 A104 c105 r95 (Sat.rdAt 0 hS rfl) A2 c2 l2 (rdS.up R2 hS.sub0) r106 e107) ?_)
                  rintro _ w113 ⟨rfl, hS114⟩
                  have hS : Sat w113 (rf w0) [osl 22 (r0 (.int .u64)) 1 A104 c105 r95, osl 22 (r0 (.int .u64)) 1 A57 c58 r48.1, O55 b70 y67] := hS.ext hS114
                  refine WR.runk [13, 14] [] [8, 10, 88] (L' := [(8, .pointer (some ⟨b70, 0, none⟩)), (10, .slice A57 r48.1.length c58), (88, .bool (!r106))]) (w' := w113) (by kernel_rfl) ?_
                  refine WR.nil ?_
                  refine At.go ?_
                  refine WC.cond (by kernel_rfl) (!r106) (by kernel_rfl) (by kernel_rfl) (fun hb115 => ?_) (fun hb115 => ?_)
                  · replace H := ite_t H hb115
                    refine WC.seq (by kernel_rfl) ?_
                    refine WC.reg [0] (by kernel_rfl) (by kernel_rfl) ?_
                    refine WR.runk [0] [] [6] (L' := [(6, .bool false)]) (w' := w113) (by kernel_rfl) ?_
                    refine WR.nil ?_
                    refine At.go ?_
                    refine WC.ret (by kernel_rfl) ?_
                    refine At.thenRet ?_
                    obtain rfl := Option.some.inj H
                    have hS : Sat w113 (rf w0) [] := hS.sel [] (by kernel_rfl)
                    exact At.body [.bool false] (by kernel_rfl) ⟨_, rfl, rfl, hS⟩
                  · replace H := ite_f H hb115
                    refine WC.skip (by kernel_rfl) ?_
                    refine At.go ?_
                    refine WC.seq (by kernel_rfl) ?_
                    refine WC.seq (by kernel_rfl) ?_
                    refine WC.reg [0, 1, 2] (by kernel_rfl) (by kernel_rfl) ?_
                    refine WR.runk [0, 1, 2] [] [8, 10, 90, 91] (L' := [(8, .pointer (some ⟨b70, 0, none⟩)), (10, .slice A57 r48.1.length c58), (90, .int .i64 (r48.1.length : Int)), (91, .int .i64 0)]) (w' := w113) (by kernel_rfl) ?_
                    refine WR.nil ?_
                    refine At.go ?_
                    refine WC.block (by kernel_rfl) ?_
                    have hS : Sat w113 (rf w0) [osl 22 (r0 (.int .u64)) 1 A57 c58 r48.1, O55 b70 y67] := hS.sel [1, 2] (by kernel_rfl)
                    obtain ⟨o131, e132, H⟩ := bind_ex H
                    refine WC.loop (by kernel_rfl) ?_
                    refine WL.weaken [8, 10, 90, 91] (L' := [(8, .pointer (some ⟨b70, 0, none⟩)), (10, .slice A57 r48.1.length c58), (90, .int .i64 (r48.1.length : Int)), (91, .int .i64 0)]) (by kernel_rfl) ?_
                    refine colophonlaw01_PackFrom.l2_ok w0 l2 r48 A57 c58 y67 b70 o131 (fun o133 w135 ho136 hS => ?_) (fun o137 w139 ho140 hS => ?_) FU 0 _ hS e132
                    · subst ho136
                      dsimp only at H
                      refine At.blockRet ?_
                      refine At.thenRet ?_
                      obtain rfl := Option.some.inj H
                      have hS : Sat w135 (rf w0) [] := hS.sel [] (by kernel_rfl)
                      exact At.body [.bool o133] (by kernel_rfl) ⟨_, rfl, rfl, hS⟩
                    · subst ho140
                      dsimp only at H
                      refine At.hit ?_
                      refine At.go ?_
                      refine WC.seq (by kernel_rfl) ?_
                      refine WC.reg [0] (by kernel_rfl) (by kernel_rfl) ?_
                      refine WR.runk [0] [] [6] (L' := [(6, .bool true)]) (w' := w139) (by kernel_rfl) ?_
                      refine WR.nil ?_
                      refine At.go ?_
                      refine WC.ret (by kernel_rfl) ?_
                      obtain rfl := Option.some.inj H
                      have hS : Sat w139 (rf w0) [] := hS.sel [] (by kernel_rfl)
                      exact At.body [.bool true] (by kernel_rfl) ⟨_, rfl, rfl, hS⟩
      · replace H := ite_f H hb12
        refine WR.runk [7, 8, 9, 10] [] [0, 1, 2, 26] (L' := [(0, .int .i64 a0), (1, .int .i64 a1), (2, .slice A2 l2.length c2), (26, .bool false)]) (w' := w8) (by kernel_rfl) ?_
        refine WR.nil ?_
        refine At.go ?_
        refine WC.condF (by kernel_rfl) (by kernel_rfl) (by kernel_rfl) ?_
        refine WC.skip (by kernel_rfl) ?_
        refine At.go ?_
        refine WC.seq (by kernel_rfl) ?_
        refine WC.reg [0, 1, 2, 3] (by kernel_rfl) (by kernel_rfl) ?_
        refine WR.st (St.box hS (by kernel_rfl) (.cells #[] 22) (fun b142 => .slice (some ⟨b142, 0, none⟩) 0 0) (fun _ => by kernel_rfl) (fun b142 w143 hS => ?_))
        refine WR.runk [1] [2, 3] [0, 1, 2, 27, 28] (L' := [(0, .int .i64 a0), (1, .int .i64 a1), (2, .slice A2 l2.length c2), (27, .slice (some ⟨b142, 0, none⟩) 0 0), (28, .slice A2 l2.length c2)]) (w' := w143) (by kernel_rfl) ?_
        have hS : Sat w143 (rf w0) [osl 22 (r0 (.int .u64)) 1 (some ⟨b142, 0, none⟩) (([] : List Int) : List Int).length (([] : List Int) : List Int)] := Sat.toOsl' (r0 (.int .u64)) 1 (([] : List Int) : List Int) hS rfl (rdL.nil _ _)
        obtain ⟨y145, e144, H⟩ := bind_ex H
        refine WR.st (St.append' (.tmp 27) (.tmp 28) (by kernel_rfl) (by kernel_rfl) E32 (r0_one _) hS (by kernel_rfl) (by kernel_rfl) (rdS.up R2 hS.sub0) 17592186044416 (by kernel_rfl) (by kernel_rfl) e144 (fun A146 c147 w148 hS => ?_))
        refine WR.runk [3] [] [0, 1, 2, 7] (L' := [(0, .int .i64 a0), (1, .int .i64 a1), (2, .slice A2 l2.length c2), (7, .slice A146 y145.length c147)]) (w' := w148) (by kernel_rfl) ?_
        refine WR.nil ?_
        refine At.go ?_
        refine WC.seq (by kernel_rfl) ?_
        refine WC.reg [0, 1, 2, 3, 4, 5, 6, 7, 8] (by kernel_rfl) (by kernel_rfl) ?_
        refine WR.runk [0, 1, 2] [3, 4, 5, 6, 7, 8] [0, 1, 2, 7, 31, 32, 33] (L' := [(0, .int .i64 a0), (1, .int .i64 a1), (2, .slice A2 l2.length c2), (7, .slice A146 y145.length c147), (31, .int .i64 a0), (32, .int .i64 a1), (33, .slice A146 y145.length c147)]) (w' := w148) (by kernel_rfl) ?_
        obtain ⟨r149, e150, H⟩ := bind_ex H
        refine WR.st (St.call (by kernel_rfl) (f := 15) (args := #[.int .i64 a0, .int .i64 a1, .slice A146 y145.length c147]) (by kernel_rfl) (pack_From.calls w148 a0 a1 A146 c147 y145 (Sat.rdAt 0 hS rfl) r149 e150) ?_)
        rintro _ w156 ⟨pv158, rfl, hS157⟩
        have hS : Sat w156 (rf w0) [optP O55 pv158 r149.1, osl 22 (r0 (.int .u64)) 1 A146 c147 y145] := hS.ext hS157
        refine WR.runk [4, 5, 6, 7, 8] [] [0, 1, 2, 7, 8, 9] (L' := [(0, .int .i64 a0), (1, .int .i64 a1), (2, .slice A2 l2.length c2), (7, .slice A146 y145.length c147), (8, pv158), (9, .int .i64 r149.2)]) (w' := w156) (by kernel_rfl) ?_
        refine WR.nil ?_
        refine At.go ?_
        refine WC.seq (by kernel_rfl) ?_
        refine WC.seq (by kernel_rfl) ?_
        refine WC.reg [0, 1, 2, 3] (by kernel_rfl) (by kernel_rfl) ?_
        refine WR.runk [0, 1] [2, 3] [0, 1, 2, 7, 8, 9, 37, 38] (L' := [(0, .int .i64 a0), (1, .int .i64 a1), (2, .slice A2 l2.length c2), (7, .slice A146 y145.length c147), (8, pv158), (9, .int .i64 r149.2), (37, .int .i64 a0), (38, .int .i64 a1)]) (w' := w156) (by kernel_rfl) ?_
        obtain ⟨r159, e160, H⟩ := bind_ex H
        refine WR.st (St.call (by kernel_rfl) (f := 16) (args := #[.int .i64 a0, .int .i64 a1]) (by kernel_rfl) (colophonref01_Right.calls w156 a0 a1 r159 e160) ?_)
        rintro _ w166 ⟨rfl, hS167⟩
        have hS : Sat w166 (rf w0) [optP O55 pv158 r149.1, osl 22 (r0 (.int .u64)) 1 A146 c147 y145] := hS.ext hS167
        refine WR.runk [3] [] [0, 1, 2, 7, 8, 9, 40] (L' := [(0, .int .i64 a0), (1, .int .i64 a1), (2, .slice A2 l2.length c2), (7, .slice A146 y145.length c147), (8, pv158), (9, .int .i64 r149.2), (40, .bool (!r159))]) (w' := w166) (by kernel_rfl) ?_
        refine WR.nil ?_
        refine At.go ?_
        refine WC.cond (by kernel_rfl) (!r159) (by kernel_rfl) (by kernel_rfl) (fun hb168 => ?_) (fun hb168 => ?_)
        · replace H := ite_t H hb168
          refine WC.seq (by kernel_rfl) ?_
          refine WC.reg [0, 1, 2, 3, 4, 5, 6] (by kernel_rfl) (by kernel_rfl) ?_
          refine WR.runk [0, 1, 2] [3, 4, 5, 6] [8, 43] (L' := [(8, pv158), (43, .bool (r149.2 == 2))]) (w' := w166) (by kernel_rfl) ?_
          refine WR.split 43 (b := (r149.2 == 2)) (by kernel_rfl) (fun hb169 => ?_) (fun hb169 => ?_)
          · replace H := ite_t H hb169
            refine WR.runk [3] [4, 5, 6] [43, 44] (L' := [(43, .bool true), (44, pv158)]) (w' := w166) (by kernel_rfl) ?_
            rcases hr171 : r149.1 with _ | y170
            · rw [hr171] at H
              dsimp only at H
              have hv172 := optP.none hS hr171
              subst hv172
              have hS : Sat w166 (rf w0) [osl 22 (r0 (.int .u64)) 1 A146 c147 y145] := hS.sel [1] (by kernel_rfl)
              refine WR.runk [4, 5, 6] [] [6] (L' := [(6, .bool true)]) (w' := w166) (by kernel_rfl) ?_
              refine WR.nil ?_
              refine At.go ?_
              refine WC.ret (by kernel_rfl) ?_
              refine At.thenRet ?_
              obtain rfl := Option.some.inj H
              have hS : Sat w166 (rf w0) [] := hS.sel [] (by kernel_rfl)
              exact At.body [.bool true] (by kernel_rfl) ⟨_, rfl, rfl, hS⟩
            · rw [hr171] at H
              dsimp only at H
              obtain ⟨b173, hv172, hN175⟩ := optP.some hS hr171
              subst hv172
              have hS : Sat w166 (rf w0) [O55 b173 y170, osl 22 (r0 (.int .u64)) 1 A146 c147 y145] := hN175
              refine WR.runk [4, 5, 6] [] [6] (L' := [(6, .bool false)]) (w' := w166) (by kernel_rfl) ?_
              refine WR.nil ?_
              refine At.go ?_
              refine WC.ret (by kernel_rfl) ?_
              refine At.thenRet ?_
              obtain rfl := Option.some.inj H
              have hS : Sat w166 (rf w0) [] := hS.sel [] (by kernel_rfl)
              exact At.body [.bool false] (by kernel_rfl) ⟨_, rfl, rfl, hS⟩
          · replace H := ite_f H hb169
            refine WR.runk [3, 4, 5, 6] [] [6] (L' := [(6, .bool false)]) (w' := w166) (by kernel_rfl) ?_
            refine WR.nil ?_
            refine At.go ?_
            refine WC.ret (by kernel_rfl) ?_
            refine At.thenRet ?_
            obtain rfl := Option.some.inj H
            have hS : Sat w166 (rf w0) [] := hS.sel [] (by kernel_rfl)
            exact At.body [.bool false] (by kernel_rfl) ⟨_, rfl, rfl, hS⟩
        · replace H := ite_f H hb168
          refine WC.skip (by kernel_rfl) ?_
          refine At.go ?_
          refine WC.seq (by kernel_rfl) ?_
          refine WC.reg [0, 1, 2, 3, 4, 5, 6, 7, 8] (by kernel_rfl) (by kernel_rfl) ?_
          refine WR.runk [0, 1, 2] [3, 4, 5, 6, 7, 8] [1, 2, 7, 8, 9, 48, 49, 50] (L' := [(1, .int .i64 a1), (2, .slice A2 l2.length c2), (7, .slice A146 y145.length c147), (8, pv158), (9, .int .i64 r149.2), (48, .int .i64 a0), (49, .int .i64 a1), (50, .slice A2 l2.length c2)]) (w' := w166) (by kernel_rfl) ?_
          obtain ⟨r176, e177, H⟩ := bind_ex H
          refine WR.st (St.call (by kernel_rfl) (f := 17) (args := #[.int .i64 a0, .int .i64 a1, .slice A2 l2.length c2]) (by kernel_rfl) (colophonref01_List.calls w166 a0 a1 A2 c2 l2 (rdS.up R2 hS.sub0) r176 e177) ?_)
          rintro _ w183 ⟨A185, c186, rfl, hS184⟩
          have hS : Sat w183 (rf w0) [osl 22 (r0 (.int .u64)) 1 A185 c186 r176.1, optP O55 pv158 r149.1, osl 22 (r0 (.int .u64)) 1 A146 c147 y145] := hS.ext hS184
          refine WR.runk [4, 5, 6, 7, 8] [] [1, 2, 7, 8, 9, 10, 11] (L' := [(1, .int .i64 a1), (2, .slice A2 l2.length c2), (7, .slice A146 y145.length c147), (8, pv158), (9, .int .i64 r149.2), (10, .slice A185 r176.1.length c186), (11, .bool r176.2)]) (w' := w183) (by kernel_rfl) ?_
          refine WR.nil ?_
          refine At.go ?_
          refine WC.seq (by kernel_rfl) ?_
          refine WC.seq (by kernel_rfl) ?_
          refine WC.reg [0, 1] (by kernel_rfl) (by kernel_rfl) ?_
          refine WR.runk [0, 1] [] [1, 2, 7, 8, 9, 10, 55] (L' := [(1, .int .i64 a1), (2, .slice A2 l2.length c2), (7, .slice A146 y145.length c147), (8, pv158), (9, .int .i64 r149.2), (10, .slice A185 r176.1.length c186), (55, .bool (!r176.2))]) (w' := w183) (by kernel_rfl) ?_
          refine WR.nil ?_
          refine At.go ?_
          refine WC.cond (by kernel_rfl) (!r176.2) (by kernel_rfl) (by kernel_rfl) (fun hb187 => ?_) (fun hb187 => ?_)
          · replace H := ite_t H hb187
            refine WC.seq (by kernel_rfl) ?_
            refine WC.reg [0, 1, 2, 3, 4, 5, 6] (by kernel_rfl) (by kernel_rfl) ?_
            refine WR.runk [0, 1, 2] [3, 4, 5, 6] [8, 58] (L' := [(8, pv158), (58, .bool (r149.2 == 10))]) (w' := w183) (by kernel_rfl) ?_
            refine WR.split 58 (b := (r149.2 == 10)) (by kernel_rfl) (fun hb188 => ?_) (fun hb188 => ?_)
            · replace H := ite_t H hb188
              refine WR.runk [3] [4, 5, 6] [58, 59] (L' := [(58, .bool true), (59, pv158)]) (w' := w183) (by kernel_rfl) ?_
              have hS : Sat w183 (rf w0) [optP O55 pv158 r149.1, osl 22 (r0 (.int .u64)) 1 A185 c186 r176.1, osl 22 (r0 (.int .u64)) 1 A146 c147 y145] := hS.sel [1, 0, 2] (by kernel_rfl)
              rcases hr190 : r149.1 with _ | y189
              · rw [hr190] at H
                dsimp only at H
                have hv191 := optP.none hS hr190
                subst hv191
                have hS : Sat w183 (rf w0) [osl 22 (r0 (.int .u64)) 1 A185 c186 r176.1, osl 22 (r0 (.int .u64)) 1 A146 c147 y145] := hS.sel [1, 2] (by kernel_rfl)
                refine WR.runk [4, 5, 6] [] [6] (L' := [(6, .bool true)]) (w' := w183) (by kernel_rfl) ?_
                refine WR.nil ?_
                refine At.go ?_
                refine WC.ret (by kernel_rfl) ?_
                refine At.thenRet ?_
                obtain rfl := Option.some.inj H
                have hS : Sat w183 (rf w0) [] := hS.sel [] (by kernel_rfl)
                exact At.body [.bool true] (by kernel_rfl) ⟨_, rfl, rfl, hS⟩
              · rw [hr190] at H
                dsimp only at H
                obtain ⟨b192, hv191, hN194⟩ := optP.some hS hr190
                subst hv191
                have hS : Sat w183 (rf w0) [O55 b192 y189, osl 22 (r0 (.int .u64)) 1 A185 c186 r176.1, osl 22 (r0 (.int .u64)) 1 A146 c147 y145] := hN194
                refine WR.runk [4, 5, 6] [] [6] (L' := [(6, .bool false)]) (w' := w183) (by kernel_rfl) ?_
                refine WR.nil ?_
                refine At.go ?_
                refine WC.ret (by kernel_rfl) ?_
                refine At.thenRet ?_
                obtain rfl := Option.some.inj H
                have hS : Sat w183 (rf w0) [] := hS.sel [] (by kernel_rfl)
                exact At.body [.bool false] (by kernel_rfl) ⟨_, rfl, rfl, hS⟩
            · replace H := ite_f H hb188
              refine WR.runk [3, 4, 5, 6] [] [6] (L' := [(6, .bool false)]) (w' := w183) (by kernel_rfl) ?_
              refine WR.nil ?_
              refine At.go ?_
              refine WC.ret (by kernel_rfl) ?_
              refine At.thenRet ?_
              obtain rfl := Option.some.inj H
              have hS : Sat w183 (rf w0) [] := hS.sel [] (by kernel_rfl)
              exact At.body [.bool false] (by kernel_rfl) ⟨_, rfl, rfl, hS⟩
          · replace H := ite_f H hb187
            refine WC.skip (by kernel_rfl) ?_
            refine At.go ?_
            refine WC.seq (by kernel_rfl) ?_
            refine WC.seq (by kernel_rfl) ?_
            refine WC.reg [0, 1, 2] (by kernel_rfl) (by kernel_rfl) ?_
            refine WR.runk [0, 1, 2] [] [1, 2, 7, 8, 9, 10, 63, 64] (L' := [(1, .int .i64 a1), (2, .slice A2 l2.length c2), (7, .slice A146 y145.length c147), (8, pv158), (9, .int .i64 r149.2), (10, .slice A185 r176.1.length c186), (63, .int .i64 (y145.length : Int)), (64, .int .i64 0)]) (w' := w183) (by kernel_rfl) ?_
            refine WR.nil ?_
            refine At.go ?_
            refine WC.block (by kernel_rfl) ?_
            have hS : Sat w183 (rf w0) [optP O55 pv158 r149.1, osl 22 (r0 (.int .u64)) 1 A185 c186 r176.1, osl 22 (r0 (.int .u64)) 1 A146 c147 y145] := hS.sel [1, 0, 2] (by kernel_rfl)
            obtain ⟨y195, hr196, H⟩ := bind_ex H
            obtain ⟨b198, hv197, hN269⟩ := optP.some hS hr196
            subst hv197
            have hS : Sat w183 (rf w0) [O55 b198 y195, osl 22 (r0 (.int .u64)) 1 A185 c186 r176.1, osl 22 (r0 (.int .u64)) 1 A146 c147 y145] := hN269
            have hS : Sat w183 (rf w0) [osl 22 (r0 (.int .u64)) 1 A146 c147 y145, osl 22 (r0 (.int .u64)) 1 A185 c186 r176.1, O55 b198 y195] := hS.sel [2, 1, 0] (by kernel_rfl)
            obtain ⟨o207, e208, H⟩ := bind_ex H
            refine WC.loop (by kernel_rfl) ?_
            refine WL.weaken [1, 2, 7, 8, 9, 10, 63, 64] (L' := [(1, .int .i64 a1), (2, .slice A2 l2.length c2), (7, .slice A146 y145.length c147), (8, .pointer (some ⟨b198, 0, none⟩)), (9, .int .i64 r149.2), (10, .slice A185 r176.1.length c186), (63, .int .i64 (y145.length : Int)), (64, .int .i64 0)]) (by kernel_rfl) ?_
            refine colophonlaw01_PackFrom.l3_ok w0 a1 A2 c2 l2 y145 r149 r176 A185 c186 y195 b198 o207 (fun w210 hS => ?_) FU y145 0 A146 c147 _ hS e208
            refine At.hit ?_
            refine At.go ?_
            refine WC.seq (by kernel_rfl) ?_
            refine WC.seq (by kernel_rfl) ?_
            refine WC.reg [0, 1, 2, 3, 4, 5, 6, 7, 8, 9, 10, 11, 12, 13, 14] (by kernel_rfl) (by kernel_rfl) ?_
            refine WR.runk [0, 1, 2] [3, 4, 5, 6, 7, 8, 9, 10, 11, 12, 13, 14] [1, 2, 8, 10, 76] (L' := [(1, .int .i64 a1), (2, .slice A2 l2.length c2), (8, .pointer (some ⟨b198, 0, none⟩)), (10, .slice A185 r176.1.length c186), (76, .bool (r149.2 != 0))]) (w' := w210) (by kernel_rfl) ?_
            refine WR.split 76 (b := (r149.2 != 0)) (by kernel_rfl) (fun hb212 => ?_) (fun hb212 => ?_)
            · replace H := ite_t H hb212
              refine WR.runk [3, 4, 5, 6, 7, 8, 9, 10, 11, 12, 13, 14] [] [8, 10, 88] (L' := [(8, .pointer (some ⟨b198, 0, none⟩)), (10, .slice A185 r176.1.length c186), (88, .bool true)]) (w' := w210) (by kernel_rfl) ?_
              refine WR.nil ?_
              refine At.go ?_
              refine WC.condT (by kernel_rfl) (by kernel_rfl) (by kernel_rfl) ?_
              refine WC.seq (by kernel_rfl) ?_
              refine WC.reg [0] (by kernel_rfl) (by kernel_rfl) ?_
              refine WR.runk [0] [] [6] (L' := [(6, .bool false)]) (w' := w210) (by kernel_rfl) ?_
              refine WR.nil ?_
              refine At.go ?_
              refine WC.ret (by kernel_rfl) ?_
              refine At.thenRet ?_
              obtain rfl := Option.some.inj H
              have hS : Sat w210 (rf w0) [] := hS.sel [] (by kernel_rfl)
              exact At.body [.bool false] (by kernel_rfl) ⟨_, rfl, rfl, hS⟩
            · replace H := ite_f H hb212
              refine WR.runk [3] [4, 5, 6, 7, 8, 9, 10, 11, 12, 13, 14] [1, 2, 8, 10, 76, 77] (L' := [(1, .int .i64 a1), (2, .slice A2 l2.length c2), (8, .pointer (some ⟨b198, 0, none⟩)), (10, .slice A185 r176.1.length c186), (76, .bool false), (77, .pointer (some ⟨b198, 0, none⟩))]) (w' := w210) (by kernel_rfl) ?_
              obtain ⟨r213, e214, H⟩ := bind_ex H
              refine WR.st (St.call (by kernel_rfl) (f := 18) (args := #[.pointer (some ⟨b198, 0, none⟩)]) (by kernel_rfl) (pack_Ints_Len.calls w210 (.pointer (some ⟨b198, 0, none⟩)) (some y195) (Sat.rdAny 1 hS rfl (fun _ h => O55.rd _ _ _ h)) r213 e214) ?_)
              rintro _ w220 ⟨rfl, hS221⟩
              have hS : Sat w220 (rf w0) [osl 22 (r0 (.int .u64)) 1 A185 c186 r176.1, O55 b198 y195] := hS.ext hS221
              refine WR.runk [5, 6, 7, 8] [9, 10, 11, 12, 13, 14] [2, 8, 10, 82] (L' := [(2, .slice A2 l2.length c2), (8, .pointer (some ⟨b198, 0, none⟩)), (10, .slice A185 r176.1.length c186), (82, .bool (r213 != a1))]) (w' := w220) (by kernel_rfl) ?_
              refine WR.split 82 (b := (r213 != a1)) (by kernel_rfl) (fun hb222 => ?_) (fun hb222 => ?_)
              · replace H := ite_t H hb222
                refine WR.runk [9, 10, 11, 12, 13, 14] [] [8, 10, 88] (L' := [(8, .pointer (some ⟨b198, 0, none⟩)), (10, .slice A185 r176.1.length c186), (88, .bool true)]) (w' := w220) (by kernel_rfl) ?_
                refine WR.nil ?_
                refine At.go ?_
                refine WC.condT (by kernel_rfl) (by kernel_rfl) (by kernel_rfl) ?_
                refine WC.seq (by kernel_rfl) ?_
                refine WC.reg [0] (by kernel_rfl) (by kernel_rfl) ?_
                refine WR.runk [0] [] [6] (L' := [(6, .bool false)]) (w' := w220) (by kernel_rfl) ?_
                refine WR.nil ?_
                refine At.go ?_
                refine WC.ret (by kernel_rfl) ?_
                refine At.thenRet ?_
                obtain rfl := Option.some.inj H
                have hS : Sat w220 (rf w0) [] := hS.sel [] (by kernel_rfl)
                exact At.body [.bool false] (by kernel_rfl) ⟨_, rfl, rfl, hS⟩
              · replace H := ite_f H hb222
                refine WR.runk [9] [10, 11, 12, 13, 14] [2, 8, 10, 82, 83] (L' := [(2, .slice A2 l2.length c2), (8, .pointer (some ⟨b198, 0, none⟩)), (10, .slice A185 r176.1.length c186), (82, .bool false), (83, .pointer (some ⟨b198, 0, none⟩))]) (w' := w220) (by kernel_rfl) ?_
                obtain ⟨r223, e224, H⟩ := bind_ex H
                refine WR.st (St.call (by kernel_rfl) (f := 14) (args := #[.pointer (some ⟨b198, 0, none⟩)]) (by kernel_rfl) (pack_Ints_Words.calls w220 (.pointer (some ⟨b198, 0, none⟩)) (some y195) (Sat.rdAny 1 hS rfl (fun _ h => O55.rd _ _ _ h)) r223 e224) ?_)
                rintro _ w230 ⟨A232, c233, rfl, hS231⟩
                have hS : Sat w230 (rf w0) [osl 22 (r0 (.int .u64)) 1 A232 c233 r223, osl 22 (r0 (.int .u64)) 1 A185 c186 r176.1, O55 b198 y195] := hS.ext hS231
                refine WR.runk [11] [12, 13, 14] [8, 10, 82, 84, 85] (L' := [(8, .pointer (some ⟨b198, 0, none⟩)), (10, .slice A185 r176.1.length c186), (82, .bool false), (84, .slice A232 r223.length c233), (85, .slice A2 l2.length c2)]) (w' := w230) (by kernel_rfl) ?_
                obtain ⟨r234, e235, H⟩ := bind_ex H
                refine WR.st (St.call (by kernel_rfl) (f := 19) (args := #[.slice A232 r223.length c233, .slice A2 l2.length c2]) (by kernel_rfl) (colophonref01_Same.calls w230 A232 c233 r223 (Sat.rdAt 0 hS rfl) A2 c2 l2 (rdS.up R2 hS.sub0) r234 e235) ?_)
                rintro _ w241 ⟨rfl, hS242⟩
                have hS : Sat w241 (rf w0) [osl 22 (r0 (.int .u64)) 1 A232 c233 r223, osl 22 (r0 (.int .u64)) 1 A185 c186 r176.1, O55 b198 y195] := hS.ext hS242
                refine WR.runk [13, 14] [] [8, 10, 88] (L' := [(8, .pointer (some ⟨b198, 0, none⟩)), (10, .slice A185 r176.1.length c186), (88, .bool (!r234))]) (w' := w241) (by kernel_rfl) ?_
                refine WR.nil ?_
                refine At.go ?_
                refine WC.cond (by kernel_rfl) (!r234) (by kernel_rfl) (by kernel_rfl) (fun hb243 => ?_) (fun hb243 => ?_)
                · replace H := ite_t H hb243
                  refine WC.seq (by kernel_rfl) ?_
                  refine WC.reg [0] (by kernel_rfl) (by kernel_rfl) ?_
                  refine WR.runk [0] [] [6] (L' := [(6, .bool false)]) (w' := w241) (by kernel_rfl) ?_
                  refine WR.nil ?_
                  refine At.go ?_
                  refine WC.ret (by kernel_rfl) ?_
                  refine At.thenRet ?_
                  obtain rfl := Option.some.inj H
                  have hS : Sat w241 (rf w0) [] := hS.sel [] (by kernel_rfl)
                  exact At.body [.bool false] (by kernel_rfl) ⟨_, rfl, rfl, hS⟩
                · replace H := ite_f H hb243
                  refine WC.skip (by kernel_rfl) ?_
                  refine At.go ?_
                  refine WC.seq (by kernel_rfl) ?_
                  refine WC.seq (by kernel_rfl) ?_
                  refine WC.reg [0, 1, 2] (by kernel_rfl) (by kernel_rfl) ?_
                  refine WR.runk [0, 1, 2] [] [8, 10, 90, 91] (L' := [(8, .pointer (some ⟨b198, 0, none⟩)), (10, .slice A185 r176.1.length c186), (90, .int .i64 (r176.1.length : Int)), (91, .int .i64 0)]) (w' := w241) (by kernel_rfl) ?_
                  refine WR.nil ?_
                  refine At.go ?_
                  refine WC.block (by kernel_rfl) ?_
                  have hS : Sat w241 (rf w0) [osl 22 (r0 (.int .u64)) 1 A185 c186 r176.1, O55 b198 y195] := hS.sel [1, 2] (by kernel_rfl)
                  obtain ⟨o259, e260, H⟩ := bind_ex H
                  refine WC.loop (by kernel_rfl) ?_
                  refine WL.weaken [8, 10, 90, 91] (L' := [(8, .pointer (some ⟨b198, 0, none⟩)), (10, .slice A185 r176.1.length c186), (90, .int .i64 (r176.1.length : Int)), (91, .int .i64 0)]) (by kernel_rfl) ?_
                  refine colophonlaw01_PackFrom.l4_ok w0 r176 A185 c186 y195 b198 o259 (fun o261 w263 ho264 hS => ?_) (fun o265 w267 ho268 hS => ?_) FU 0 _ hS e260
                  · subst ho264
                    dsimp only at H
                    refine At.blockRet ?_
                    refine At.thenRet ?_
                    obtain rfl := Option.some.inj H
                    have hS : Sat w263 (rf w0) [] := hS.sel [] (by kernel_rfl)
                    exact At.body [.bool o261] (by kernel_rfl) ⟨_, rfl, rfl, hS⟩
                  · subst ho268
                    dsimp only at H
                    refine At.hit ?_
                    refine At.go ?_
                    refine WC.seq (by kernel_rfl) ?_
                    refine WC.reg [0] (by kernel_rfl) (by kernel_rfl) ?_
                    refine WR.runk [0] [] [6] (L' := [(6, .bool true)]) (w' := w267) (by kernel_rfl) ?_
                    refine WR.nil ?_
                    refine At.go ?_
                    refine WC.ret (by kernel_rfl) ?_
                    obtain rfl := Option.some.inj H
                    have hS : Sat w267 (rf w0) [] := hS.sel [] (by kernel_rfl)
                    exact At.body [.bool true] (by kernel_rfl) ⟨_, rfl, rfl, hS⟩
end Go.Proofs.Ytamlfkfdpgchiaa
