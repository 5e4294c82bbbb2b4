/-
  Printed by gen.py (my own tool): for each Go function a plain Lean function and the proof that a call of it does what that function says.
-/
import Derived.Test.YtomeiphaohjeoaaGP1c
set_option linter.unusedVariables false
set_option linter.unusedSimpArgs false
set_option maxRecDepth 100000
namespace Go.Proofs.Ytomeiphaohjeoaa
open Go Go.Gol
/-! ### 4 colophon/colophonlaw03.SparseHas -/
def colophonlaw03_SparseHas.l1 (l1 : List Int) (y17 : List Int) : Nat → (List Int) → Int → Option Unit
  | 0, _, _ => none
  | k + 1, x7_l1, x51_l1 => (if decide (x51_l1 < (y17.length : Int)) then ((at? x7_l1 x51_l1).bind fun v54 => ((set? x7_l1 x51_l1 0).bind fun y56 => colophonlaw03_SparseHas.l1 l1 y17 k y56 (wi (x51_l1 + 1)))) else some ())
def colophonlaw03_SparseHas.l2 (l1 : List Int) (y48 : Int × Int × Int × (Option (Int × (List Int) × (List Int) × Int)) × (Option (Int × Int × (List Int))) × (Option (Int × Int × (List Int)))) : Nat → Int → Option (Sum Bool Unit)
  | 0, _ => none
  | k + 1, x110_l2 => (if decide (x110_l2 < (l1.length : Int)) then ((at? l1 x110_l2).bind fun v139 => ((sparse_Set_At.f (some y48) x110_l2).bind fun r141 => (if (r141 != v139) then some (.inl false) else colophonlaw03_SparseHas.l2 l1 y48 k (wi (x110_l2 + 1))))) else some (.inr ()))
def colophonlaw03_SparseHas.l3 (l1 : List Int) (y48 : Int × Int × Int × (Option (Int × (List Int) × (List Int) × Int)) × (Option (Int × Int × (List Int))) × (Option (Int × Int × (List Int)))) : Nat → Int → Option (Sum Bool Unit)
  | 0, _ => none
  | k + 1, x110_l3 => (if decide (x110_l3 < (l1.length : Int)) then ((at? l1 x110_l3).bind fun v230 => ((sparse_Set_At.f (some y48) x110_l3).bind fun r232 => (if (r232 != v230) then some (.inl false) else colophonlaw03_SparseHas.l3 l1 y48 k (wi (x110_l3 + 1))))) else some (.inr ()))
def colophonlaw03_SparseHas.l4 (y321 : List Int) : Nat → (List Int) → Int → Option Unit
  | 0, _, _ => none
  | k + 1, x7_l4, x51_l4 => (if decide (x51_l4 < (y321.length : Int)) then ((at? x7_l4 x51_l4).bind fun v358 => ((set? x7_l4 x51_l4 0).bind fun y360 => colophonlaw03_SparseHas.l4 y321 k y360 (wi (x51_l4 + 1)))) else some ())
def colophonlaw03_SparseHas.l5 (l1 : List Int) (y352 : Int × Int × Int × (Option (Int × (List Int) × (List Int) × Int)) × (Option (Int × Int × (List Int))) × (Option (Int × Int × (List Int)))) : Nat → Int → Option (Sum Bool Unit)
  | 0, _ => none
  | k + 1, x110_l5 => (if decide (x110_l5 < (l1.length : Int)) then ((at? l1 x110_l5).bind fun v443 => ((sparse_Set_At.f (some y352) x110_l5).bind fun r445 => (if (r445 != v443) then some (.inl false) else colophonlaw03_SparseHas.l5 l1 y352 k (wi (x110_l5 + 1))))) else some (.inr ()))
def colophonlaw03_SparseHas.l6 (l1 : List Int) (y352 : Int × Int × Int × (Option (Int × (List Int) × (List Int) × Int)) × (Option (Int × Int × (List Int))) × (Option (Int × Int × (List Int)))) : Nat → Int → Option (Sum Bool Unit)
  | 0, _ => none
  | k + 1, x110_l6 => (if decide (x110_l6 < (l1.length : Int)) then ((at? l1 x110_l6).bind fun v534 => ((sparse_Set_At.f (some y352) x110_l6).bind fun r536 => (if (r536 != v534) then some (.inl false) else colophonlaw03_SparseHas.l6 l1 y352 k (wi (x110_l6 + 1))))) else some (.inr ()))
def colophonlaw03_SparseHas.f (a0 : Int) (l1 : List Int) (a2 : Int) : Option Bool := (colophonlaw03_first.f.bind fun r1 => (if (!r1) then some false else (if decide ((l1.length : Int) > 1000) then some true else (if decide (a0 > 50000) then (if decide ((l1.length : Int) > 0) then some true else ((app? 17592186044416 (([] : List Int) : List Int) l1).bind fun y17 => ((sparse_New.f a0 y17).bind fun r21 => ((colophonref03_Right.f a0 l1).bind fun r31 => (if (!r31) then (if (r21.2 == 2) then (match r21.1 with | none => some true | some y42 => some false) else some false) else (r21.1.bind fun y48 => ((colophonlaw03_SparseHas.l1 l1 y17 FU y17 0).bind fun o60 => (if (r21.2 != 0) then some false else ((sparse_Set_Len.f (some y48)).bind fun r66 => (if (r66 != (l1.length : Int)) then some false else ((sparse_Set_Bound.f (some y48)).bind fun r76 => (if (r76 != a0) then some false else ((sparse_Set_Rank.f (some y48) a2).bind fun r86 => ((colophonref03_Below.f l1 a2).bind fun r95 => (if (r86 != r95) then some false else ((sparse_Set_Has.f (some y48) a2).bind fun r105 => ((colophonref03_Below.f l1 a2).bind fun r114 => (if decide (r114 < (l1.length : Int)) then ((colophonref03_Below.f l1 a2).bind fun r124 => ((at? l1 (imin r124 (wi ((l1.length : Int) - 1)))).bind fun v133 => (if (r105 != (v133 == a2)) then some false else ((colophonlaw03_SparseHas.l2 l1 y48 FU 0).bind fun o151 => (match o151 with | .inl o153 => some o153 | .inr o157 => ((sparse_Set_Words.f (some y48)).bind fun r161 => ((colophonref03_Words.f a0 l1).bind fun r174 => ((colophonref01_Same.f r161.1 r174.1).bind fun r187 => (if r187 then ((colophonref01_Same.f r161.2 r174.2).bind fun r197 => (if r197 then ((sparse_Set_At.f (some y48) (l1.length : Int)).bind fun r207 => (if (r207 == (-1)) then ((sparse_Set_At.f (some y48) (-1)).bind fun r217 => some (r217 == (-1))) else some false)) else some false)) else some false))))))))) else (if (r105 != false) then some false else ((colophonlaw03_SparseHas.l3 l1 y48 FU 0).bind fun o242 => (match o242 with | .inl o244 => some o244 | .inr o248 => ((sparse_Set_Words.f (some y48)).bind fun r252 => ((colophonref03_Words.f a0 l1).bind fun r265 => ((colophonref01_Same.f r252.1 r265.1).bind fun r278 => (if r278 then ((colophonref01_Same.f r252.2 r265.2).bind fun r288 => (if r288 then ((sparse_Set_At.f (some y48) (l1.length : Int)).bind fun r298 => (if (r298 == (-1)) then ((sparse_Set_At.f (some y48) (-1)).bind fun r308 => some (r308 == (-1))) else some false)) else some false)) else some false))))))))))))))))))))))))) else ((app? 17592186044416 (([] : List Int) : List Int) l1).bind fun y321 => ((sparse_New.f a0 y321).bind fun r325 => ((colophonref03_Right.f a0 l1).bind fun r335 => (if (!r335) then (if (r325.2 == 2) then (match r325.1 with | none => some true | some y346 => some false) else some false) else (r325.1.bind fun y352 => ((colophonlaw03_SparseHas.l4 y321 FU y321 0).bind fun o364 => (if (r325.2 != 0) then some false else ((sparse_Set_Len.f (some y352)).bind fun r370 => (if (r370 != (l1.length : Int)) then some false else ((sparse_Set_Bound.f (some y352)).bind fun r380 => (if (r380 != a0) then some false else ((sparse_Set_Rank.f (some y352) a2).bind fun r390 => ((colophonref03_Below.f l1 a2).bind fun r399 => (if (r390 != r399) then some false else ((sparse_Set_Has.f (some y352) a2).bind fun r409 => ((colophonref03_Below.f l1 a2).bind fun r418 => (if decide (r418 < (l1.length : Int)) then ((colophonref03_Below.f l1 a2).bind fun r428 => ((at? l1 (imin r428 (wi ((l1.length : Int) - 1)))).bind fun v437 => (if (r409 != (v437 == a2)) then some false else ((colophonlaw03_SparseHas.l5 l1 y352 FU 0).bind fun o455 => (match o455 with | .inl o457 => some o457 | .inr o461 => ((sparse_Set_Words.f (some y352)).bind fun r465 => ((colophonref03_Words.f a0 l1).bind fun r478 => ((colophonref01_Same.f r465.1 r478.1).bind fun r491 => (if r491 then ((colophonref01_Same.f r465.2 r478.2).bind fun r501 => (if r501 then ((sparse_Set_At.f (some y352) (l1.length : Int)).bind fun r511 => (if (r511 == (-1)) then ((sparse_Set_At.f (some y352) (-1)).bind fun r521 => some (r521 == (-1))) else some false)) else some false)) else some false))))))))) else (if (r409 != false) then some false else ((colophonlaw03_SparseHas.l6 l1 y352 FU 0).bind fun o546 => (match o546 with | .inl o548 => some o548 | .inr o552 => ((sparse_Set_Words.f (some y352)).bind fun r556 => ((colophonref03_Words.f a0 l1).bind fun r569 => ((colophonref01_Same.f r556.1 r569.1).bind fun r582 => (if r582 then ((colophonref01_Same.f r556.2 r569.2).bind fun r592 => (if r592 then ((sparse_Set_At.f (some y352) (l1.length : Int)).bind fun r602 => (if (r602 == (-1)) then ((sparse_Set_At.f (some y352) (-1)).bind fun r612 => some (r612 == (-1))) else some false)) else some false)) else some false))))))))))))))))))))))))))))
def colophonlaw03_SparseHas.post (w : World) (r : Bool) (v : Value) (w' : World) : Prop := v = (.bool r : Value) ∧ Sat w' (rf w) []
theorem colophonlaw03_SparseHas.l1_ok {Q} (w0 : World) (a0 : Int) (A1 : Option Addr) (c1 : Nat) (l1 : List Int) (a2 : Int) (y17 : List Int) (r21 : (Option (Int × Int × Int × (Option (Int × (List Int) × (List Int) × Int)) × (Option (Int × Int × (List Int))) × (Option (Int × Int × (List Int))))) × Int) (y48 : Int × Int × Int × (Option (Int × (List Int) × (List Int) × Int)) × (Option (Int × Int × (List Int))) × (Option (Int × Int × (List Int)))) (b51 : Nat) (out : Unit) (hn0 : ∀ (w : World), Sat w (rf w0) [O49 b51 y48] → At Q (.exit 0) 153 [(0, .int .i64 a0), (1, .slice A1 l1.length c1), (2, .int .i64 a2), (8, .pointer (some ⟨b51, 0, none⟩)), (9, .int .i64 r21.2)] w) :
    ∀ (k : Nat) (x7_l1 : List Int) (x51_l1 : Int) (A7_l1 : Option Addr) (c7_l1 : Nat) (w : World), Sat w (rf w0) [osl 3 (r0 (.int .i64)) 1 A7_l1 c7_l1 x7_l1, O49 b51 y48] → colophonlaw03_SparseHas.l1 l1 y17 k x7_l1 x51_l1 = some out → WL Try.prog (cbody (cbody (cr (cl (cr (cr (cr (cr (cr (cr C4)))))))))) Q 153 [(0, .int .i64 a0), (1, .slice A1 l1.length c1), (2, .int .i64 a2), (7, .slice A7_l1 x7_l1.length c7_l1), (8, .pointer (some ⟨b51, 0, none⟩)), (9, .int .i64 r21.2), (50, .int .i64 (y17.length : Int)), (51, .int .i64 x51_l1)] w := by
  intro k
  induction k with
  | zero => intro x7_l1 x51_l1 A7_l1 c7_l1 w hS H; exact absurd (show none = some out from H) (by simp)
  | succ k ih =>
    intro x7_l1 x51_l1 A7_l1 c7_l1 w hS H
    unfold colophonlaw03_SparseHas.l1 at H
    refine WL.round ?_
    refine WC.seq (by kernel_rfl) ?_
    refine WC.reg [0] (by kernel_rfl) (by kernel_rfl) ?_
    refine WR.runk [0] [] [0, 1, 2, 7, 8, 9, 50, 51, 52] (L' := [(0, .int .i64 a0), (1, .slice A1 l1.length c1), (2, .int .i64 a2), (7, .slice A7_l1 x7_l1.length c7_l1), (8, .pointer (some ⟨b51, 0, none⟩)), (9, .int .i64 r21.2), (50, .int .i64 (y17.length : Int)), (51, .int .i64 x51_l1), (52, .bool (decide (x51_l1 < (y17.length : Int))))]) (w' := w) (by kernel_rfl) ?_
    refine WR.nil ?_
    refine At.go ?_
    refine WC.seq (by kernel_rfl) ?_
    refine WC.cond (by kernel_rfl) (decide (x51_l1 < (y17.length : Int))) (by kernel_rfl) (by kernel_rfl) (fun hb53 => ?_) (fun hb53 => ?_)
    · replace H := ite_t H hb53
      refine WC.skip (by kernel_rfl) ?_
      refine At.go ?_
      refine WC.seq (by kernel_rfl) ?_
      refine WC.block (by kernel_rfl) ?_
      refine WC.seq (by kernel_rfl) ?_
      refine WC.reg [0, 1] (by kernel_rfl) (by kernel_rfl) ?_
      refine WR.runk [0, 1] [] [0, 1, 2, 7, 8, 9, 10, 50, 51] (L' := [(0, .int .i64 a0), (1, .slice A1 l1.length c1), (2, .int .i64 a2), (7, .slice A7_l1 x7_l1.length c7_l1), (8, .pointer (some ⟨b51, 0, none⟩)), (9, .int .i64 r21.2), (10, .int .i64 x51_l1), (50, .int .i64 (y17.length : Int)), (51, .int .i64 x51_l1)]) (w' := w) (by kernel_rfl) ?_
      refine WR.nil ?_
      refine At.go ?_
      refine WC.reg [0, 1, 2, 3] (by kernel_rfl) (by kernel_rfl) ?_
      refine WR.runk [0, 1] [2, 3] [0, 1, 2, 7, 8, 9, 50, 51, 54, 55] (L' := [(0, .int .i64 a0), (1, .slice A1 l1.length c1), (2, .int .i64 a2), (7, .slice A7_l1 x7_l1.length c7_l1), (8, .pointer (some ⟨b51, 0, none⟩)), (9, .int .i64 r21.2), (50, .int .i64 (y17.length : Int)), (51, .int .i64 x51_l1), (54, .slice A7_l1 x7_l1.length c7_l1), (55, .int .i64 x51_l1)]) (w' := w) (by kernel_rfl) ?_
      obtain ⟨v54, e55, H⟩ := bind_ex H
      refine WR.st (St.ofP (PSt.idx (k := .i64) (.tmp 54) (.tmp 55) (by kernel_rfl) (by kernel_rfl) E22 (by kernel_rfl) (by kernel_rfl) (Sat.rdAt 0 hS rfl) e55 ?_))
      refine WR.runk [] [3] [0, 1, 2, 7, 8, 9, 50, 51, 56] (L' := [(0, .int .i64 a0), (1, .slice A1 l1.length c1), (2, .int .i64 a2), (7, .slice A7_l1 x7_l1.length c7_l1), (8, .pointer (some ⟨b51, 0, none⟩)), (9, .int .i64 r21.2), (50, .int .i64 (y17.length : Int)), (51, .int .i64 x51_l1), (56, .pointer (some (adr A7_l1 x51_l1.toNat 1)))]) (w' := w) (by kernel_rfl) ?_
      obtain ⟨y56, e57, H⟩ := bind_ex H
      refine WR.st (St.storeElem' (t := 3) (.tmp 56) (.const (.int .i64 0)) (by kernel_rfl) (by kernel_rfl) (by kernel_rfl) hS (by kernel_rfl) (by kernel_rfl) rfl e57 rfl (fun w58 hS => ?_))
      have hl59 := set?_len e57
      refine WR.know 7 (.slice A7_l1 y56.length c7_l1) (.slice A7_l1 x7_l1.length c7_l1) (by kernel_rfl) (by rw [hl59]) ?_
      refine WR.runk [] [] [0, 1, 2, 7, 8, 9, 50, 51] (L' := [(0, .int .i64 a0), (1, .slice A1 l1.length c1), (2, .int .i64 a2), (7, .slice A7_l1 y56.length c7_l1), (8, .pointer (some ⟨b51, 0, none⟩)), (9, .int .i64 r21.2), (50, .int .i64 (y17.length : Int)), (51, .int .i64 x51_l1)]) (w' := w58) (by kernel_rfl) ?_
      refine WR.nil ?_
      refine At.blockNormal ?_
      refine At.go ?_
      refine WC.reg [0, 1] (by kernel_rfl) (by kernel_rfl) ?_
      refine WR.runk [0, 1] [] [0, 1, 2, 7, 8, 9, 50, 51] (L' := [(0, .int .i64 a0), (1, .slice A1 l1.length c1), (2, .int .i64 a2), (7, .slice A7_l1 y56.length c7_l1), (8, .pointer (some ⟨b51, 0, none⟩)), (9, .int .i64 r21.2), (50, .int .i64 (y17.length : Int)), (51, .int .i64 (wi (x51_l1 + 1)))]) (w' := w58) (by kernel_rfl) ?_
      refine WR.nil ?_
      have hS : Sat w58 (rf w0) [osl 3 (r0 (.int .i64)) 1 A7_l1 c7_l1 y56, O49 b51 y48] := hS.sel [0, 1] (by kernel_rfl)
      refine At.again ?_
      refine WL.weaken [0, 1, 2, 7, 8, 9, 50, 51] (L' := [(0, .int .i64 a0), (1, .slice A1 l1.length c1), (2, .int .i64 a2), (7, .slice A7_l1 y56.length c7_l1), (8, .pointer (some ⟨b51, 0, none⟩)), (9, .int .i64 r21.2), (50, .int .i64 (y17.length : Int)), (51, .int .i64 (wi (x51_l1 + 1)))]) (by kernel_rfl) ?_
      exact ih y56 (wi (x51_l1 + 1)) A7_l1 c7_l1 _ hS H
    · replace H := ite_f H hb53
      refine WC.exit (by kernel_rfl) ?_
      refine At.thenExit ?_
      refine At.thenExit ?_
      obtain rfl := Option.some.inj H
      have hS : Sat w (rf w0) [O49 b51 y48] := hS.sel [1] (by kernel_rfl)
      refine At.weaken [0, 1, 2, 8, 9] (L' := [(0, .int .i64 a0), (1, .slice A1 l1.length c1), (2, .int .i64 a2), (8, .pointer (some ⟨b51, 0, none⟩)), (9, .int .i64 r21.2)]) (by kernel_rfl) ?_
      exact hn0 _ hS
theorem colophonlaw03_SparseHas.l2_ok {Q} (w0 : World) (a0 : Int) (A1 : Option Addr) (c1 : Nat) (l1 : List Int) (y48 : Int × Int × Int × (Option (Int × (List Int) × (List Int) × Int)) × (Option (Int × Int × (List Int))) × (Option (Int × Int × (List Int)))) (b51 : Nat) (R1 : rdS (r0 (.int .i64)) 1 (hp w0) A1 c1 l1) (out : Sum Bool Unit) (hn0 : ∀ (o0 : Bool) (w : World), out = (.inl o0) → Sat w (rf w0) [O49 b51 y48] → At Q .ret 153 [(6, .bool o0)] w) (hn1 : ∀ (o1 : Unit) (w : World), out = (.inr o1) → Sat w (rf w0) [O49 b51 y48] → At Q (.exit 2) 153 [(0, .int .i64 a0), (1, .slice A1 l1.length c1), (8, .pointer (some ⟨b51, 0, none⟩))] w) :
    ∀ (k : Nat) (x110_l2 : Int) (w : World), Sat w (rf w0) [O49 b51 y48] → colophonlaw03_SparseHas.l2 l1 y48 k x110_l2 = some out → WL Try.prog (cbody (cbody (cr (cl (cr (cr (cr (cr (cr (cr (cr (cr C4)))))))))))) Q 153 [(0, .int .i64 a0), (1, .slice A1 l1.length c1), (8, .pointer (some ⟨b51, 0, none⟩)), (109, .int .i64 (l1.length : Int)), (110, .int .i64 x110_l2)] w := by
  intro k
  induction k with
  | zero => intro x110_l2 w hS H; exact absurd (show none = some out from H) (by simp)
  | succ k ih =>
    intro x110_l2 w hS H
    unfold colophonlaw03_SparseHas.l2 at H
    refine WL.round ?_
    refine WC.seq (by kernel_rfl) ?_
    refine WC.reg [0] (by kernel_rfl) (by kernel_rfl) ?_
    refine WR.runk [0] [] [0, 1, 8, 109, 110, 111] (L' := [(0, .int .i64 a0), (1, .slice A1 l1.length c1), (8, .pointer (some ⟨b51, 0, none⟩)), (109, .int .i64 (l1.length : Int)), (110, .int .i64 x110_l2), (111, .bool (decide (x110_l2 < (l1.length : Int))))]) (w' := w) (by kernel_rfl) ?_
    refine WR.nil ?_
    refine At.go ?_
    refine WC.seq (by kernel_rfl) ?_
    refine WC.cond (by kernel_rfl) (decide (x110_l2 < (l1.length : Int))) (by kernel_rfl) (by kernel_rfl) (fun hb136 => ?_) (fun hb136 => ?_)
    · replace H := ite_t H hb136
      refine WC.skip (by kernel_rfl) ?_
      refine At.go ?_
      refine WC.seq (by kernel_rfl) ?_
      refine WC.block (by kernel_rfl) ?_
      refine WC.seq (by kernel_rfl) ?_
      refine WC.reg [0, 1] (by kernel_rfl) (by kernel_rfl) ?_
      refine WR.runk [0, 1] [] [0, 1, 8, 11, 109, 110] (L' := [(0, .int .i64 a0), (1, .slice A1 l1.length c1), (8, .pointer (some ⟨b51, 0, none⟩)), (11, .int .i64 x110_l2), (109, .int .i64 (l1.length : Int)), (110, .int .i64 x110_l2)]) (w' := w) (by kernel_rfl) ?_
      refine WR.nil ?_
      refine At.go ?_
      refine WC.seq (by kernel_rfl) ?_
      refine WC.drawn (by kernel_rfl) (by kernel_rfl) 8 (by kernel_rfl) (fun w137 hw138 => ?_)
      have hS := hS.heap hw138.1 hw138.2
      refine WD.weaken [0, 1, 8, 11, 109, 110] (L' := [(0, .int .i64 a0), (1, .slice A1 l1.length c1), (8, .pointer (some ⟨b51, 0, none⟩)), (11, .int .i64 x110_l2), (109, .int .i64 (l1.length : Int)), (110, .int .i64 x110_l2)]) (by kernel_rfl) ?_
      refine WD.pure (i := 0) (v := .pointer (some ⟨b51, 0, none⟩)) (by kernel_rfl) (by kernel_rfl) (fun _ => by kernel_rfl) ?_
      refine WD.weaken [0, 1, 8, 11, 109, 110, 113] (L' := [(0, .int .i64 a0), (1, .slice A1 l1.length c1), (8, .pointer (some ⟨b51, 0, none⟩)), (11, .int .i64 x110_l2), (109, .int .i64 (l1.length : Int)), (110, .int .i64 x110_l2), (113, .pointer (some ⟨b51, 0, none⟩))]) (by kernel_rfl) ?_
      refine WD.pure (i := 1) (v := .int .i64 x110_l2) (by kernel_rfl) (by kernel_rfl) (fun _ => by kernel_rfl) ?_
      refine WD.weaken [0, 1, 8, 11, 109, 110, 113, 114] (L' := [(0, .int .i64 a0), (1, .slice A1 l1.length c1), (8, .pointer (some ⟨b51, 0, none⟩)), (11, .int .i64 x110_l2), (109, .int .i64 (l1.length : Int)), (110, .int .i64 x110_l2), (113, .pointer (some ⟨b51, 0, none⟩)), (114, .int .i64 x110_l2)]) (by kernel_rfl) ?_
      refine WD.pure (i := 3) (v := .slice A1 l1.length c1) (by kernel_rfl) (by kernel_rfl) (fun _ => by kernel_rfl) ?_
      refine WD.weaken [0, 1, 8, 11, 109, 110, 113, 114, 116] (L' := [(0, .int .i64 a0), (1, .slice A1 l1.length c1), (8, .pointer (some ⟨b51, 0, none⟩)), (11, .int .i64 x110_l2), (109, .int .i64 (l1.length : Int)), (110, .int .i64 x110_l2), (113, .pointer (some ⟨b51, 0, none⟩)), (114, .int .i64 x110_l2), (116, .slice A1 l1.length c1)]) (by kernel_rfl) ?_
      refine WD.pure (i := 4) (v := .int .i64 x110_l2) (by kernel_rfl) (by kernel_rfl) (fun _ => by kernel_rfl) ?_
      refine WD.weaken [0, 1, 8, 109, 110, 113, 114, 116, 117] (L' := [(0, .int .i64 a0), (1, .slice A1 l1.length c1), (8, .pointer (some ⟨b51, 0, none⟩)), (109, .int .i64 (l1.length : Int)), (110, .int .i64 x110_l2), (113, .pointer (some ⟨b51, 0, none⟩)), (114, .int .i64 x110_l2), (116, .slice A1 l1.length c1), (117, .int .i64 x110_l2)]) (by kernel_rfl) ?_
      obtain ⟨v139, e140, H⟩ := bind_ex H
      refine WD.ofP (i := 5) (by kernel_rfl) (PSt.idx (k := .i64) (.tmp 116) (.tmp 117) (by kernel_rfl) (by kernel_rfl) E22 (by kernel_rfl) (by kernel_rfl) (rdS.up R1 hS.sub0) e140 ?_)
      refine WD.weaken [0, 1, 8, 109, 110, 113, 114, 118] (L' := [(0, .int .i64 a0), (1, .slice A1 l1.length c1), (8, .pointer (some ⟨b51, 0, none⟩)), (109, .int .i64 (l1.length : Int)), (110, .int .i64 x110_l2), (113, .pointer (some ⟨b51, 0, none⟩)), (114, .int .i64 x110_l2), (118, .pointer (some (adr A1 x110_l2.toNat 1)))]) (by kernel_rfl) ?_
      refine WD.ofR (i := 6) (by kernel_rfl) (RSt.loadInt (t := 3) (.tmp 118) (by kernel_rfl) (by kernel_rfl) (by kernel_rfl) (by kernel_rfl) (rdS.up R1 hS.sub0) e140 ?_)
      refine WD.weaken [0, 1, 8, 109, 110, 113, 114, 119] (L' := [(0, .int .i64 a0), (1, .slice A1 l1.length c1), (8, .pointer (some ⟨b51, 0, none⟩)), (109, .int .i64 (l1.length : Int)), (110, .int .i64 x110_l2), (113, .pointer (some ⟨b51, 0, none⟩)), (114, .int .i64 x110_l2), (119, .int .i64 v139)]) (by kernel_rfl) ?_
      obtain ⟨r141, e142, H⟩ := bind_ex H
      refine WD.act (i := 2) (by kernel_rfl) (St.call (by kernel_rfl) (f := 12) (args := #[.pointer (some ⟨b51, 0, none⟩), .int .i64 x110_l2]) (by kernel_rfl) (sparse_Set_At.calls w137 (.pointer (some ⟨b51, 0, none⟩)) (some y48) (Sat.rdAny 0 hS rfl (fun _ h => O49.rd _ _ _ h)) x110_l2 r141 e142) ?_)
      rintro _ w148 ⟨rfl, hS149⟩
      have hS : Sat w148 (rf w0) [O49 b51 y48] := hS.ext hS149
      refine ⟨(asked.cons (RSt.run (n := 153) (RSt.loadInt (t := 3) (.tmp 118) (by kernel_rfl) (by kernel_rfl) (by kernel_rfl) (by kernel_rfl) (rdS.up R1 hS.sub0) e140 rfl)) (asked.nil _ _)), ?_⟩
      refine WD.weaken [0, 1, 8, 109, 110, 115, 119] (L' := [(0, .int .i64 a0), (1, .slice A1 l1.length c1), (8, .pointer (some ⟨b51, 0, none⟩)), (109, .int .i64 (l1.length : Int)), (110, .int .i64 x110_l2), (115, .int .i64 r141), (119, .int .i64 v139)]) (by kernel_rfl) ?_
      refine WD.pure (i := 7) (v := .bool (r141 != v139)) (by kernel_rfl) (by kernel_rfl) (fun _ => by kernel_rfl) ?_
      refine WD.weaken [0, 1, 8, 109, 110, 120] (L' := [(0, .int .i64 a0), (1, .slice A1 l1.length c1), (8, .pointer (some ⟨b51, 0, none⟩)), (109, .int .i64 (l1.length : Int)), (110, .int .i64 x110_l2), (120, .bool (r141 != v139))]) (by kernel_rfl) ?_
      refine WD.nil (by kernel_rfl) ?_
      refine At.go ?_
      refine WC.cond (by kernel_rfl) (r141 != v139) (by kernel_rfl) (by kernel_rfl) (fun hb150 => ?_) (fun hb150 => ?_)
      · replace H := ite_t H hb150
        refine WC.seq (by kernel_rfl) ?_
        refine WC.reg [0] (by kernel_rfl) (by kernel_rfl) ?_
        refine WR.runk [0] [] [6] (L' := [(6, .bool false)]) (w' := w148) (by kernel_rfl) ?_
        refine WR.nil ?_
        refine At.go ?_
        refine WC.ret (by kernel_rfl) ?_
        refine At.blockRet ?_
        refine At.thenRet ?_
        refine At.thenRet ?_
        obtain rfl := Option.some.inj H
        have hS : Sat w148 (rf w0) [O49 b51 y48] := hS.sel [0] (by kernel_rfl)
        refine At.weaken [6] (L' := [(6, .bool false)]) (by kernel_rfl) ?_
        exact hn0 false _ rfl hS
      · replace H := ite_f H hb150
        refine WC.skip (by kernel_rfl) ?_
        refine At.blockNormal ?_
        refine At.go ?_
        refine WC.reg [0, 1] (by kernel_rfl) (by kernel_rfl) ?_
        refine WR.runk [0, 1] [] [0, 1, 8, 109, 110] (L' := [(0, .int .i64 a0), (1, .slice A1 l1.length c1), (8, .pointer (some ⟨b51, 0, none⟩)), (109, .int .i64 (l1.length : Int)), (110, .int .i64 (wi (x110_l2 + 1)))]) (w' := w148) (by kernel_rfl) ?_
        refine WR.nil ?_
        have hS : Sat w148 (rf w0) [O49 b51 y48] := hS.sel [0] (by kernel_rfl)
        refine At.again ?_
        refine WL.weaken [0, 1, 8, 109, 110] (L' := [(0, .int .i64 a0), (1, .slice A1 l1.length c1), (8, .pointer (some ⟨b51, 0, none⟩)), (109, .int .i64 (l1.length : Int)), (110, .int .i64 (wi (x110_l2 + 1)))]) (by kernel_rfl) ?_
        exact ih (wi (x110_l2 + 1)) _ hS H
    · replace H := ite_f H hb136
      refine WC.exit (by kernel_rfl) ?_
      refine At.thenExit ?_
      refine At.thenExit ?_
      obtain rfl := Option.some.inj H
      have hS : Sat w (rf w0) [O49 b51 y48] := hS.sel [0] (by kernel_rfl)
      refine At.weaken [0, 1, 8] (L' := [(0, .int .i64 a0), (1, .slice A1 l1.length c1), (8, .pointer (some ⟨b51, 0, none⟩))]) (by kernel_rfl) ?_
      exact hn1 () _ rfl hS
theorem colophonlaw03_SparseHas.l3_ok {Q} (w0 : World) (a0 : Int) (A1 : Option Addr) (c1 : Nat) (l1 : List Int) (y48 : Int × Int × Int × (Option (Int × (List Int) × (List Int) × Int)) × (Option (Int × Int × (List Int))) × (Option (Int × Int × (List Int)))) (b51 : Nat) (R1 : rdS (r0 (.int .i64)) 1 (hp w0) A1 c1 l1) (out : Sum Bool Unit) (hn0 : ∀ (o0 : Bool) (w : World), out = (.inl o0) → Sat w (rf w0) [O49 b51 y48] → At Q .ret 153 [(6, .bool o0)] w) (hn1 : ∀ (o1 : Unit) (w : World), out = (.inr o1) → Sat w (rf w0) [O49 b51 y48] → At Q (.exit 2) 153 [(0, .int .i64 a0), (1, .slice A1 l1.length c1), (8, .pointer (some ⟨b51, 0, none⟩))] w) :
    ∀ (k : Nat) (x110_l3 : Int) (w : World), Sat w (rf w0) [O49 b51 y48] → colophonlaw03_SparseHas.l3 l1 y48 k x110_l3 = some out → WL Try.prog (cbody (cbody (cr (cl (cr (cr (cr (cr (cr (cr (cr (cr C4)))))))))))) Q 153 [(0, .int .i64 a0), (1, .slice A1 l1.length c1), (8, .pointer (some ⟨b51, 0, none⟩)), (109, .int .i64 (l1.length : Int)), (110, .int .i64 x110_l3)] w := by
  intro k
  induction k with
  | zero => intro x110_l3 w hS H; exact absurd (show none = some out from H) (by simp)
  | succ k ih =>
    intro x110_l3 w hS H
    unfold colophonlaw03_SparseHas.l3 at H
    refine WL.round ?_
    refine WC.seq (by kernel_rfl) ?_
    refine WC.reg [0] (by kernel_rfl) (by kernel_rfl) ?_
    refine WR.runk [0] [] [0, 1, 8, 109, 110, 111] (L' := [(0, .int .i64 a0), (1, .slice A1 l1.length c1), (8, .pointer (some ⟨b51, 0, none⟩)), (109, .int .i64 (l1.length : Int)), (110, .int .i64 x110_l3), (111, .bool (decide (x110_l3 < (l1.length : Int))))]) (w' := w) (by kernel_rfl) ?_
    refine WR.nil ?_
    refine At.go ?_
    refine WC.seq (by kernel_rfl) ?_
    refine WC.cond (by kernel_rfl) (decide (x110_l3 < (l1.length : Int))) (by kernel_rfl) (by kernel_rfl) (fun hb227 => ?_) (fun hb227 => ?_)
    · replace H := ite_t H hb227
      refine WC.skip (by kernel_rfl) ?_
      refine At.go ?_
      refine WC.seq (by kernel_rfl) ?_
      refine WC.block (by kernel_rfl) ?_
      refine WC.seq (by kernel_rfl) ?_
      refine WC.reg [0, 1] (by kernel_rfl) (by kernel_rfl) ?_
      refine WR.runk [0, 1] [] [0, 1, 8, 11, 109, 110] (L' := [(0, .int .i64 a0), (1, .slice A1 l1.length c1), (8, .pointer (some ⟨b51, 0, none⟩)), (11, .int .i64 x110_l3), (109, .int .i64 (l1.length : Int)), (110, .int .i64 x110_l3)]) (w' := w) (by kernel_rfl) ?_
      refine WR.nil ?_
      refine At.go ?_
      refine WC.seq (by kernel_rfl) ?_
      refine WC.drawn (by kernel_rfl) (by kernel_rfl) 8 (by kernel_rfl) (fun w228 hw229 => ?_)
      have hS := hS.heap hw229.1 hw229.2
      refine WD.weaken [0, 1, 8, 11, 109, 110] (L' := [(0, .int .i64 a0), (1, .slice A1 l1.length c1), (8, .pointer (some ⟨b51, 0, none⟩)), (11, .int .i64 x110_l3), (109, .int .i64 (l1.length : Int)), (110, .int .i64 x110_l3)]) (by kernel_rfl) ?_
      refine WD.pure (i := 0) (v := .pointer (some ⟨b51, 0, none⟩)) (by kernel_rfl) (by kernel_rfl) (fun _ => by kernel_rfl) ?_
      refine WD.weaken [0, 1, 8, 11, 109, 110, 113] (L' := [(0, .int .i64 a0), (1, .slice A1 l1.length c1), (8, .pointer (some ⟨b51, 0, none⟩)), (11, .int .i64 x110_l3), (109, .int .i64 (l1.length : Int)), (110, .int .i64 x110_l3), (113, .pointer (some ⟨b51, 0, none⟩))]) (by kernel_rfl) ?_
      refine WD.pure (i := 1) (v := .int .i64 x110_l3) (by kernel_rfl) (by kernel_rfl) (fun _ => by kernel_rfl) ?_
      refine WD.weaken [0, 1, 8, 11, 109, 110, 113, 114] (L' := [(0, .int .i64 a0), (1, .slice A1 l1.length c1), (8, .pointer (some ⟨b51, 0, none⟩)), (11, .int .i64 x110_l3), (109, .int .i64 (l1.length : Int)), (110, .int .i64 x110_l3), (113, .pointer (some ⟨b51, 0, none⟩)), (114, .int .i64 x110_l3)]) (by kernel_rfl) ?_
      refine WD.pure (i := 3) (v := .slice A1 l1.length c1) (by kernel_rfl) (by kernel_rfl) (fun _ => by kernel_rfl) ?_
      refine WD.weaken [0, 1, 8, 11, 109, 110, 113, 114, 116] (L' := [(0, .int .i64 a0), (1, .slice A1 l1.length c1), (8, .pointer (some ⟨b51, 0, none⟩)), (11, .int .i64 x110_l3), (109, .int .i64 (l1.length : Int)), (110, .int .i64 x110_l3), (113, .pointer (some ⟨b51, 0, none⟩)), (114, .int .i64 x110_l3), (116, .slice A1 l1.length c1)]) (by kernel_rfl) ?_
      refine WD.pure (i := 4) (v := .int .i64 x110_l3) (by kernel_rfl) (by kernel_rfl) (fun _ => by kernel_rfl) ?_
      refine WD.weaken [0, 1, 8, 109, 110, 113, 114, 116, 117] (L' := [(0, .int .i64 a0), (1, .slice A1 l1.length c1), (8, .pointer (some ⟨b51, 0, none⟩)), (109, .int .i64 (l1.length : Int)), (110, .int .i64 x110_l3), (113, .pointer (some ⟨b51, 0, none⟩)), (114, .int .i64 x110_l3), (116, .slice A1 l1.length c1), (117, .int .i64 x110_l3)]) (by kernel_rfl) ?_
      obtain ⟨v230, e231, H⟩ := bind_ex H
      refine WD.ofP (i := 5) (by kernel_rfl) (PSt.idx (k := .i64) (.tmp 116) (.tmp 117) (by kernel_rfl) (by kernel_rfl) E22 (by kernel_rfl) (by kernel_rfl) (rdS.up R1 hS.sub0) e231 ?_)
      refine WD.weaken [0, 1, 8, 109, 110, 113, 114, 118] (L' := [(0, .int .i64 a0), (1, .slice A1 l1.length c1), (8, .pointer (some ⟨b51, 0, none⟩)), (109, .int .i64 (l1.length : Int)), (110, .int .i64 x110_l3), (113, .pointer (some ⟨b51, 0, none⟩)), (114, .int .i64 x110_l3), (118, .pointer (some (adr A1 x110_l3.toNat 1)))]) (by kernel_rfl) ?_
      refine WD.ofR (i := 6) (by kernel_rfl) (RSt.loadInt (t := 3) (.tmp 118) (by kernel_rfl) (by kernel_rfl) (by kernel_rfl) (by kernel_rfl) (rdS.up R1 hS.sub0) e231 ?_)
      refine WD.weaken [0, 1, 8, 109, 110, 113, 114, 119] (L' := [(0, .int .i64 a0), (1, .slice A1 l1.length c1), (8, .pointer (some ⟨b51, 0, none⟩)), (109, .int .i64 (l1.length : Int)), (110, .int .i64 x110_l3), (113, .pointer (some ⟨b51, 0, none⟩)), (114, .int .i64 x110_l3), (119, .int .i64 v230)]) (by kernel_rfl) ?_
      obtain ⟨r232, e233, H⟩ := bind_ex H
      refine WD.act (i := 2) (by kernel_rfl) (St.call (by kernel_rfl) (f := 12) (args := #[.pointer (some ⟨b51, 0, none⟩), .int .i64 x110_l3]) (by kernel_rfl) (sparse_Set_At.calls w228 (.pointer (some ⟨b51, 0, none⟩)) (some y48) (Sat.rdAny 0 hS rfl (fun _ h => O49.rd _ _ _ h)) x110_l3 r232 e233) ?_)
      rintro _ w239 ⟨rfl, hS240⟩
      have hS : Sat w239 (rf w0) [O49 b51 y48] := hS.ext hS240
      refine ⟨(asked.cons (RSt.run (n := 153) (RSt.loadInt (t := 3) (.tmp 118) (by kernel_rfl) (by kernel_rfl) (by kernel_rfl) (by kernel_rfl) (rdS.up R1 hS.sub0) e231 rfl)) (asked.nil _ _)), ?_⟩
      refine WD.weaken [0, 1, 8, 109, 110, 115, 119] (L' := [(0, .int .i64 a0), (1, .slice A1 l1.length c1), (8, .pointer (some ⟨b51, 0, none⟩)), (109, .int .i64 (l1.length : Int)), (110, .int .i64 x110_l3), (115, .int .i64 r232), (119, .int .i64 v230)]) (by kernel_rfl) ?_
      refine WD.pure (i := 7) (v := .bool (r232 != v230)) (by kernel_rfl) (by kernel_rfl) (fun _ => by kernel_rfl) ?_
      refine WD.weaken [0, 1, 8, 109, 110, 120] (L' := [(0, .int .i64 a0), (1, .slice A1 l1.length c1), (8, .pointer (some ⟨b51, 0, none⟩)), (109, .int .i64 (l1.length : Int)), (110, .int .i64 x110_l3), (120, .bool (r232 != v230))]) (by kernel_rfl) ?_
      refine WD.nil (by kernel_rfl) ?_
      refine At.go ?_
      refine WC.cond (by kernel_rfl) (r232 != v230) (by kernel_rfl) (by kernel_rfl) (fun hb241 => ?_) (fun hb241 => ?_)
      · replace H := ite_t H hb241
        refine WC.seq (by kernel_rfl) ?_
        refine WC.reg [0] (by kernel_rfl) (by kernel_rfl) ?_
        refine WR.runk [0] [] [6] (L' := [(6, .bool false)]) (w' := w239) (by kernel_rfl) ?_
        refine WR.nil ?_
        refine At.go ?_
        refine WC.ret (by kernel_rfl) ?_
        refine At.blockRet ?_
        refine At.thenRet ?_
        refine At.thenRet ?_
        obtain rfl := Option.some.inj H
        have hS : Sat w239 (rf w0) [O49 b51 y48] := hS.sel [0] (by kernel_rfl)
        refine At.weaken [6] (L' := [(6, .bool false)]) (by kernel_rfl) ?_
        exact hn0 false _ rfl hS
      · replace H := ite_f H hb241
        refine WC.skip (by kernel_rfl) ?_
        refine At.blockNormal ?_
        refine At.go ?_
        refine WC.reg [0, 1] (by kernel_rfl) (by kernel_rfl) ?_
        refine WR.runk [0, 1] [] [0, 1, 8, 109, 110] (L' := [(0, .int .i64 a0), (1, .slice A1 l1.length c1), (8, .pointer (some ⟨b51, 0, none⟩)), (109, .int .i64 (l1.length : Int)), (110, .int .i64 (wi (x110_l3 + 1)))]) (w' := w239) (by kernel_rfl) ?_
        refine WR.nil ?_
        have hS : Sat w239 (rf w0) [O49 b51 y48] := hS.sel [0] (by kernel_rfl)
        refine At.again ?_
        refine WL.weaken [0, 1, 8, 109, 110] (L' := [(0, .int .i64 a0), (1, .slice A1 l1.length c1), (8, .pointer (some ⟨b51, 0, none⟩)), (109, .int .i64 (l1.length : Int)), (110, .int .i64 (wi (x110_l3 + 1)))]) (by kernel_rfl) ?_
        exact ih (wi (x110_l3 + 1)) _ hS H
    · replace H := ite_f H hb227
      refine WC.exit (by kernel_rfl) ?_
      refine At.thenExit ?_
      refine At.thenExit ?_
      obtain rfl := Option.some.inj H
      have hS : Sat w (rf w0) [O49 b51 y48] := hS.sel [0] (by kernel_rfl)
      refine At.weaken [0, 1, 8] (L' := [(0, .int .i64 a0), (1, .slice A1 l1.length c1), (8, .pointer (some ⟨b51, 0, none⟩))]) (by kernel_rfl) ?_
      exact hn1 () _ rfl hS
theorem colophonlaw03_SparseHas.l4_ok {Q} (w0 : World) (a0 : Int) (A1 : Option Addr) (c1 : Nat) (l1 : List Int) (a2 : Int) (y321 : List Int) (r325 : (Option (Int × Int × Int × (Option (Int × (List Int) × (List Int) × Int)) × (Option (Int × Int × (List Int))) × (Option (Int × Int × (List Int))))) × Int) (y352 : Int × Int × Int × (Option (Int × (List Int) × (List Int) × Int)) × (Option (Int × Int × (List Int))) × (Option (Int × Int × (List Int)))) (b355 : Nat) (out : Unit) (hn0 : ∀ (w : World), Sat w (rf w0) [O49 b355 y352] → At Q (.exit 0) 153 [(0, .int .i64 a0), (1, .slice A1 l1.length c1), (2, .int .i64 a2), (8, .pointer (some ⟨b355, 0, none⟩)), (9, .int .i64 r325.2)] w) :
    ∀ (k : Nat) (x7_l4 : List Int) (x51_l4 : Int) (A7_l4 : Option Addr) (c7_l4 : Nat) (w : World), Sat w (rf w0) [osl 3 (r0 (.int .i64)) 1 A7_l4 c7_l4 x7_l4, O49 b355 y352] → colophonlaw03_SparseHas.l4 y321 k x7_l4 x51_l4 = some out → WL Try.prog (cbody (cbody (cr (cl (cr (cr (cr (cr (cr (cr C4)))))))))) Q 153 [(0, .int .i64 a0), (1, .slice A1 l1.length c1), (2, .int .i64 a2), (7, .slice A7_l4 x7_l4.length c7_l4), (8, .pointer (some ⟨b355, 0, none⟩)), (9, .int .i64 r325.2), (50, .int .i64 (y321.length : Int)), (51, .int .i64 x51_l4)] w := by
  intro k
  induction k with
  | zero => intro x7_l4 x51_l4 A7_l4 c7_l4 w hS H; exact absurd (show none = some out from H) (by simp)
  | succ k ih =>
    intro x7_l4 x51_l4 A7_l4 c7_l4 w hS H
    unfold colophonlaw03_SparseHas.l4 at H
    refine WL.round ?_
    refine WC.seq (by kernel_rfl) ?_
    refine WC.reg [0] (by kernel_rfl) (by kernel_rfl) ?_
    refine WR.runk [0] [] [0, 1, 2, 7, 8, 9, 50, 51, 52] (L' := [(0, .int .i64 a0), (1, .slice A1 l1.length c1), (2, .int .i64 a2), (7, .slice A7_l4 x7_l4.length c7_l4), (8, .pointer (some ⟨b355, 0, none⟩)), (9, .int .i64 r325.2), (50, .int .i64 (y321.length : Int)), (51, .int .i64 x51_l4), (52, .bool (decide (x51_l4 < (y321.length : Int))))]) (w' := w) (by kernel_rfl) ?_
    refine WR.nil ?_
    refine At.go ?_
    refine WC.seq (by kernel_rfl) ?_
    refine WC.cond (by kernel_rfl) (decide (x51_l4 < (y321.length : Int))) (by kernel_rfl) (by kernel_rfl) (fun hb357 => ?_) (fun hb357 => ?_)
    · replace H := ite_t H hb357
      refine WC.skip (by kernel_rfl) ?_
      refine At.go ?_
      refine WC.seq (by kernel_rfl) ?_
      refine WC.block (by kernel_rfl) ?_
      refine WC.seq (by kernel_rfl) ?_
      refine WC.reg [0, 1] (by kernel_rfl) (by kernel_rfl) ?_
      refine WR.runk [0, 1] [] [0, 1, 2, 7, 8, 9, 10, 50, 51] (L' := [(0, .int .i64 a0), (1, .slice A1 l1.length c1), (2, .int .i64 a2), (7, .slice A7_l4 x7_l4.length c7_l4), (8, .pointer (some ⟨b355, 0, none⟩)), (9, .int .i64 r325.2), (10, .int .i64 x51_l4), (50, .int .i64 (y321.length : Int)), (51, .int .i64 x51_l4)]) (w' := w) (by kernel_rfl) ?_
      refine WR.nil ?_
      refine At.go ?_
      refine WC.reg [0, 1, 2, 3] (by kernel_rfl) (by kernel_rfl) ?_
      refine WR.runk [0, 1] [2, 3] [0, 1, 2, 7, 8, 9, 50, 51, 54, 55] (L' := [(0, .int .i64 a0), (1, .slice A1 l1.length c1), (2, .int .i64 a2), (7, .slice A7_l4 x7_l4.length c7_l4), (8, .pointer (some ⟨b355, 0, none⟩)), (9, .int .i64 r325.2), (50, .int .i64 (y321.length : Int)), (51, .int .i64 x51_l4), (54, .slice A7_l4 x7_l4.length c7_l4), (55, .int .i64 x51_l4)]) (w' := w) (by kernel_rfl) ?_
      obtain ⟨v358, e359, H⟩ := bind_ex H
      refine WR.st (St.ofP (PSt.idx (k := .i64) (.tmp 54) (.tmp 55) (by kernel_rfl) (by kernel_rfl) E22 (by kernel_rfl) (by kernel_rfl) (Sat.rdAt 0 hS rfl) e359 ?_))
      refine WR.runk [] [3] [0, 1, 2, 7, 8, 9, 50, 51, 56] (L' := [(0, .int .i64 a0), (1, .slice A1 l1.length c1), (2, .int .i64 a2), (7, .slice A7_l4 x7_l4.length c7_l4), (8, .pointer (some ⟨b355, 0, none⟩)), (9, .int .i64 r325.2), (50, .int .i64 (y321.length : Int)), (51, .int .i64 x51_l4), (56, .pointer (some (adr A7_l4 x51_l4.toNat 1)))]) (w' := w) (by kernel_rfl) ?_
      obtain ⟨y360, e361, H⟩ := bind_ex H
      refine WR.st (St.storeElem' (t := 3) (.tmp 56) (.const (.int .i64 0)) (by kernel_rfl) (by kernel_rfl) (by kernel_rfl) hS (by kernel_rfl) (by kernel_rfl) rfl e361 rfl (fun w362 hS => ?_))
      have hl363 := set?_len e361
      refine WR.know 7 (.slice A7_l4 y360.length c7_l4) (.slice A7_l4 x7_l4.length c7_l4) (by kernel_rfl) (by rw [hl363]) ?_
      refine WR.runk [] [] [0, 1, 2, 7, 8, 9, 50, 51] (L' := [(0, .int .i64 a0), (1, .slice A1 l1.length c1), (2, .int .i64 a2), (7, .slice A7_l4 y360.length c7_l4), (8, .pointer (some ⟨b355, 0, none⟩)), (9, .int .i64 r325.2), (50, .int .i64 (y321.length : Int)), (51, .int .i64 x51_l4)]) (w' := w362) (by kernel_rfl) ?_
      refine WR.nil ?_
      refine At.blockNormal ?_
      refine At.go ?_
      refine WC.reg [0, 1] (by kernel_rfl) (by kernel_rfl) ?_
      refine WR.runk [0, 1] [] [0, 1, 2, 7, 8, 9, 50, 51] (L' := [(0, .int .i64 a0), (1, .slice A1 l1.length c1), (2, .int .i64 a2), (7, .slice A7_l4 y360.length c7_l4), (8, .pointer (some ⟨b355, 0, none⟩)), (9, .int .i64 r325.2), (50, .int .i64 (y321.length : Int)), (51, .int .i64 (wi (x51_l4 + 1)))]) (w' := w362) (by kernel_rfl) ?_
      refine WR.nil ?_
      have hS : Sat w362 (rf w0) [osl 3 (r0 (.int .i64)) 1 A7_l4 c7_l4 y360, O49 b355 y352] := hS.sel [0, 1] (by kernel_rfl)
      refine At.again ?_
      refine WL.weaken [0, 1, 2, 7, 8, 9, 50, 51] (L' := [(0, .int .i64 a0), (1, .slice A1 l1.length c1), (2, .int .i64 a2), (7, .slice A7_l4 y360.length c7_l4), (8, .pointer (some ⟨b355, 0, none⟩)), (9, .int .i64 r325.2), (50, .int .i64 (y321.length : Int)), (51, .int .i64 (wi (x51_l4 + 1)))]) (by kernel_rfl) ?_
      exact ih y360 (wi (x51_l4 + 1)) A7_l4 c7_l4 _ hS H
    · replace H := ite_f H hb357
      refine WC.exit (by kernel_rfl) ?_
      refine At.thenExit ?_
      refine At.thenExit ?_
      obtain rfl := Option.some.inj H
      have hS : Sat w (rf w0) [O49 b355 y352] := hS.sel [1] (by kernel_rfl)
      refine At.weaken [0, 1, 2, 8, 9] (L' := [(0, .int .i64 a0), (1, .slice A1 l1.length c1), (2, .int .i64 a2), (8, .pointer (some ⟨b355, 0, none⟩)), (9, .int .i64 r325.2)]) (by kernel_rfl) ?_
      exact hn0 _ hS
theorem colophonlaw03_SparseHas.l5_ok {Q} (w0 : World) (a0 : Int) (A1 : Option Addr) (c1 : Nat) (l1 : List Int) (y352 : Int × Int × Int × (Option (Int × (List Int) × (List Int) × Int)) × (Option (Int × Int × (List Int))) × (Option (Int × Int × (List Int)))) (b355 : Nat) (R1 : rdS (r0 (.int .i64)) 1 (hp w0) A1 c1 l1) (out : Sum Bool Unit) (hn0 : ∀ (o0 : Bool) (w : World), out = (.inl o0) → Sat w (rf w0) [O49 b355 y352] → At Q .ret 153 [(6, .bool o0)] w) (hn1 : ∀ (o1 : Unit) (w : World), out = (.inr o1) → Sat w (rf w0) [O49 b355 y352] → At Q (.exit 2) 153 [(0, .int .i64 a0), (1, .slice A1 l1.length c1), (8, .pointer (some ⟨b355, 0, none⟩))] w) :
    ∀ (k : Nat) (x110_l5 : Int) (w : World), Sat w (rf w0) [O49 b355 y352] → colophonlaw03_SparseHas.l5 l1 y352 k x110_l5 = some out → WL Try.prog (cbody (cbody (cr (cl (cr (cr (cr (cr (cr (cr (cr (cr C4)))))))))))) Q 153 [(0, .int .i64 a0), (1, .slice A1 l1.length c1), (8, .pointer (some ⟨b355, 0, none⟩)), (109, .int .i64 (l1.length : Int)), (110, .int .i64 x110_l5)] w := by
  intro k
  induction k with
  | zero => intro x110_l5 w hS H; exact absurd (show none = some out from H) (by simp)
  | succ k ih =>
    intro x110_l5 w hS H
    unfold colophonlaw03_SparseHas.l5 at H
    refine WL.round ?_
    refine WC.seq (by kernel_rfl) ?_
    refine WC.reg [0] (by kernel_rfl) (by kernel_rfl) ?_
    refine WR.runk [0] [] [0, 1, 8, 109, 110, 111] (L' := [(0, .int .i64 a0), (1, .slice A1 l1.length c1), (8, .pointer (some ⟨b355, 0, none⟩)), (109, .int .i64 (l1.length : Int)), (110, .int .i64 x110_l5), (111, .bool (decide (x110_l5 < (l1.length : Int))))]) (w' := w) (by kernel_rfl) ?_
    refine WR.nil ?_
    refine At.go ?_
    refine WC.seq (by kernel_rfl) ?_
    refine WC.cond (by kernel_rfl) (decide (x110_l5 < (l1.length : Int))) (by kernel_rfl) (by kernel_rfl) (fun hb440 => ?_) (fun hb440 => ?_)
    · replace H := ite_t H hb440
      refine WC.skip (by kernel_rfl) ?_
      refine At.go ?_
      refine WC.seq (by kernel_rfl) ?_
      refine WC.block (by kernel_rfl) ?_
      refine WC.seq (by kernel_rfl) ?_
      refine WC.reg [0, 1] (by kernel_rfl) (by kernel_rfl) ?_
      refine WR.runk [0, 1] [] [0, 1, 8, 11, 109, 110] (L' := [(0, .int .i64 a0), (1, .slice A1 l1.length c1), (8, .pointer (some ⟨b355, 0, none⟩)), (11, .int .i64 x110_l5), (109, .int .i64 (l1.length : Int)), (110, .int .i64 x110_l5)]) (w' := w) (by kernel_rfl) ?_
      refine WR.nil ?_
      refine At.go ?_
      refine WC.seq (by kernel_rfl) ?_
      refine WC.drawn (by kernel_rfl) (by kernel_rfl) 8 (by kernel_rfl) (fun w441 hw442 => ?_)
      have hS := hS.heap hw442.1 hw442.2
      refine WD.weaken [0, 1, 8, 11, 109, 110] (L' := [(0, .int .i64 a0), (1, .slice A1 l1.length c1), (8, .pointer (some ⟨b355, 0, none⟩)), (11, .int .i64 x110_l5), (109, .int .i64 (l1.length : Int)), (110, .int .i64 x110_l5)]) (by kernel_rfl) ?_
      refine WD.pure (i := 0) (v := .pointer (some ⟨b355, 0, none⟩)) (by kernel_rfl) (by kernel_rfl) (fun _ => by kernel_rfl) ?_
      refine WD.weaken [0, 1, 8, 11, 109, 110, 113] (L' := [(0, .int .i64 a0), (1, .slice A1 l1.length c1), (8, .pointer (some ⟨b355, 0, none⟩)), (11, .int .i64 x110_l5), (109, .int .i64 (l1.length : Int)), (110, .int .i64 x110_l5), (113, .pointer (some ⟨b355, 0, none⟩))]) (by kernel_rfl) ?_
      refine WD.pure (i := 1) (v := .int .i64 x110_l5) (by kernel_rfl) (by kernel_rfl) (fun _ => by kernel_rfl) ?_
      refine WD.weaken [0, 1, 8, 11, 109, 110, 113, 114] (L' := [(0, .int .i64 a0), (1, .slice A1 l1.length c1), (8, .pointer (some ⟨b355, 0, none⟩)), (11, .int .i64 x110_l5), (109, .int .i64 (l1.length : Int)), (110, .int .i64 x110_l5), (113, .pointer (some ⟨b355, 0, none⟩)), (114, .int .i64 x110_l5)]) (by kernel_rfl) ?_
      refine WD.pure (i := 3) (v := .slice A1 l1.length c1) (by kernel_rfl) (by kernel_rfl) (fun _ => by kernel_rfl) ?_
      refine WD.weaken [0, 1, 8, 11, 109, 110, 113, 114, 116] (L' := [(0, .int .i64 a0), (1, .slice A1 l1.length c1), (8, .pointer (some ⟨b355, 0, none⟩)), (11, .int .i64 x110_l5), (109, .int .i64 (l1.length : Int)), (110, .int .i64 x110_l5), (113, .pointer (some ⟨b355, 0, none⟩)), (114, .int .i64 x110_l5), (116, .slice A1 l1.length c1)]) (by kernel_rfl) ?_
      refine WD.pure (i := 4) (v := .int .i64 x110_l5) (by kernel_rfl) (by kernel_rfl) (fun _ => by kernel_rfl) ?_
      refine WD.weaken [0, 1, 8, 109, 110, 113, 114, 116, 117] (L' := [(0, .int .i64 a0), (1, .slice A1 l1.length c1), (8, .pointer (some ⟨b355, 0, none⟩)), (109, .int .i64 (l1.length : Int)), (110, .int .i64 x110_l5), (113, .pointer (some ⟨b355, 0, none⟩)), (114, .int .i64 x110_l5), (116, .slice A1 l1.length c1), (117, .int .i64 x110_l5)]) (by kernel_rfl) ?_
      obtain ⟨v443, e444, H⟩ := bind_ex H
      refine WD.ofP (i := 5) (by kernel_rfl) (PSt.idx (k := .i64) (.tmp 116) (.tmp 117) (by kernel_rfl) (by kernel_rfl) E22 (by kernel_rfl) (by kernel_rfl) (rdS.up R1 hS.sub0) e444 ?_)
      refine WD.weaken [0, 1, 8, 109, 110, 113, 114, 118] (L' := [(0, .int .i64 a0), (1, .slice A1 l1.length c1), (8, .pointer (some ⟨b355, 0, none⟩)), (109, .int .i64 (l1.length : Int)), (110, .int .i64 x110_l5), (113, .pointer (some ⟨b355, 0, none⟩)), (114, .int .i64 x110_l5), (118, .pointer (some (adr A1 x110_l5.toNat 1)))]) (by kernel_rfl) ?_
      refine WD.ofR (i := 6) (by kernel_rfl) (RSt.loadInt (t := 3) (.tmp 118) (by kernel_rfl) (by kernel_rfl) (by kernel_rfl) (by kernel_rfl) (rdS.up R1 hS.sub0) e444 ?_)
      refine WD.weaken [0, 1, 8, 109, 110, 113, 114, 119] (L' := [(0, .int .i64 a0), (1, .slice A1 l1.length c1), (8, .pointer (some ⟨b355, 0, none⟩)), (109, .int .i64 (l1.length : Int)), (110, .int .i64 x110_l5), (113, .pointer (some ⟨b355, 0, none⟩)), (114, .int .i64 x110_l5), (119, .int .i64 v443)]) (by kernel_rfl) ?_
      obtain ⟨r445, e446, H⟩ := bind_ex H
      refine WD.act (i := 2) (by kernel_rfl) (St.call (by kernel_rfl) (f := 12) (args := #[.pointer (some ⟨b355, 0, none⟩), .int .i64 x110_l5]) (by kernel_rfl) (sparse_Set_At.calls w441 (.pointer (some ⟨b355, 0, none⟩)) (some y352) (Sat.rdAny 0 hS rfl (fun _ h => O49.rd _ _ _ h)) x110_l5 r445 e446) ?_)
      rintro _ w452 ⟨rfl, hS453⟩
      have hS : Sat w452 (rf w0) [O49 b355 y352] := hS.ext hS453
      refine ⟨(asked.cons (RSt.run (n := 153) (RSt.loadInt (t := 3) (.tmp 118) (by kernel_rfl) (by kernel_rfl) (by kernel_rfl) (by kernel_rfl) (rdS.up R1 hS.sub0) e444 rfl)) (asked.nil _ _)), ?_⟩
      refine WD.weaken [0, 1, 8, 109, 110, 115, 119] (L' := [(0, .int .i64 a0), (1, .slice A1 l1.length c1), (8, .pointer (some ⟨b355, 0, none⟩)), (109, .int .i64 (l1.length : Int)), (110, .int .i64 x110_l5), (115, .int .i64 r445), (119, .int .i64 v443)]) (by kernel_rfl) ?_
      refine WD.pure (i := 7) (v := .bool (r445 != v443)) (by kernel_rfl) (by kernel_rfl) (fun _ => by kernel_rfl) ?_
      refine WD.weaken [0, 1, 8, 109, 110, 120] (L' := [(0, .int .i64 a0), (1, .slice A1 l1.length c1), (8, .pointer (some ⟨b355, 0, none⟩)), (109, .int .i64 (l1.length : Int)), (110, .int .i64 x110_l5), (120, .bool (r445 != v443))]) (by kernel_rfl) ?_
      refine WD.nil (by kernel_rfl) ?_
      refine At.go ?_
      refine WC.cond (by kernel_rfl) (r445 != v443) (by kernel_rfl) (by kernel_rfl) (fun hb454 => ?_) (fun hb454 => ?_)
      · replace H := ite_t H hb454
        refine WC.seq (by kernel_rfl) ?_
        refine WC.reg [0] (by kernel_rfl) (by kernel_rfl) ?_
        refine WR.runk [0] [] [6] (L' := [(6, .bool false)]) (w' := w452) (by kernel_rfl) ?_
        refine WR.nil ?_
        refine At.go ?_
        refine WC.ret (by kernel_rfl) ?_
        refine At.blockRet ?_
        refine At.thenRet ?_
        refine At.thenRet ?_
        obtain rfl := Option.some.inj H
        have hS : Sat w452 (rf w0) [O49 b355 y352] := hS.sel [0] (by kernel_rfl)
        refine At.weaken [6] (L' := [(6, .bool false)]) (by kernel_rfl) ?_
        exact hn0 false _ rfl hS
      · replace H := ite_f H hb454
        refine WC.skip (by kernel_rfl) ?_
        refine At.blockNormal ?_
        refine At.go ?_
        refine WC.reg [0, 1] (by kernel_rfl) (by kernel_rfl) ?_
        refine WR.runk [0, 1] [] [0, 1, 8, 109, 110] (L' := [(0, .int .i64 a0), (1, .slice A1 l1.length c1), (8, .pointer (some ⟨b355, 0, none⟩)), (109, .int .i64 (l1.length : Int)), (110, .int .i64 (wi (x110_l5 + 1)))]) (w' := w452) (by kernel_rfl) ?_
        refine WR.nil ?_
        have hS : Sat w452 (rf w0) [O49 b355 y352] := hS.sel [0] (by kernel_rfl)
        refine At.again ?_
        refine WL.weaken [0, 1, 8, 109, 110] (L' := [(0, .int .i64 a0), (1, .slice A1 l1.length c1), (8, .pointer (some ⟨b355, 0, none⟩)), (109, .int .i64 (l1.length : Int)), (110, .int .i64 (wi (x110_l5 + 1)))]) (by kernel_rfl) ?_
        exact ih (wi (x110_l5 + 1)) _ hS H
    · replace H := ite_f H hb440
      refine WC.exit (by kernel_rfl) ?_
      refine At.thenExit ?_
      refine At.thenExit ?_
      obtain rfl := Option.some.inj H
      have hS : Sat w (rf w0) [O49 b355 y352] := hS.sel [0] (by kernel_rfl)
      refine At.weaken [0, 1, 8] (L' := [(0, .int .i64 a0), (1, .slice A1 l1.length c1), (8, .pointer (some ⟨b355, 0, none⟩))]) (by kernel_rfl) ?_
      exact hn1 () _ rfl hS
theorem colophonlaw03_SparseHas.l6_ok {Q} (w0 : World) (a0 : Int) (A1 : Option Addr) (c1 : Nat) (l1 : List Int) (y352 : Int × Int × Int × (Option (Int × (List Int) × (List Int) × Int)) × (Option (Int × Int × (List Int))) × (Option (Int × Int × (List Int)))) (b355 : Nat) (R1 : rdS (r0 (.int .i64)) 1 (hp w0) A1 c1 l1) (out : Sum Bool Unit) (hn0 : ∀ (o0 : Bool) (w : World), out = (.inl o0) → Sat w (rf w0) [O49 b355 y352] → At Q .ret 153 [(6, .bool o0)] w) (hn1 : ∀ (o1 : Unit) (w : World), out = (.inr o1) → Sat w (rf w0) [O49 b355 y352] → At Q (.exit 2) 153 [(0, .int .i64 a0), (1, .slice A1 l1.length c1), (8, .pointer (some ⟨b355, 0, none⟩))] w) :
    ∀ (k : Nat) (x110_l6 : Int) (w : World), Sat w (rf w0) [O49 b355 y352] → colophonlaw03_SparseHas.l6 l1 y352 k x110_l6 = some out → WL Try.prog (cbody (cbody (cr (cl (cr (cr (cr (cr (cr (cr (cr (cr C4)))))))))))) Q 153 [(0, .int .i64 a0), (1, .slice A1 l1.length c1), (8, .pointer (some ⟨b355, 0, none⟩)), (109, .int .i64 (l1.length : Int)), (110, .int .i64 x110_l6)] w := by
  intro k
  induction k with
  | zero => intro x110_l6 w hS H; exact absurd (show none = some out from H) (by simp)
  | succ k ih =>
    intro x110_l6 w hS H
    unfold colophonlaw03_SparseHas.l6 at H
    refine WL.round ?_
    refine WC.seq (by kernel_rfl) ?_
    refine WC.reg [0] (by kernel_rfl) (by kernel_rfl) ?_
    refine WR.runk [0] [] [0, 1, 8, 109, 110, 111] (L' := [(0, .int .i64 a0), (1, .slice A1 l1.length c1), (8, .pointer (some ⟨b355, 0, none⟩)), (109, .int .i64 (l1.length : Int)), (110, .int .i64 x110_l6), (111, .bool (decide (x110_l6 < (l1.length : Int))))]) (w' := w) (by kernel_rfl) ?_
    refine WR.nil ?_
    refine At.go ?_
    refine WC.seq (by kernel_rfl) ?_
    refine WC.cond (by kernel_rfl) (decide (x110_l6 < (l1.length : Int))) (by kernel_rfl) (by kernel_rfl) (fun hb531 => ?_) (fun hb531 => ?_)
    · replace H := ite_t H hb531
      refine WC.skip (by kernel_rfl) ?_
      refine At.go ?_
      refine WC.seq (by kernel_rfl) ?_
      refine WC.block (by kernel_rfl) ?_
      refine WC.seq (by kernel_rfl) ?_
      refine WC.reg [0, 1] (by kernel_rfl) (by kernel_rfl) ?_
      refine WR.runk [0, 1] [] [0, 1, 8, 11, 109, 110] (L' := [(0, .int .i64 a0), (1, .slice A1 l1.length c1), (8, .pointer (some ⟨b355, 0, none⟩)), (11, .int .i64 x110_l6), (109, .int .i64 (l1.length : Int)), (110, .int .i64 x110_l6)]) (w' := w) (by kernel_rfl) ?_
      refine WR.nil ?_
      refine At.go ?_
      refine WC.seq (by kernel_rfl) ?_
      refine WC.drawn (by kernel_rfl) (by kernel_rfl) 8 (by kernel_rfl) (fun w532 hw533 => ?_)
      have hS := hS.heap hw533.1 hw533.2
      refine WD.weaken [0, 1, 8, 11, 109, 110] (L' := [(0, .int .i64 a0), (1, .slice A1 l1.length c1), (8, .pointer (some ⟨b355, 0, none⟩)), (11, .int .i64 x110_l6), (109, .int .i64 (l1.length : Int)), (110, .int .i64 x110_l6)]) (by kernel_rfl) ?_
      refine WD.pure (i := 0) (v := .pointer (some ⟨b355, 0, none⟩)) (by kernel_rfl) (by kernel_rfl) (fun _ => by kernel_rfl) ?_
      refine WD.weaken [0, 1, 8, 11, 109, 110, 113] (L' := [(0, .int .i64 a0), (1, .slice A1 l1.length c1), (8, .pointer (some ⟨b355, 0, none⟩)), (11, .int .i64 x110_l6), (109, .int .i64 (l1.length : Int)), (110, .int .i64 x110_l6), (113, .pointer (some ⟨b355, 0, none⟩))]) (by kernel_rfl) ?_
      refine WD.pure (i := 1) (v := .int .i64 x110_l6) (by kernel_rfl) (by kernel_rfl) (fun _ => by kernel_rfl) ?_
      refine WD.weaken [0, 1, 8, 11, 109, 110, 113, 114] (L' := [(0, .int .i64 a0), (1, .slice A1 l1.length c1), (8, .pointer (some ⟨b355, 0, none⟩)), (11, .int .i64 x110_l6), (109, .int .i64 (l1.length : Int)), (110, .int .i64 x110_l6), (113, .pointer (some ⟨b355, 0, none⟩)), (114, .int .i64 x110_l6)]) (by kernel_rfl) ?_
      refine WD.pure (i := 3) (v := .slice A1 l1.length c1) (by kernel_rfl) (by kernel_rfl) (fun _ => by kernel_rfl) ?_
      refine WD.weaken [0, 1, 8, 11, 109, 110, 113, 114, 116] (L' := [(0, .int .i64 a0), (1, .slice A1 l1.length c1), (8, .pointer (some ⟨b355, 0, none⟩)), (11, .int .i64 x110_l6), (109, .int .i64 (l1.length : Int)), (110, .int .i64 x110_l6), (113, .pointer (some ⟨b355, 0, none⟩)), (114, .int .i64 x110_l6), (116, .slice A1 l1.length c1)]) (by kernel_rfl) ?_
      refine WD.pure (i := 4) (v := .int .i64 x110_l6) (by kernel_rfl) (by kernel_rfl) (fun _ => by kernel_rfl) ?_
      refine WD.weaken [0, 1, 8, 109, 110, 113, 114, 116, 117] (L' := [(0, .int .i64 a0), (1, .slice A1 l1.length c1), (8, .pointer (some ⟨b355, 0, none⟩)), (109, .int .i64 (l1.length : Int)), (110, .int .i64 x110_l6), (113, .pointer (some ⟨b355, 0, none⟩)), (114, .int .i64 x110_l6), (116, .slice A1 l1.length c1), (117, .int .i64 x110_l6)]) (by kernel_rfl) ?_
      obtain ⟨v534, e535, H⟩ := bind_ex H
      refine WD.ofP (i := 5) (by kernel_rfl) (PSt.idx (k := .i64) (.tmp 116) (.tmp 117) (by kernel_rfl) (by kernel_rfl) E22 (by kernel_rfl) (by kernel_rfl) (rdS.up R1 hS.sub0) e535 ?_)
      refine WD.weaken [0, 1, 8, 109, 110, 113, 114, 118] (L' := [(0, .int .i64 a0), (1, .slice A1 l1.length c1), (8, .pointer (some ⟨b355, 0, none⟩)), (109, .int .i64 (l1.length : Int)), (110, .int .i64 x110_l6), (113, .pointer (some ⟨b355, 0, none⟩)), (114, .int .i64 x110_l6), (118, .pointer (some (adr A1 x110_l6.toNat 1)))]) (by kernel_rfl) ?_
      refine WD.ofR (i := 6) (by kernel_rfl) (RSt.loadInt (t := 3) (.tmp 118) (by kernel_rfl) (by kernel_rfl) (by kernel_rfl) (by kernel_rfl) (rdS.up R1 hS.sub0) e535 ?_)
      refine WD.weaken [0, 1, 8, 109, 110, 113, 114, 119] (L' := [(0, .int .i64 a0), (1, .slice A1 l1.length c1), (8, .pointer (some ⟨b355, 0, none⟩)), (109, .int .i64 (l1.length : Int)), (110, .int .i64 x110_l6), (113, .pointer (some ⟨b355, 0, none⟩)), (114, .int .i64 x110_l6), (119, .int .i64 v534)]) (by kernel_rfl) ?_
      obtain ⟨r536, e537, H⟩ := bind_ex H
      refine WD.act (i := 2) (by kernel_rfl) (St.call (by kernel_rfl) (f := 12) (args := #[.pointer (some ⟨b355, 0, none⟩), .int .i64 x110_l6]) (by kernel_rfl) (sparse_Set_At.calls w532 (.pointer (some ⟨b355, 0, none⟩)) (some y352) (Sat.rdAny 0 hS rfl (fun _ h => O49.rd _ _ _ h)) x110_l6 r536 e537) ?_)
      rintro _ w543 ⟨rfl, hS544⟩
      have hS : Sat w543 (rf w0) [O49 b355 y352] := hS.ext hS544
      refine ⟨(asked.cons (RSt.run (n := 153) (RSt.loadInt (t := 3) (.tmp 118) (by kernel_rfl) (by kernel_rfl) (by kernel_rfl) (by kernel_rfl) (rdS.up R1 hS.sub0) e535 rfl)) (asked.nil _ _)), ?_⟩
      refine WD.weaken [0, 1, 8, 109, 110, 115, 119] (L' := [(0, .int .i64 a0), (1, .slice A1 l1.length c1), (8, .pointer (some ⟨b355, 0, none⟩)), (109, .int .i64 (l1.length : Int)), (110, .int .i64 x110_l6), (115, .int .i64 r536), (119, .int .i64 v534)]) (by kernel_rfl) ?_
      refine WD.pure (i := 7) (v := .bool (r536 != v534)) (by kernel_rfl) (by kernel_rfl) (fun _ => by kernel_rfl) ?_
      refine WD.weaken [0, 1, 8, 109, 110, 120] (L' := [(0, .int .i64 a0), (1, .slice A1 l1.length c1), (8, .pointer (some ⟨b355, 0, none⟩)), (109, .int .i64 (l1.length : Int)), (110, .int .i64 x110_l6), (120, .bool (r536 != v534))]) (by kernel_rfl) ?_
      refine WD.nil (by kernel_rfl) ?_
      refine At.go ?_
      refine WC.cond (by kernel_rfl) (r536 != v534) (by kernel_rfl) (by kernel_rfl) (fun hb545 => ?_) (fun hb545 => ?_)
      · replace H := ite_t H hb545
        refine WC.seq (by kernel_rfl) ?_
        refine WC.reg [0] (by kernel_rfl) (by kernel_rfl) ?_
        refine WR.runk [0] [] [6] (L' := [(6, .bool false)]) (w' := w543) (by kernel_rfl) ?_
        refine WR.nil ?_
        refine At.go ?_
        refine WC.ret (by kernel_rfl) ?_
        refine At.blockRet ?_
        refine At.thenRet ?_
        refine At.thenRet ?_
        obtain rfl := Option.some.inj H
        have hS : Sat w543 (rf w0) [O49 b355 y352] := hS.sel [0] (by kernel_rfl)
        refine At.weaken [6] (L' := [(6, .bool false)]) (by kernel_rfl) ?_
        exact hn0 false _ rfl hS
      · replace H := ite_f H hb545
        refine WC.skip (by kernel_rfl) ?_
        refine At.blockNormal ?_
        refine At.go ?_
        refine WC.reg [0, 1] (by kernel_rfl) (by kernel_rfl) ?_
        refine WR.runk [0, 1] [] [0, 1, 8, 109, 110] (L' := [(0, .int .i64 a0), (1, .slice A1 l1.length c1), (8, .pointer (some ⟨b355, 0, none⟩)), (109, .int .i64 (l1.length : Int)), (110, .int .i64 (wi (x110_l6 + 1)))]) (w' := w543) (by kernel_rfl) ?_
        refine WR.nil ?_
        have hS : Sat w543 (rf w0) [O49 b355 y352] := hS.sel [0] (by kernel_rfl)
        refine At.again ?_
        refine WL.weaken [0, 1, 8, 109, 110] (L' := [(0, .int .i64 a0), (1, .slice A1 l1.length c1), (8, .pointer (some ⟨b355, 0, none⟩)), (109, .int .i64 (l1.length : Int)), (110, .int .i64 (wi (x110_l6 + 1)))]) (by kernel_rfl) ?_
        exact ih (wi (x110_l6 + 1)) _ hS H
    · replace H := ite_f H hb531
      refine WC.exit (by kernel_rfl) ?_
      refine At.thenExit ?_
      refine At.thenExit ?_
      obtain rfl := Option.some.inj H
      have hS : Sat w (rf w0) [O49 b355 y352] := hS.sel [0] (by kernel_rfl)
      refine At.weaken [0, 1, 8] (L' := [(0, .int .i64 a0), (1, .slice A1 l1.length c1), (8, .pointer (some ⟨b355, 0, none⟩))]) (by kernel_rfl) ?_
      exact hn1 () _ rfl hS
theorem colophonlaw03_SparseHas.calls (w0 : World) (a0 : Int) (A1 : Option Addr) (c1 : Nat) (l1 : List Int) (R1 : rdS (r0 (.int .i64)) 1 (hp w0) A1 c1 l1) (a2 : Int) (r : Bool) (H : colophonlaw03_SparseHas.f a0 l1 a2 = some r) :
    Calls Try.prog 4 #[.int .i64 a0, .slice A1 l1.length c1, .int .i64 a2] w0 (fun e w' => ∃ v, e = .returned v ∧ colophonlaw03_SparseHas.post w0 r v w') := by
  have hS : Sat w0 (rf w0) [] := Sat.start w0
  unfold colophonlaw03_SparseHas.f at H
  refine calls_of_WC (vs := [.int .i64 a0, .slice A1 l1.length c1, .int .i64 a2]) Try.func4 (c := C4) (n := 153) (by kernel_rfl) (by kernel_rfl) (by kernel_rfl) ?_
  refine WC.seq (by kernel_rfl) ?_
  refine WC.reg [0] (by kernel_rfl) (by kernel_rfl) ?_
  refine WR.runk [0] [] [0, 1, 2] (L' := [(0, .int .i64 a0), (1, .slice A1 l1.length c1), (2, .int .i64 a2)]) (w' := w0) (by kernel_rfl) ?_
  refine WR.nil ?_
  refine At.go ?_
  refine WC.seq (by kernel_rfl) ?_
  refine WC.seq (by kernel_rfl) ?_
  refine WC.reg [0, 1] (by kernel_rfl) (by kernel_rfl) ?_
  obtain ⟨r1, e2, H⟩ := bind_ex H
  refine WR.st (St.call (by kernel_rfl) (f := 8) (args := #[]) (by kernel_rfl) (colophonlaw03_first.calls w0  r1 e2) ?_)
  rintro _ w8 ⟨rfl, hS9⟩
  have hS : Sat w8 (rf w0) [] := hS.ext hS9
  refine WR.runk [1] [] [0, 1, 2, 17] (L' := [(0, .int .i64 a0), (1, .slice A1 l1.length c1), (2, .int .i64 a2), (17, .bool (!r1))]) (w' := w8) (by kernel_rfl) ?_
  refine WR.nil ?_
  refine At.go ?_
  refine WC.cond (by kernel_rfl) (!r1) (by kernel_rfl) (by kernel_rfl) (fun hb10 => ?_) (fun hb10 => ?_)
  · replace H := ite_t H hb10
    refine WC.seq (by kernel_rfl) ?_
    refine WC.reg [0] (by kernel_rfl) (by kernel_rfl) ?_
    refine WR.runk [0] [] [6] (L' := [(6, .bool false)]) (w' := w8) (by kernel_rfl) ?_
    refine WR.nil ?_
    refine At.go ?_
    refine WC.ret (by kernel_rfl) ?_
    refine At.thenRet ?_
    obtain rfl := Option.some.inj H
    have hS : Sat w8 (rf w0) [] := hS.sel [] (by kernel_rfl)
    exact At.body [.bool false] (by kernel_rfl) ⟨_, rfl, rfl, hS⟩
  · replace H := ite_f H hb10
    refine WC.skip (by kernel_rfl) ?_
    refine At.go ?_
    refine WC.seq (by kernel_rfl) ?_
    refine WC.seq (by kernel_rfl) ?_
    refine WC.reg [0, 1, 2, 3, 4, 5, 6, 7, 8, 9, 10, 11] (by kernel_rfl) (by kernel_rfl) ?_
    refine WR.runk [0, 1, 2, 3] [4, 5, 6, 7, 8, 9, 10, 11] [0, 1, 2, 21] (L' := [(0, .int .i64 a0), (1, .slice A1 l1.length c1), (2, .int .i64 a2), (21, .bool (decide ((l1.length : Int) > 1000)))]) (w' := w8) (by kernel_rfl) ?_
    refine WR.split 21 (b := decide ((l1.length : Int) > 1000)) (by kernel_rfl) (fun hb11 => ?_) (fun hb11 => ?_)
    · replace H := ite_t H hb11
      refine WR.runk [4, 5, 6, 7, 8, 9, 10, 11] [] [0, 1, 2, 29] (L' := [(0, .int .i64 a0), (1, .slice A1 l1.length c1), (2, .int .i64 a2), (29, .bool true)]) (w' := w8) (by kernel_rfl) ?_
      refine WR.nil ?_
      refine At.go ?_
      refine WC.condT (by kernel_rfl) (by kernel_rfl) (by kernel_rfl) ?_
      refine WC.seq (by kernel_rfl) ?_
      refine WC.reg [0] (by kernel_rfl) (by kernel_rfl) ?_
      refine WR.runk [0] [] [6] (L' := [(6, .bool true)]) (w' := w8) (by kernel_rfl) ?_
      refine WR.nil ?_
      refine At.go ?_
      refine WC.ret (by kernel_rfl) ?_
      refine At.thenRet ?_
      obtain rfl := Option.some.inj H
      have hS : Sat w8 (rf w0) [] := hS.sel [] (by kernel_rfl)
      exact At.body [.bool true] (by kernel_rfl) ⟨_, rfl, rfl, hS⟩
    · replace H := ite_f H hb11
      refine WR.runk [4, 5, 6] [7, 8, 9, 10, 11] [0, 1, 2, 21, 24] (L' := [(0, .int .i64 a0), (1, .slice A1 l1.length c1), (2, .int .i64 a2), (21, .bool false), (24, .bool (decide (a0 > 50000)))]) (w' := w8) (by kernel_rfl) ?_
      refine WR.split 24 (b := decide (a0 > 50000)) (by kernel_rfl) (fun hb12 => ?_) (fun hb12 => ?_)
      · replace H := ite_t H hb12
        refine WR.runk [7, 8, 9, 10, 11] [] [0, 1, 2, 29] (L' := [(0, .int .i64 a0), (1, .slice A1 l1.length c1), (2, .int .i64 a2), (29, .bool (decide ((l1.length : Int) > 0)))]) (w' := w8) (by kernel_rfl) ?_
        refine WR.nil ?_
        refine At.go ?_
        refine WC.cond (by kernel_rfl) (decide ((l1.length : Int) > 0)) (by kernel_rfl) (by kernel_rfl) (fun hb13 => ?_) (fun hb13 => ?_)
        · replace H := ite_t H hb13
          refine WC.seq (by kernel_rfl) ?_
          refine WC.reg [0] (by kernel_rfl) (by kernel_rfl) ?_
          refine WR.runk [0] [] [6] (L' := [(6, .bool true)]) (w' := w8) (by kernel_rfl) ?_
          refine WR.nil ?_
          refine At.go ?_
          refine WC.ret (by kernel_rfl) ?_
          refine At.thenRet ?_
          obtain rfl := Option.some.inj H
          have hS : Sat w8 (rf w0) [] := hS.sel [] (by kernel_rfl)
          exact At.body [.bool true] (by kernel_rfl) ⟨_, rfl, rfl, hS⟩
        · replace H := ite_f H hb13
          refine WC.skip (by kernel_rfl) ?_
          refine At.go ?_
          refine WC.seq (by kernel_rfl) ?_
          refine WC.reg [0, 1, 2, 3] (by kernel_rfl) (by kernel_rfl) ?_
          refine WR.runk [] [0, 1, 2, 3] [0, 1, 2] (L' := [(0, .int .i64 a0), (1, .slice A1 l1.length c1), (2, .int .i64 a2)]) (w' := w8) (by kernel_rfl) ?_
          refine WR.st (St.box hS (by kernel_rfl) (.cells #[] 3) (fun b14 => .slice (some ⟨b14, 0, none⟩) 0 0) (fun _ => by kernel_rfl) (fun b14 w15 hS => ?_))
          refine WR.runk [1] [2, 3] [0, 1, 2, 30, 31] (L' := [(0, .int .i64 a0), (1, .slice A1 l1.length c1), (2, .int .i64 a2), (30, .slice (some ⟨b14, 0, none⟩) 0 0), (31, .slice A1 l1.length c1)]) (w' := w15) (by kernel_rfl) ?_
          have hS : Sat w15 (rf w0) [osl 3 (r0 (.int .i64)) 1 (some ⟨b14, 0, none⟩) (([] : List Int) : List Int).length (([] : List Int) : List Int)] := Sat.toOsl' (r0 (.int .i64)) 1 (([] : List Int) : List Int) hS rfl (rdL.nil _ _)
          obtain ⟨y17, e16, H⟩ := bind_ex H
          refine WR.st (St.append' (.tmp 30) (.tmp 31) (by kernel_rfl) (by kernel_rfl) E22 (r0_one _) hS (by kernel_rfl) (by kernel_rfl) (rdS.up R1 hS.sub0) 17592186044416 (by kernel_rfl) (by kernel_rfl) e16 (fun A18 c19 w20 hS => ?_))
          refine WR.runk [3] [] [0, 1, 2, 7] (L' := [(0, .int .i64 a0), (1, .slice A1 l1.length c1), (2, .int .i64 a2), (7, .slice A18 y17.length c19)]) (w' := w20) (by kernel_rfl) ?_
          refine WR.nil ?_
          refine At.go ?_
          refine WC.seq (by kernel_rfl) ?_
          refine WC.reg [0, 1, 2, 3, 4, 5, 6, 7] (by kernel_rfl) (by kernel_rfl) ?_
          refine WR.runk [0, 1] [2, 3, 4, 5, 6, 7] [0, 1, 2, 7, 34, 35] (L' := [(0, .int .i64 a0), (1, .slice A1 l1.length c1), (2, .int .i64 a2), (7, .slice A18 y17.length c19), (34, .int .i64 a0), (35, .slice A18 y17.length c19)]) (w' := w20) (by kernel_rfl) ?_
          obtain ⟨r21, e22, H⟩ := bind_ex H
          refine WR.st (St.call (by kernel_rfl) (f := 10) (args := #[.int .i64 a0, .slice A18 y17.length c19]) (by kernel_rfl) (sparse_New.calls w20 a0 A18 c19 y17 (Sat.rdAt 0 hS rfl) r21 e22) ?_)
          rintro _ w28 ⟨pv30, rfl, hS29⟩
          have hS : Sat w28 (rf w0) [optP O49 pv30 r21.1, osl 3 (r0 (.int .i64)) 1 A18 c19 y17] := hS.ext hS29
          refine WR.runk [3, 4, 5, 6, 7] [] [0, 1, 2, 7, 8, 9] (L' := [(0, .int .i64 a0), (1, .slice A1 l1.length c1), (2, .int .i64 a2), (7, .slice A18 y17.length c19), (8, pv30), (9, .int .i64 r21.2)]) (w' := w28) (by kernel_rfl) ?_
          refine WR.nil ?_
          refine At.go ?_
          refine WC.seq (by kernel_rfl) ?_
          refine WC.seq (by kernel_rfl) ?_
          refine WC.reg [0, 1, 2, 3] (by kernel_rfl) (by kernel_rfl) ?_
          refine WR.runk [0, 1] [2, 3] [0, 1, 2, 7, 8, 9, 39, 40] (L' := [(0, .int .i64 a0), (1, .slice A1 l1.length c1), (2, .int .i64 a2), (7, .slice A18 y17.length c19), (8, pv30), (9, .int .i64 r21.2), (39, .int .i64 a0), (40, .slice A1 l1.length c1)]) (w' := w28) (by kernel_rfl) ?_
          obtain ⟨r31, e32, H⟩ := bind_ex H
          refine WR.st (St.call (by kernel_rfl) (f := 9) (args := #[.int .i64 a0, .slice A1 l1.length c1]) (by kernel_rfl) (colophonref03_Right.calls w28 a0 A1 c1 l1 (rdS.up R1 hS.sub0) r31 e32) ?_)
          rintro _ w38 ⟨rfl, hS39⟩
          have hS : Sat w38 (rf w0) [optP O49 pv30 r21.1, osl 3 (r0 (.int .i64)) 1 A18 c19 y17] := hS.ext hS39
          refine WR.runk [3] [] [0, 1, 2, 7, 8, 9, 42] (L' := [(0, .int .i64 a0), (1, .slice A1 l1.length c1), (2, .int .i64 a2), (7, .slice A18 y17.length c19), (8, pv30), (9, .int .i64 r21.2), (42, .bool (!r31))]) (w' := w38) (by kernel_rfl) ?_
          refine WR.nil ?_
          refine At.go ?_
          refine WC.cond (by kernel_rfl) (!r31) (by kernel_rfl) (by kernel_rfl) (fun hb40 => ?_) (fun hb40 => ?_)
          · replace H := ite_t H hb40
            refine WC.seq (by kernel_rfl) ?_
            refine WC.reg [0, 1, 2, 3, 4, 5, 6] (by kernel_rfl) (by kernel_rfl) ?_
            refine WR.runk [0, 1, 2] [3, 4, 5, 6] [8, 45] (L' := [(8, pv30), (45, .bool (r21.2 == 2))]) (w' := w38) (by kernel_rfl) ?_
            refine WR.split 45 (b := (r21.2 == 2)) (by kernel_rfl) (fun hb41 => ?_) (fun hb41 => ?_)
            · replace H := ite_t H hb41
              refine WR.runk [3] [4, 5, 6] [45, 46] (L' := [(45, .bool true), (46, pv30)]) (w' := w38) (by kernel_rfl) ?_
              rcases hr43 : r21.1 with _ | y42
              · rw [hr43] at H
                dsimp only at H
                have hv44 := optP.none hS hr43
                subst hv44
                have hS : Sat w38 (rf w0) [osl 3 (r0 (.int .i64)) 1 A18 c19 y17] := hS.sel [1] (by kernel_rfl)
                refine WR.runk [4, 5, 6] [] [6] (L' := [(6, .bool true)]) (w' := w38) (by kernel_rfl) ?_
                refine WR.nil ?_
                refine At.go ?_
                refine WC.ret (by kernel_rfl) ?_
                refine At.thenRet ?_
                obtain rfl := Option.some.inj H
                have hS : Sat w38 (rf w0) [] := hS.sel [] (by kernel_rfl)
                exact At.body [.bool true] (by kernel_rfl) ⟨_, rfl, rfl, hS⟩
              · rw [hr43] at H
                dsimp only at H
                obtain ⟨b45, hv44, hN47⟩ := optP.some hS hr43
                subst hv44
                have hS : Sat w38 (rf w0) [O49 b45 y42, osl 3 (r0 (.int .i64)) 1 A18 c19 y17] := hN47
                refine WR.runk [4, 5, 6] [] [6] (L' := [(6, .bool false)]) (w' := w38) (by kernel_rfl) ?_
                refine WR.nil ?_
                refine At.go ?_
                refine WC.ret (by kernel_rfl) ?_
                refine At.thenRet ?_
                obtain rfl := Option.some.inj H
                have hS : Sat w38 (rf w0) [] := hS.sel [] (by kernel_rfl)
                exact At.body [.bool false] (by kernel_rfl) ⟨_, rfl, rfl, hS⟩
            · replace H := ite_f H hb41
              refine WR.runk [3, 4, 5, 6] [] [6] (L' := [(6, .bool false)]) (w' := w38) (by kernel_rfl) ?_
              refine WR.nil ?_
              refine At.go ?_
              refine WC.ret (by kernel_rfl) ?_
              refine At.thenRet ?_
              obtain rfl := Option.some.inj H
              have hS : Sat w38 (rf w0) [] := hS.sel [] (by kernel_rfl)
              exact At.body [.bool false] (by kernel_rfl) ⟨_, rfl, rfl, hS⟩
          · replace H := ite_f H hb40
            refine WC.skip (by kernel_rfl) ?_
            refine At.go ?_
            refine WC.seq (by kernel_rfl) ?_
            refine WC.seq (by kernel_rfl) ?_
            refine WC.reg [0, 1, 2] (by kernel_rfl) (by kernel_rfl) ?_
            refine WR.runk [0, 1, 2] [] [0, 1, 2, 7, 8, 9, 50, 51] (L' := [(0, .int .i64 a0), (1, .slice A1 l1.length c1), (2, .int .i64 a2), (7, .slice A18 y17.length c19), (8, pv30), (9, .int .i64 r21.2), (50, .int .i64 (y17.length : Int)), (51, .int .i64 0)]) (w' := w38) (by kernel_rfl) ?_
            refine WR.nil ?_
            refine At.go ?_
            refine WC.block (by kernel_rfl) ?_
            obtain ⟨y48, hr49, H⟩ := bind_ex H
            obtain ⟨b51, hv50, hN317⟩ := optP.some hS hr49
            subst hv50
            have hS : Sat w38 (rf w0) [O49 b51 y48, osl 3 (r0 (.int .i64)) 1 A18 c19 y17] := hN317
            have hS : Sat w38 (rf w0) [osl 3 (r0 (.int .i64)) 1 A18 c19 y17, O49 b51 y48] := hS.sel [1, 0] (by kernel_rfl)
            obtain ⟨o60, e61, H⟩ := bind_ex H
            refine WC.loop (by kernel_rfl) ?_
            refine WL.weaken [0, 1, 2, 7, 8, 9, 50, 51] (L' := [(0, .int .i64 a0), (1, .slice A1 l1.length c1), (2, .int .i64 a2), (7, .slice A18 y17.length c19), (8, .pointer (some ⟨b51, 0, none⟩)), (9, .int .i64 r21.2), (50, .int .i64 (y17.length : Int)), (51, .int .i64 0)]) (by kernel_rfl) ?_
            refine colophonlaw03_SparseHas.l1_ok w0 a0 A1 c1 l1 a2 y17 r21 y48 b51 o60 (fun w63 hS => ?_) FU y17 0 A18 c19 _ hS e61
            refine At.hit ?_
            refine At.go ?_
            refine WC.seq (by kernel_rfl) ?_
            refine WC.seq (by kernel_rfl) ?_
            refine WC.reg [0, 1, 2, 3, 4, 5, 6, 7, 8, 9, 10, 11, 12, 13, 14, 15, 16, 17, 18, 19, 20, 21, 22, 23, 24, 25, 26, 27, 28, 29, 30, 31, 32, 33, 34, 35, 36, 37, 38, 39, 40, 41, 42, 43, 44, 45, 46, 47, 48, 49] (by kernel_rfl) (by kernel_rfl) ?_
            refine WR.runk [0, 1, 2] [3, 4, 5, 6, 7, 8, 9, 10, 11, 12, 13, 14, 15, 16, 17, 18, 19, 20, 21, 22, 23, 24, 25, 26, 27, 28, 29, 30, 31, 32, 33, 34, 35, 36, 37, 38, 39, 40, 41, 42, 43, 44, 45, 46, 47, 48, 49] [0, 1, 2, 8, 60] (L' := [(0, .int .i64 a0), (1, .slice A1 l1.length c1), (2, .int .i64 a2), (8, .pointer (some ⟨b51, 0, none⟩)), (60, .bool (r21.2 != 0))]) (w' := w63) (by kernel_rfl) ?_
            refine WR.split 60 (b := (r21.2 != 0)) (by kernel_rfl) (fun hb65 => ?_) (fun hb65 => ?_)
            · replace H := ite_t H hb65
              refine WR.runk [3, 4, 5, 6, 7, 8, 9, 10, 11, 12, 13, 14, 15, 16, 17, 18, 19, 20, 21, 22, 23, 24, 25, 26, 27, 28, 29, 30, 31, 32, 33, 34, 35, 36, 37, 38, 39, 40, 41, 42, 43, 44, 45, 46, 47, 48, 49] [] [0, 1, 8, 107] (L' := [(0, .int .i64 a0), (1, .slice A1 l1.length c1), (8, .pointer (some ⟨b51, 0, none⟩)), (107, .bool true)]) (w' := w63) (by kernel_rfl) ?_
              refine WR.nil ?_
              refine At.go ?_
              refine WC.condT (by kernel_rfl) (by kernel_rfl) (by kernel_rfl) ?_
              refine WC.seq (by kernel_rfl) ?_
              refine WC.reg [0] (by kernel_rfl) (by kernel_rfl) ?_
              refine WR.runk [0] [] [6] (L' := [(6, .bool false)]) (w' := w63) (by kernel_rfl) ?_
              refine WR.nil ?_
              refine At.go ?_
              refine WC.ret (by kernel_rfl) ?_
              refine At.thenRet ?_
              obtain rfl := Option.some.inj H
              have hS : Sat w63 (rf w0) [] := hS.sel [] (by kernel_rfl)
              exact At.body [.bool false] (by kernel_rfl) ⟨_, rfl, rfl, hS⟩
            · replace H := ite_f H hb65
              refine WR.runk [3] [4, 5, 6, 7, 8, 9, 10, 11, 12, 13, 14, 15, 16, 17, 18, 19, 20, 21, 22, 23, 24, 25, 26, 27, 28, 29, 30, 31, 32, 33, 34, 35, 36, 37, 38, 39, 40, 41, 42, 43, 44, 45, 46, 47, 48, 49] [0, 1, 2, 8, 60, 61] (L' := [(0, .int .i64 a0), (1, .slice A1 l1.length c1), (2, .int .i64 a2), (8, .pointer (some ⟨b51, 0, none⟩)), (60, .bool false), (61, .pointer (some ⟨b51, 0, none⟩))]) (w' := w63) (by kernel_rfl) ?_
              obtain ⟨r66, e67, H⟩ := bind_ex H
              refine WR.st (St.call (by kernel_rfl) (f := 15) (args := #[.pointer (some ⟨b51, 0, none⟩)]) (by kernel_rfl) (sparse_Set_Len.calls w63 (.pointer (some ⟨b51, 0, none⟩)) (some y48) (Sat.rdAny 0 hS rfl (fun _ h => O49.rd _ _ _ h)) r66 e67) ?_)
              rintro _ w73 ⟨rfl, hS74⟩
              have hS : Sat w73 (rf w0) [O49 b51 y48] := hS.ext hS74
              refine WR.runk [5, 6, 7, 8, 9] [10, 11, 12, 13, 14, 15, 16, 17, 18, 19, 20, 21, 22, 23, 24, 25, 26, 27, 28, 29, 30, 31, 32, 33, 34, 35, 36, 37, 38, 39, 40, 41, 42, 43, 44, 45, 46, 47, 48, 49] [0, 1, 2, 8, 67] (L' := [(0, .int .i64 a0), (1, .slice A1 l1.length c1), (2, .int .i64 a2), (8, .pointer (some ⟨b51, 0, none⟩)), (67, .bool (r66 != (l1.length : Int)))]) (w' := w73) (by kernel_rfl) ?_
              refine WR.split 67 (b := (r66 != (l1.length : Int))) (by kernel_rfl) (fun hb75 => ?_) (fun hb75 => ?_)
              · replace H := ite_t H hb75
                refine WR.runk [10, 11, 12, 13, 14, 15, 16, 17, 18, 19, 20, 21, 22, 23, 24, 25, 26, 27, 28, 29, 30, 31, 32, 33, 34, 35, 36, 37, 38, 39, 40, 41, 42, 43, 44, 45, 46, 47, 48, 49] [] [0, 1, 8, 107] (L' := [(0, .int .i64 a0), (1, .slice A1 l1.length c1), (8, .pointer (some ⟨b51, 0, none⟩)), (107, .bool true)]) (w' := w73) (by kernel_rfl) ?_
                refine WR.nil ?_
                refine At.go ?_
                refine WC.condT (by kernel_rfl) (by kernel_rfl) (by kernel_rfl) ?_
                refine WC.seq (by kernel_rfl) ?_
                refine WC.reg [0] (by kernel_rfl) (by kernel_rfl) ?_
                refine WR.runk [0] [] [6] (L' := [(6, .bool false)]) (w' := w73) (by kernel_rfl) ?_
                refine WR.nil ?_
                refine At.go ?_
                refine WC.ret (by kernel_rfl) ?_
                refine At.thenRet ?_
                obtain rfl := Option.some.inj H
                have hS : Sat w73 (rf w0) [] := hS.sel [] (by kernel_rfl)
                exact At.body [.bool false] (by kernel_rfl) ⟨_, rfl, rfl, hS⟩
              · replace H := ite_f H hb75
                refine WR.runk [10] [11, 12, 13, 14, 15, 16, 17, 18, 19, 20, 21, 22, 23, 24, 25, 26, 27, 28, 29, 30, 31, 32, 33, 34, 35, 36, 37, 38, 39, 40, 41, 42, 43, 44, 45, 46, 47, 48, 49] [0, 1, 2, 8, 67, 68] (L' := [(0, .int .i64 a0), (1, .slice A1 l1.length c1), (2, .int .i64 a2), (8, .pointer (some ⟨b51, 0, none⟩)), (67, .bool false), (68, .pointer (some ⟨b51, 0, none⟩))]) (w' := w73) (by kernel_rfl) ?_
                obtain ⟨r76, e77, H⟩ := bind_ex H
                refine WR.st (St.call (by kernel_rfl) (f := 11) (args := #[.pointer (some ⟨b51, 0, none⟩)]) (by kernel_rfl) (sparse_Set_Bound.calls w73 (.pointer (some ⟨b51, 0, none⟩)) (some y48) (Sat.rdAny 0 hS rfl (fun _ h => O49.rd _ _ _ h)) r76 e77) ?_)
                rintro _ w83 ⟨rfl, hS84⟩
                have hS : Sat w83 (rf w0) [O49 b51 y48] := hS.ext hS84
                refine WR.runk [12, 13, 14, 15] [16, 17, 18, 19, 20, 21, 22, 23, 24, 25, 26, 27, 28, 29, 30, 31, 32, 33, 34, 35, 36, 37, 38, 39, 40, 41, 42, 43, 44, 45, 46, 47, 48, 49] [0, 1, 2, 8, 73] (L' := [(0, .int .i64 a0), (1, .slice A1 l1.length c1), (2, .int .i64 a2), (8, .pointer (some ⟨b51, 0, none⟩)), (73, .bool (r76 != a0))]) (w' := w83) (by kernel_rfl) ?_
                refine WR.split 73 (b := (r76 != a0)) (by kernel_rfl) (fun hb85 => ?_) (fun hb85 => ?_)
                · replace H := ite_t H hb85
                  refine WR.runk [16, 17, 18, 19, 20, 21, 22, 23, 24, 25, 26, 27, 28, 29, 30, 31, 32, 33, 34, 35, 36, 37, 38, 39, 40, 41, 42, 43, 44, 45, 46, 47, 48, 49] [] [0, 1, 8, 107] (L' := [(0, .int .i64 a0), (1, .slice A1 l1.length c1), (8, .pointer (some ⟨b51, 0, none⟩)), (107, .bool true)]) (w' := w83) (by kernel_rfl) ?_
                  refine WR.nil ?_
                  refine At.go ?_
                  refine WC.condT (by kernel_rfl) (by kernel_rfl) (by kernel_rfl) ?_
                  refine WC.seq (by kernel_rfl) ?_
                  refine WC.reg [0] (by kernel_rfl) (by kernel_rfl) ?_
                  refine WR.runk [0] [] [6] (L' := [(6, .bool false)]) (w' := w83) (by kernel_rfl) ?_
                  refine WR.nil ?_
                  refine At.go ?_
                  refine WC.ret (by kernel_rfl) ?_
                  refine At.thenRet ?_
                  obtain rfl := Option.some.inj H
                  have hS : Sat w83 (rf w0) [] := hS.sel [] (by kernel_rfl)
                  exact At.body [.bool false] (by kernel_rfl) ⟨_, rfl, rfl, hS⟩
                · replace H := ite_f H hb85
                  refine WR.runk [16, 17] [18, 19, 20, 21, 22, 23, 24, 25, 26, 27, 28, 29, 30, 31, 32, 33, 34, 35, 36, 37, 38, 39, 40, 41, 42, 43, 44, 45, 46, 47, 48, 49] [0, 1, 2, 8, 73, 74, 75] (L' := [(0, .int .i64 a0), (1, .slice A1 l1.length c1), (2, .int .i64 a2), (8, .pointer (some ⟨b51, 0, none⟩)), (73, .bool false), (74, .pointer (some ⟨b51, 0, none⟩)), (75, .int .i64 a2)]) (w' := w83) (by kernel_rfl) ?_
                  obtain ⟨r86, e87, H⟩ := bind_ex H
                  refine WR.st (St.call (by kernel_rfl) (f := 13) (args := #[.pointer (some ⟨b51, 0, none⟩), .int .i64 a2]) (by kernel_rfl) (sparse_Set_Rank.calls w83 (.pointer (some ⟨b51, 0, none⟩)) (some y48) (Sat.rdAny 0 hS rfl (fun _ h => O49.rd _ _ _ h)) a2 r86 e87) ?_)
                  rintro _ w93 ⟨rfl, hS94⟩
                  have hS : Sat w93 (rf w0) [O49 b51 y48] := hS.ext hS94
                  refine WR.runk [19, 20] [21, 22, 23, 24, 25, 26, 27, 28, 29, 30, 31, 32, 33, 34, 35, 36, 37, 38, 39, 40, 41, 42, 43, 44, 45, 46, 47, 48, 49] [0, 1, 2, 8, 73, 76, 77, 78] (L' := [(0, .int .i64 a0), (1, .slice A1 l1.length c1), (2, .int .i64 a2), (8, .pointer (some ⟨b51, 0, none⟩)), (73, .bool false), (76, .int .i64 r86), (77, .slice A1 l1.length c1), (78, .int .i64 a2)]) (w' := w93) (by kernel_rfl) ?_
                  obtain ⟨r95, e96, H⟩ := bind_ex H
                  refine WR.st (St.call (by kernel_rfl) (f := 16) (args := #[.slice A1 l1.length c1, .int .i64 a2]) (by kernel_rfl) (colophonref03_Below.calls w93 A1 c1 l1 (rdS.up R1 hS.sub0) a2 r95 e96) ?_)
                  rintro _ w102 ⟨rfl, hS103⟩
                  have hS : Sat w102 (rf w0) [O49 b51 y48] := hS.ext hS103
                  refine WR.runk [22, 23, 24] [25, 26, 27, 28, 29, 30, 31, 32, 33, 34, 35, 36, 37, 38, 39, 40, 41, 42, 43, 44, 45, 46, 47, 48, 49] [0, 1, 2, 8, 82] (L' := [(0, .int .i64 a0), (1, .slice A1 l1.length c1), (2, .int .i64 a2), (8, .pointer (some ⟨b51, 0, none⟩)), (82, .bool (r86 != r95))]) (w' := w102) (by kernel_rfl) ?_
                  refine WR.split 82 (b := (r86 != r95)) (by kernel_rfl) (fun hb104 => ?_) (fun hb104 => ?_)
                  · replace H := ite_t H hb104
                    refine WR.runk [25, 26, 27, 28, 29, 30, 31, 32, 33, 34, 35, 36, 37, 38, 39, 40, 41, 42, 43, 44, 45, 46, 47, 48, 49] [] [0, 1, 8, 107] (L' := [(0, .int .i64 a0), (1, .slice A1 l1.length c1), (8, .pointer (some ⟨b51, 0, none⟩)), (107, .bool true)]) (w' := w102) (by kernel_rfl) ?_
                    refine WR.nil ?_
                    refine At.go ?_
                    refine WC.condT (by kernel_rfl) (by kernel_rfl) (by kernel_rfl) ?_
                    refine WC.seq (by kernel_rfl) ?_
                    refine WC.reg [0] (by kernel_rfl) (by kernel_rfl) ?_
                    refine WR.runk [0] [] [6] (L' := [(6, .bool false)]) (w' := w102) (by kernel_rfl) ?_
                    refine WR.nil ?_
                    refine At.go ?_
                    refine WC.ret (by kernel_rfl) ?_
                    refine At.thenRet ?_
                    obtain rfl := Option.some.inj H
                    have hS : Sat w102 (rf w0) [] := hS.sel [] (by kernel_rfl)
                    exact At.body [.bool false] (by kernel_rfl) ⟨_, rfl, rfl, hS⟩
                  · replace H := ite_f H hb104
                    refine WR.runk [25, 26] [27, 28, 29, 30, 31, 32, 33, 34, 35, 36, 37, 38, 39, 40, 41, 42, 43, 44, 45, 46, 47, 48, 49] [0, 1, 2, 8, 82, 83, 84] (L' := [(0, .int .i64 a0), (1, .slice A1 l1.length c1), (2, .int .i64 a2), (8, .pointer (some ⟨b51, 0, none⟩)), (82, .bool false), (83, .pointer (some ⟨b51, 0, none⟩)), (84, .int .i64 a2)]) (w' := w102) (by kernel_rfl) ?_
                    obtain ⟨r105, e106, H⟩ := bind_ex H
                    refine WR.st (St.call (by kernel_rfl) (f := 14) (args := #[.pointer (some ⟨b51, 0, none⟩), .int .i64 a2]) (by kernel_rfl) (sparse_Set_Has.calls w102 (.pointer (some ⟨b51, 0, none⟩)) (some y48) (Sat.rdAny 0 hS rfl (fun _ h => O49.rd _ _ _ h)) a2 r105 e106) ?_)
                    rintro _ w112 ⟨rfl, hS113⟩
                    have hS : Sat w112 (rf w0) [O49 b51 y48] := hS.ext hS113
                    refine WR.runk [28, 29] [30, 31, 32, 33, 34, 35, 36, 37, 38, 39, 40, 41, 42, 43, 44, 45, 46, 47, 48, 49] [0, 1, 2, 8, 82, 85, 86, 87] (L' := [(0, .int .i64 a0), (1, .slice A1 l1.length c1), (2, .int .i64 a2), (8, .pointer (some ⟨b51, 0, none⟩)), (82, .bool false), (85, .bool r105), (86, .slice A1 l1.length c1), (87, .int .i64 a2)]) (w' := w112) (by kernel_rfl) ?_
                    obtain ⟨r114, e115, H⟩ := bind_ex H
                    refine WR.st (St.call (by kernel_rfl) (f := 16) (args := #[.slice A1 l1.length c1, .int .i64 a2]) (by kernel_rfl) (colophonref03_Below.calls w112 A1 c1 l1 (rdS.up R1 hS.sub0) a2 r114 e115) ?_)
                    rintro _ w121 ⟨rfl, hS122⟩
                    have hS : Sat w121 (rf w0) [O49 b51 y48] := hS.ext hS122
                    refine WR.runk [31, 32, 33, 34] [35, 36, 37, 38, 39, 40, 41, 42, 43, 44, 45, 46, 47, 48, 49] [0, 1, 2, 8, 82, 85, 92] (L' := [(0, .int .i64 a0), (1, .slice A1 l1.length c1), (2, .int .i64 a2), (8, .pointer (some ⟨b51, 0, none⟩)), (82, .bool false), (85, .bool r105), (92, .bool (decide (r114 < (l1.length : Int))))]) (w' := w121) (by kernel_rfl) ?_
                    refine WR.split 92 (b := decide (r114 < (l1.length : Int))) (by kernel_rfl) (fun hb123 => ?_) (fun hb123 => ?_)
                    · replace H := ite_t H hb123
                      refine WR.runk [35, 36, 37] [38, 39, 40, 41, 42, 43, 44, 45, 46, 47, 48, 49] [0, 1, 2, 8, 82, 85, 92, 93, 94, 95] (L' := [(0, .int .i64 a0), (1, .slice A1 l1.length c1), (2, .int .i64 a2), (8, .pointer (some ⟨b51, 0, none⟩)), (82, .bool false), (85, .bool r105), (92, .bool true), (93, .slice A1 l1.length c1), (94, .slice A1 l1.length c1), (95, .int .i64 a2)]) (w' := w121) (by kernel_rfl) ?_
                      obtain ⟨r124, e125, H⟩ := bind_ex H
                      refine WR.st (St.call (by kernel_rfl) (f := 16) (args := #[.slice A1 l1.length c1, .int .i64 a2]) (by kernel_rfl) (colophonref03_Below.calls w121 A1 c1 l1 (rdS.up R1 hS.sub0) a2 r124 e125) ?_)
                      rintro _ w131 ⟨rfl, hS132⟩
                      have hS : Sat w131 (rf w0) [O49 b51 y48] := hS.ext hS132
                      refine WR.runk [39, 40, 41, 42] [43, 44, 45, 46, 47, 48, 49] [0, 1, 2, 8, 82, 85, 92, 93, 100] (L' := [(0, .int .i64 a0), (1, .slice A1 l1.length c1), (2, .int .i64 a2), (8, .pointer (some ⟨b51, 0, none⟩)), (82, .bool false), (85, .bool r105), (92, .bool true), (93, .slice A1 l1.length c1), (100, .int .i64 (imin r124 (wi ((l1.length : Int) - 1))))]) (w' := w131) (by kernel_rfl) ?_
                      obtain ⟨v133, e134, H⟩ := bind_ex H
                      refine WR.st (St.ofP (PSt.idx (k := .i64) (.tmp 93) (.tmp 100) (by kernel_rfl) (by kernel_rfl) E22 (by kernel_rfl) (by kernel_rfl) (rdS.up R1 hS.sub0) e134 ?_))
                      refine WR.runk [] [44, 45, 46, 47, 48, 49] [0, 1, 2, 8, 82, 85, 92, 101] (L' := [(0, .int .i64 a0), (1, .slice A1 l1.length c1), (2, .int .i64 a2), (8, .pointer (some ⟨b51, 0, none⟩)), (82, .bool false), (85, .bool r105), (92, .bool true), (101, .pointer (some (adr A1 (imin r124 (wi ((l1.length : Int) - 1))).toNat 1)))]) (w' := w131) (by kernel_rfl) ?_
                      refine WR.st (St.ofR (RSt.loadInt (t := 3) (.tmp 101) (by kernel_rfl) (by kernel_rfl) (by kernel_rfl) (by kernel_rfl) (rdS.up R1 hS.sub0) e134 ?_))
                      refine WR.runk [45, 46, 47, 48, 49] [] [0, 1, 8, 107] (L' := [(0, .int .i64 a0), (1, .slice A1 l1.length c1), (8, .pointer (some ⟨b51, 0, none⟩)), (107, .bool (r105 != (v133 == a2)))]) (w' := w131) (by kernel_rfl) ?_
                      refine WR.nil ?_
                      refine At.go ?_
                      refine WC.cond (by kernel_rfl) (r105 != (v133 == a2)) (by kernel_rfl) (by kernel_rfl) (fun hb135 => ?_) (fun hb135 => ?_)
                      · replace H := ite_t H hb135
                        refine WC.seq (by kernel_rfl) ?_
                        refine WC.reg [0] (by kernel_rfl) (by kernel_rfl) ?_
                        refine WR.runk [0] [] [6] (L' := [(6, .bool false)]) (w' := w131) (by kernel_rfl) ?_
                        refine WR.nil ?_
                        refine At.go ?_
                        refine WC.ret (by kernel_rfl) ?_
                        refine At.thenRet ?_
                        obtain rfl := Option.some.inj H
                        have hS : Sat w131 (rf w0) [] := hS.sel [] (by kernel_rfl)
                        exact At.body [.bool false] (by kernel_rfl) ⟨_, rfl, rfl, hS⟩
                      · replace H := ite_f H hb135
                        refine WC.skip (by kernel_rfl) ?_
                        refine At.go ?_
                        refine WC.seq (by kernel_rfl) ?_
                        refine WC.seq (by kernel_rfl) ?_
                        refine WC.reg [0, 1, 2] (by kernel_rfl) (by kernel_rfl) ?_
                        refine WR.runk [0, 1, 2] [] [0, 1, 8, 109, 110] (L' := [(0, .int .i64 a0), (1, .slice A1 l1.length c1), (8, .pointer (some ⟨b51, 0, none⟩)), (109, .int .i64 (l1.length : Int)), (110, .int .i64 0)]) (w' := w131) (by kernel_rfl) ?_
                        refine WR.nil ?_
                        refine At.go ?_
                        refine WC.block (by kernel_rfl) ?_
                        have hS : Sat w131 (rf w0) [O49 b51 y48] := hS.sel [0] (by kernel_rfl)
                        obtain ⟨o151, e152, H⟩ := bind_ex H
                        refine WC.loop (by kernel_rfl) ?_
                        refine WL.weaken [0, 1, 8, 109, 110] (L' := [(0, .int .i64 a0), (1, .slice A1 l1.length c1), (8, .pointer (some ⟨b51, 0, none⟩)), (109, .int .i64 (l1.length : Int)), (110, .int .i64 0)]) (by kernel_rfl) ?_
                        refine colophonlaw03_SparseHas.l2_ok w0 a0 A1 c1 l1 y48 b51 R1 o151 (fun o153 w155 ho156 hS => ?_) (fun o157 w159 ho160 hS => ?_) FU 0 _ hS e152
                        · subst ho156
                          dsimp only at H
                          refine At.blockRet ?_
                          refine At.thenRet ?_
                          obtain rfl := Option.some.inj H
                          have hS : Sat w155 (rf w0) [] := hS.sel [] (by kernel_rfl)
                          exact At.body [.bool o153] (by kernel_rfl) ⟨_, rfl, rfl, hS⟩
                        · subst ho160
                          dsimp only at H
                          refine At.hit ?_
                          refine At.go ?_
                          refine WC.seq (by kernel_rfl) ?_
                          refine WC.reg [0, 1, 2, 3, 4, 5, 6] (by kernel_rfl) (by kernel_rfl) ?_
                          refine WR.runk [0] [1, 2, 3, 4, 5, 6] [0, 1, 8, 123] (L' := [(0, .int .i64 a0), (1, .slice A1 l1.length c1), (8, .pointer (some ⟨b51, 0, none⟩)), (123, .pointer (some ⟨b51, 0, none⟩))]) (w' := w159) (by kernel_rfl) ?_
                          obtain ⟨r161, e162, H⟩ := bind_ex H
                          refine WR.st (St.call (by kernel_rfl) (f := 17) (args := #[.pointer (some ⟨b51, 0, none⟩)]) (by kernel_rfl) (sparse_Set_Words.calls w159 (.pointer (some ⟨b51, 0, none⟩)) (some y48) (Sat.rdAny 0 hS rfl (fun _ h => O49.rd _ _ _ h)) r161 e162) ?_)
                          rintro _ w168 ⟨A170, c171, A172, c173, rfl, hS169⟩
                          have hS : Sat w168 (rf w0) [osl 43 (r0 (.int .u64)) 1 A170 c171 r161.1, osl 43 (r0 (.int .u64)) 1 A172 c173 r161.2, O49 b51 y48] := hS.ext hS169
                          refine WR.runk [2, 3, 4, 5, 6] [] [0, 1, 8, 12, 13] (L' := [(0, .int .i64 a0), (1, .slice A1 l1.length c1), (8, .pointer (some ⟨b51, 0, none⟩)), (12, .slice A170 r161.1.length c171), (13, .slice A172 r161.2.length c173)]) (w' := w168) (by kernel_rfl) ?_
                          refine WR.nil ?_
                          refine At.go ?_
                          refine WC.seq (by kernel_rfl) ?_
                          refine WC.reg [0, 1, 2, 3, 4, 5, 6, 7] (by kernel_rfl) (by kernel_rfl) ?_
                          refine WR.runk [0, 1] [2, 3, 4, 5, 6, 7] [1, 8, 12, 13, 128, 129] (L' := [(1, .slice A1 l1.length c1), (8, .pointer (some ⟨b51, 0, none⟩)), (12, .slice A170 r161.1.length c171), (13, .slice A172 r161.2.length c173), (128, .int .i64 a0), (129, .slice A1 l1.length c1)]) (w' := w168) (by kernel_rfl) ?_
                          obtain ⟨r174, e175, H⟩ := bind_ex H
                          refine WR.st (St.call (by kernel_rfl) (f := 18) (args := #[.int .i64 a0, .slice A1 l1.length c1]) (by kernel_rfl) (colophonref03_Words.calls w168 a0 A1 c1 l1 (rdS.up R1 hS.sub0) r174 e175) ?_)
                          rintro _ w181 ⟨A183, c184, A185, c186, rfl, hS182⟩
                          have hS : Sat w181 (rf w0) [osl 43 (r0 (.int .u64)) 1 A183 c184 r174.1, osl 43 (r0 (.int .u64)) 1 A185 c186 r174.2, osl 43 (r0 (.int .u64)) 1 A170 c171 r161.1, osl 43 (r0 (.int .u64)) 1 A172 c173 r161.2, O49 b51 y48] := hS.ext hS182
                          refine WR.runk [3, 4, 5, 6, 7] [] [1, 8, 12, 13, 14, 15] (L' := [(1, .slice A1 l1.length c1), (8, .pointer (some ⟨b51, 0, none⟩)), (12, .slice A170 r161.1.length c171), (13, .slice A172 r161.2.length c173), (14, .slice A183 r174.1.length c184), (15, .slice A185 r174.2.length c186)]) (w' := w181) (by kernel_rfl) ?_
                          refine WR.nil ?_
                          refine At.go ?_
                          refine WC.seq (by kernel_rfl) ?_
                          refine WC.reg [0, 1, 2, 3, 4, 5, 6, 7, 8, 9, 10, 11, 12, 13, 14, 15, 16, 17, 18, 19, 20] (by kernel_rfl) (by kernel_rfl) ?_
                          refine WR.runk [0, 1] [2, 3, 4, 5, 6, 7, 8, 9, 10, 11, 12, 13, 14, 15, 16, 17, 18, 19, 20] [1, 8, 13, 15, 133, 134] (L' := [(1, .slice A1 l1.length c1), (8, .pointer (some ⟨b51, 0, none⟩)), (13, .slice A172 r161.2.length c173), (15, .slice A185 r174.2.length c186), (133, .slice A170 r161.1.length c171), (134, .slice A183 r174.1.length c184)]) (w' := w181) (by kernel_rfl) ?_
                          obtain ⟨r187, e188, H⟩ := bind_ex H
                          refine WR.st (St.call (by kernel_rfl) (f := 19) (args := #[.slice A170 r161.1.length c171, .slice A183 r174.1.length c184]) (by kernel_rfl) (colophonref01_Same.calls w181 A170 c171 r161.1 (Sat.rdAt 2 hS rfl) A183 c184 r174.1 (Sat.rdAt 0 hS rfl) r187 e188) ?_)
                          rintro _ w194 ⟨rfl, hS195⟩
                          have hS : Sat w194 (rf w0) [osl 43 (r0 (.int .u64)) 1 A183 c184 r174.1, osl 43 (r0 (.int .u64)) 1 A185 c186 r174.2, osl 43 (r0 (.int .u64)) 1 A170 c171 r161.1, osl 43 (r0 (.int .u64)) 1 A172 c173 r161.2, O49 b51 y48] := hS.ext hS195
                          refine WR.runk [3] [4, 5, 6, 7, 8, 9, 10, 11, 12, 13, 14, 15, 16, 17, 18, 19, 20] [1, 8, 13, 15, 136] (L' := [(1, .slice A1 l1.length c1), (8, .pointer (some ⟨b51, 0, none⟩)), (13, .slice A172 r161.2.length c173), (15, .slice A185 r174.2.length c186), (136, .bool r187)]) (w' := w194) (by kernel_rfl) ?_
                          refine WR.split 136 (b := r187) (by kernel_rfl) (fun hb196 => ?_) (fun hb196 => ?_)
                          · replace H := ite_t H hb196
                            refine WR.runk [4, 5] [6, 7, 8, 9, 10, 11, 12, 13, 14, 15, 16, 17, 18, 19, 20] [1, 8, 136, 137, 138] (L' := [(1, .slice A1 l1.length c1), (8, .pointer (some ⟨b51, 0, none⟩)), (136, .bool true), (137, .slice A172 r161.2.length c173), (138, .slice A185 r174.2.length c186)]) (w' := w194) (by kernel_rfl) ?_
                            obtain ⟨r197, e198, H⟩ := bind_ex H
                            refine WR.st (St.call (by kernel_rfl) (f := 19) (args := #[.slice A172 r161.2.length c173, .slice A185 r174.2.length c186]) (by kernel_rfl) (colophonref01_Same.calls w194 A172 c173 r161.2 (Sat.rdAt 3 hS rfl) A185 c186 r174.2 (Sat.rdAt 1 hS rfl) r197 e198) ?_)
                            rintro _ w204 ⟨rfl, hS205⟩
                            have hS : Sat w204 (rf w0) [osl 43 (r0 (.int .u64)) 1 A183 c184 r174.1, osl 43 (r0 (.int .u64)) 1 A185 c186 r174.2, osl 43 (r0 (.int .u64)) 1 A170 c171 r161.1, osl 43 (r0 (.int .u64)) 1 A172 c173 r161.2, O49 b51 y48] := hS.ext hS205
                            refine WR.runk [7, 8] [9, 10, 11, 12, 13, 14, 15, 16, 17, 18, 19, 20] [1, 8, 141] (L' := [(1, .slice A1 l1.length c1), (8, .pointer (some ⟨b51, 0, none⟩)), (141, .bool r197)]) (w' := w204) (by kernel_rfl) ?_
                            refine WR.split 141 (b := r197) (by kernel_rfl) (fun hb206 => ?_) (fun hb206 => ?_)
                            · replace H := ite_t H hb206
                              refine WR.runk [9, 10, 11] [12, 13, 14, 15, 16, 17, 18, 19, 20] [8, 141, 142, 144] (L' := [(8, .pointer (some ⟨b51, 0, none⟩)), (141, .bool true), (142, .pointer (some ⟨b51, 0, none⟩)), (144, .int .i64 (l1.length : Int))]) (w' := w204) (by kernel_rfl) ?_
                              obtain ⟨r207, e208, H⟩ := bind_ex H
                              refine WR.st (St.call (by kernel_rfl) (f := 12) (args := #[.pointer (some ⟨b51, 0, none⟩), .int .i64 (l1.length : Int)]) (by kernel_rfl) (sparse_Set_At.calls w204 (.pointer (some ⟨b51, 0, none⟩)) (some y48) (Sat.rdAny 4 hS rfl (fun _ h => O49.rd _ _ _ h)) (l1.length : Int) r207 e208) ?_)
                              rintro _ w214 ⟨rfl, hS215⟩
                              have hS : Sat w214 (rf w0) [osl 43 (r0 (.int .u64)) 1 A183 c184 r174.1, osl 43 (r0 (.int .u64)) 1 A185 c186 r174.2, osl 43 (r0 (.int .u64)) 1 A170 c171 r161.1, osl 43 (r0 (.int .u64)) 1 A172 c173 r161.2, O49 b51 y48] := hS.ext hS215
                              refine WR.runk [13, 14, 15] [16, 17, 18, 19, 20] [8, 148] (L' := [(8, .pointer (some ⟨b51, 0, none⟩)), (148, .bool (r207 == (-1)))]) (w' := w214) (by kernel_rfl) ?_
                              refine WR.split 148 (b := (r207 == (-1))) (by kernel_rfl) (fun hb216 => ?_) (fun hb216 => ?_)
                              · replace H := ite_t H hb216
                                refine WR.runk [16] [17, 18, 19, 20] [148, 149] (L' := [(148, .bool true), (149, .pointer (some ⟨b51, 0, none⟩))]) (w' := w214) (by kernel_rfl) ?_
                                obtain ⟨r217, e218, H⟩ := bind_ex H
                                refine WR.st (St.call (by kernel_rfl) (f := 12) (args := #[.pointer (some ⟨b51, 0, none⟩), .int .i64 (-1)]) (by kernel_rfl) (sparse_Set_At.calls w214 (.pointer (some ⟨b51, 0, none⟩)) (some y48) (Sat.rdAny 4 hS rfl (fun _ h => O49.rd _ _ _ h)) (-1) r217 e218) ?_)
                                rintro _ w224 ⟨rfl, hS225⟩
                                have hS : Sat w224 (rf w0) [osl 43 (r0 (.int .u64)) 1 A183 c184 r174.1, osl 43 (r0 (.int .u64)) 1 A185 c186 r174.2, osl 43 (r0 (.int .u64)) 1 A170 c171 r161.1, osl 43 (r0 (.int .u64)) 1 A172 c173 r161.2, O49 b51 y48] := hS.ext hS225
                                refine WR.runk [18, 19, 20] [] [6] (L' := [(6, .bool (r217 == (-1)))]) (w' := w224) (by kernel_rfl) ?_
                                refine WR.nil ?_
                                refine At.go ?_
                                refine WC.ret (by kernel_rfl) ?_
                                obtain rfl := Option.some.inj H
                                have hS : Sat w224 (rf w0) [] := hS.sel [] (by kernel_rfl)
                                exact At.body [.bool (r217 == (-1))] (by kernel_rfl) ⟨_, rfl, rfl, hS⟩
                              · replace H := ite_f H hb216
                                refine WR.runk [16, 17, 18, 19, 20] [] [6] (L' := [(6, .bool false)]) (w' := w214) (by kernel_rfl) ?_
                                refine WR.nil ?_
                                refine At.go ?_
                                refine WC.ret (by kernel_rfl) ?_
                                obtain rfl := Option.some.inj H
                                have hS : Sat w214 (rf w0) [] := hS.sel [] (by kernel_rfl)
                                exact At.body [.bool false] (by kernel_rfl) ⟨_, rfl, rfl, hS⟩
                            · replace H := ite_f H hb206
                              refine WR.runk [9, 10, 11, 12, 13, 14, 15, 16, 17, 18, 19, 20] [] [6] (L' := [(6, .bool false)]) (w' := w204) (by kernel_rfl) ?_
                              refine WR.nil ?_
                              refine At.go ?_
                              refine WC.ret (by kernel_rfl) ?_
                              obtain rfl := Option.some.inj H
                              have hS : Sat w204 (rf w0) [] := hS.sel [] (by kernel_rfl)
                              exact At.body [.bool false] (by kernel_rfl) ⟨_, rfl, rfl, hS⟩
                          · replace H := ite_f H hb196
                            refine WR.runk [4, 5, 6, 7, 8, 9, 10, 11, 12, 13, 14, 15, 16, 17, 18, 19, 20] [] [6] (L' := [(6, .bool false)]) (w' := w194) (by kernel_rfl) ?_
                            refine WR.nil ?_
                            refine At.go ?_
                            refine WC.ret (by kernel_rfl) ?_
                            obtain rfl := Option.some.inj H
                            have hS : Sat w194 (rf w0) [] := hS.sel [] (by kernel_rfl)
                            exact At.body [.bool false] (by kernel_rfl) ⟨_, rfl, rfl, hS⟩
                    · replace H := ite_f H hb123
                      refine WR.runk [35, 36, 37, 38, 39, 40, 41, 42, 43, 44, 45, 46, 47, 48, 49] [] [0, 1, 8, 107] (L' := [(0, .int .i64 a0), (1, .slice A1 l1.length c1), (8, .pointer (some ⟨b51, 0, none⟩)), (107, .bool (r105 != false))]) (w' := w121) (by kernel_rfl) ?_
                      refine WR.nil ?_
                      refine At.go ?_
                      refine WC.cond (by kernel_rfl) (r105 != false) (by kernel_rfl) (by kernel_rfl) (fun hb226 => ?_) (fun hb226 => ?_)
                      · replace H := ite_t H hb226
                        refine WC.seq (by kernel_rfl) ?_
                        refine WC.reg [0] (by kernel_rfl) (by kernel_rfl) ?_
                        refine WR.runk [0] [] [6] (L' := [(6, .bool false)]) (w' := w121) (by kernel_rfl) ?_
                        refine WR.nil ?_
                        refine At.go ?_
                        refine WC.ret (by kernel_rfl) ?_
                        refine At.thenRet ?_
                        obtain rfl := Option.some.inj H
                        have hS : Sat w121 (rf w0) [] := hS.sel [] (by kernel_rfl)
                        exact At.body [.bool false] (by kernel_rfl) ⟨_, rfl, rfl, hS⟩
                      · replace H := ite_f H hb226
                        refine WC.skip (by kernel_rfl) ?_
                        refine At.go ?_
                        refine WC.seq (by kernel_rfl) ?_
                        refine WC.seq (by kernel_rfl) ?_
                        refine WC.reg [0, 1, 2] (by kernel_rfl) (by kernel_rfl) ?_
                        refine WR.runk [0, 1, 2] [] [0, 1, 8, 109, 110] (L' := [(0, .int .i64 a0), (1, .slice A1 l1.length c1), (8, .pointer (some ⟨b51, 0, none⟩)), (109, .int .i64 (l1.length : Int)), (110, .int .i64 0)]) (w' := w121) (by kernel_rfl) ?_
                        refine WR.nil ?_
                        refine At.go ?_
                        refine WC.block (by kernel_rfl) ?_
                        have hS : Sat w121 (rf w0) [O49 b51 y48] := hS.sel [0] (by kernel_rfl)
                        obtain ⟨o242, e243, H⟩ := bind_ex H
                        refine WC.loop (by kernel_rfl) ?_
                        refine WL.weaken [0, 1, 8, 109, 110] (L' := [(0, .int .i64 a0), (1, .slice A1 l1.length c1), (8, .pointer (some ⟨b51, 0, none⟩)), (109, .int .i64 (l1.length : Int)), (110, .int .i64 0)]) (by kernel_rfl) ?_
                        refine colophonlaw03_SparseHas.l3_ok w0 a0 A1 c1 l1 y48 b51 R1 o242 (fun o244 w246 ho247 hS => ?_) (fun o248 w250 ho251 hS => ?_) FU 0 _ hS e243
                        · subst ho247
                          dsimp only at H
                          refine At.blockRet ?_
                          refine At.thenRet ?_
                          obtain rfl := Option.some.inj H
                          have hS : Sat w246 (rf w0) [] := hS.sel [] (by kernel_rfl)
                          exact At.body [.bool o244] (by kernel_rfl) ⟨_, rfl, rfl, hS⟩
                        · subst ho251
                          dsimp only at H
                          refine At.hit ?_
                          refine At.go ?_
                          refine WC.seq (by kernel_rfl) ?_
                          refine WC.reg [0, 1, 2, 3, 4, 5, 6] (by kernel_rfl) (by kernel_rfl) ?_
                          refine WR.runk [0] [1, 2, 3, 4, 5, 6] [0, 1, 8, 123] (L' := [(0, .int .i64 a0), (1, .slice A1 l1.length c1), (8, .pointer (some ⟨b51, 0, none⟩)), (123, .pointer (some ⟨b51, 0, none⟩))]) (w' := w250) (by kernel_rfl) ?_
                          obtain ⟨r252, e253, H⟩ := bind_ex H
                          refine WR.st (St.call (by kernel_rfl) (f := 17) (args := #[.pointer (some ⟨b51, 0, none⟩)]) (by kernel_rfl) (sparse_Set_Words.calls w250 (.pointer (some ⟨b51, 0, none⟩)) (some y48) (Sat.rdAny 0 hS rfl (fun _ h => O49.rd _ _ _ h)) r252 e253) ?_)
                          rintro _ w259 ⟨A261, c262, A263, c264, rfl, hS260⟩
                          have hS : Sat w259 (rf w0) [osl 43 (r0 (.int .u64)) 1 A261 c262 r252.1, osl 43 (r0 (.int .u64)) 1 A263 c264 r252.2, O49 b51 y48] := hS.ext hS260
                          refine WR.runk [2, 3, 4, 5, 6] [] [0, 1, 8, 12, 13] (L' := [(0, .int .i64 a0), (1, .slice A1 l1.length c1), (8, .pointer (some ⟨b51, 0, none⟩)), (12, .slice A261 r252.1.length c262), (13, .slice A263 r252.2.length c264)]) (w' := w259) (by kernel_rfl) ?_
                          refine WR.nil ?_
                          refine At.go ?_
                          refine WC.seq (by kernel_rfl) ?_
                          refine WC.reg [0, 1, 2, 3, 4, 5, 6, 7] (by kernel_rfl) (by kernel_rfl) ?_
                          refine WR.runk [0, 1] [2, 3, 4, 5, 6, 7] [1, 8, 12, 13, 128, 129] (L' := [(1, .slice A1 l1.length c1), (8, .pointer (some ⟨b51, 0, none⟩)), (12, .slice A261 r252.1.length c262), (13, .slice A263 r252.2.length c264), (128, .int .i64 a0), (129, .slice A1 l1.length c1)]) (w' := w259) (by kernel_rfl) ?_
                          obtain ⟨r265, e266, H⟩ := bind_ex H
                          refine WR.st (St.call (by kernel_rfl) (f := 18) (args := #[.int .i64 a0, .slice A1 l1.length c1]) (by kernel_rfl) (colophonref03_Words.calls w259 a0 A1 c1 l1 (rdS.up R1 hS.sub0) r265 e266) ?_)
                          rintro _ w272 ⟨A274, c275, A276, c277, rfl, hS273⟩
                          have hS : Sat w272 (rf w0) [osl 43 (r0 (.int .u64)) 1 A274 c275 r265.1, osl 43 (r0 (.int .u64)) 1 A276 c277 r265.2, osl 43 (r0 (.int .u64)) 1 A261 c262 r252.1, osl 43 (r0 (.int .u64)) 1 A263 c264 r252.2, O49 b51 y48] := hS.ext hS273
                          refine WR.runk [3, 4, 5, 6, 7] [] [1, 8, 12, 13, 14, 15] (L' := [(1, .slice A1 l1.length c1), (8, .pointer (some ⟨b51, 0, none⟩)), (12, .slice A261 r252.1.length c262), (13, .slice A263 r252.2.length c264), (14, .slice A274 r265.1.length c275), (15, .slice A276 r265.2.length c277)]) (w' := w272) (by kernel_rfl) ?_
                          refine WR.nil ?_
                          refine At.go ?_
                          refine WC.seq (by kernel_rfl) ?_
                          refine WC.reg [0, 1, 2, 3, 4, 5, 6, 7, 8, 9, 10, 11, 12, 13, 14, 15, 16, 17, 18, 19, 20] (by kernel_rfl) (by kernel_rfl) ?_
                          refine WR.runk [0, 1] [2, 3, 4, 5, 6, 7, 8, 9, 10, 11, 12, 13, 14, 15, 16, 17, 18, 19, 20] [1, 8, 13, 15, 133, 134] (L' := [(1, .slice A1 l1.length c1), (8, .pointer (some ⟨b51, 0, none⟩)), (13, .slice A263 r252.2.length c264), (15, .slice A276 r265.2.length c277), (133, .slice A261 r252.1.length c262), (134, .slice A274 r265.1.length c275)]) (w' := w272) (by kernel_rfl) ?_
                          obtain ⟨r278, e279, H⟩ := bind_ex H
                          refine WR.st (St.call (by kernel_rfl) (f := 19) (args := #[.slice A261 r252.1.length c262, .slice A274 r265.1.length c275]) (by kernel_rfl) (colophonref01_Same.calls w272 A261 c262 r252.1 (Sat.rdAt 2 hS rfl) A274 c275 r265.1 (Sat.rdAt 0 hS rfl) r278 e279) ?_)
                          rintro _ w285 ⟨rfl, hS286⟩
                          have hS : Sat w285 (rf w0) [osl 43 (r0 (.int .u64)) 1 A274 c275 r265.1, osl 43 (r0 (.int .u64)) 1 A276 c277 r265.2, osl 43 (r0 (.int .u64)) 1 A261 c262 r252.1, osl 43 (r0 (.int .u64)) 1 A263 c264 r252.2, O49 b51 y48] := hS.ext hS286
                          refine WR.runk [3] [4, 5, 6, 7, 8, 9, 10, 11, 12, 13, 14, 15, 16, 17, 18, 19, 20] [1, 8, 13, 15, 136] (L' := [(1, .slice A1 l1.length c1), (8, .pointer (some ⟨b51, 0, none⟩)), (13, .slice A263 r252.2.length c264), (15, .slice A276 r265.2.length c277), (136, .bool r278)]) (w' := w285) (by kernel_rfl) ?_
                          refine WR.split 136 (b := r278) (by kernel_rfl) (fun hb287 => ?_) (fun hb287 => ?_)
                          · replace H := ite_t H hb287
                            refine WR.runk [4, 5] [6, 7, 8, 9, 10, 11, 12, 13, 14, 15, 16, 17, 18, 19, 20] [1, 8, 136, 137, 138] (L' := [(1, .slice A1 l1.length c1), (8, .pointer (some ⟨b51, 0, none⟩)), (136, .bool true), (137, .slice A263 r252.2.length c264), (138, .slice A276 r265.2.length c277)]) (w' := w285) (by kernel_rfl) ?_
                            obtain ⟨r288, e289, H⟩ := bind_ex H
                            refine WR.st (St.call (by kernel_rfl) (f := 19) (args := #[.slice A263 r252.2.length c264, .slice A276 r265.2.length c277]) (by kernel_rfl) (colophonref01_Same.calls w285 A263 c264 r252.2 (Sat.rdAt 3 hS rfl) A276 c277 r265.2 (Sat.rdAt 1 hS rfl) r288 e289) ?_)
                            rintro _ w295 ⟨rfl, hS296⟩
                            have hS : Sat w295 (rf w0) [osl 43 (r0 (.int .u64)) 1 A274 c275 r265.1, osl 43 (r0 (.int .u64)) 1 A276 c277 r265.2, osl 43 (r0 (.int .u64)) 1 A261 c262 r252.1, osl 43 (r0 (.int .u64)) 1 A263 c264 r252.2, O49 b51 y48] := hS.ext hS296
                            refine WR.runk [7, 8] [9, 10, 11, 12, 13, 14, 15, 16, 17, 18, 19, 20] [1, 8, 141] (L' := [(1, .slice A1 l1.length c1), (8, .pointer (some ⟨b51, 0, none⟩)), (141, .bool r288)]) (w' := w295) (by kernel_rfl) ?_
                            refine WR.split 141 (b := r288) (by kernel_rfl) (fun hb297 => ?_) (fun hb297 => ?_)
                            · replace H := ite_t H hb297
                              refine WR.runk [9, 10, 11] [12, 13, 14, 15, 16, 17, 18, 19, 20] [8, 141, 142, 144] (L' := [(8, .pointer (some ⟨b51, 0, none⟩)), (141, .bool true), (142, .pointer (some ⟨b51, 0, none⟩)), (144, .int .i64 (l1.length : Int))]) (w' := w295) (by kernel_rfl) ?_
                              obtain ⟨r298, e299, H⟩ := bind_ex H
                              refine WR.st (St.call (by kernel_rfl) (f := 12) (args := #[.pointer (some ⟨b51, 0, none⟩), .int .i64 (l1.length : Int)]) (by kernel_rfl) (sparse_Set_At.calls w295 (.pointer (some ⟨b51, 0, none⟩)) (some y48) (Sat.rdAny 4 hS rfl (fun _ h => O49.rd _ _ _ h)) (l1.length : Int) r298 e299) ?_)
                              rintro _ w305 ⟨rfl, hS306⟩
                              have hS : Sat w305 (rf w0) [osl 43 (r0 (.int .u64)) 1 A274 c275 r265.1, osl 43 (r0 (.int .u64)) 1 A276 c277 r265.2, osl 43 (r0 (.int .u64)) 1 A261 c262 r252.1, osl 43 (r0 (.int .u64)) 1 A263 c264 r252.2, O49 b51 y48] := hS.ext hS306
                              refine WR.runk [13, 14, 15] [16, 17, 18, 19, 20] [8, 148] (L' := [(8, .pointer (some ⟨b51, 0, none⟩)), (148, .bool (r298 == (-1)))]) (w' := w305) (by kernel_rfl) ?_
                              refine WR.split 148 (b := (r298 == (-1))) (by kernel_rfl) (fun hb307 => ?_) (fun hb307 => ?_)
                              · replace H := ite_t H hb307
                                refine WR.runk [16] [17, 18, 19, 20] [148, 149] (L' := [(148, .bool true), (149, .pointer (some ⟨b51, 0, none⟩))]) (w' := w305) (by kernel_rfl) ?_
                                obtain ⟨r308, e309, H⟩ := bind_ex H
                                refine WR.st (St.call (by kernel_rfl) (f := 12) (args := #[.pointer (some ⟨b51, 0, none⟩), .int .i64 (-1)]) (by kernel_rfl) (sparse_Set_At.calls w305 (.pointer (some ⟨b51, 0, none⟩)) (some y48) (Sat.rdAny 4 hS rfl (fun _ h => O49.rd _ _ _ h)) (-1) r308 e309) ?_)
                                rintro _ w315 ⟨rfl, hS316⟩
                                have hS : Sat w315 (rf w0) [osl 43 (r0 (.int .u64)) 1 A274 c275 r265.1, osl 43 (r0 (.int .u64)) 1 A276 c277 r265.2, osl 43 (r0 (.int .u64)) 1 A261 c262 r252.1, osl 43 (r0 (.int .u64)) 1 A263 c264 r252.2, O49 b51 y48] := hS.ext hS316
                                refine WR.runk [18, 19, 20] [] [6] (L' := [(6, .bool (r308 == (-1)))]) (w' := w315) (by kernel_rfl) ?_
                                refine WR.nil ?_
                                refine At.go ?_
                                refine WC.ret (by kernel_rfl) ?_
                                obtain rfl := Option.some.inj H
                                have hS : Sat w315 (rf w0) [] := hS.sel [] (by kernel_rfl)
                                exact At.body [.bool (r308 == (-1))] (by kernel_rfl) ⟨_, rfl, rfl, hS⟩
                              · replace H := ite_f H hb307
                                refine WR.runk [16, 17, 18, 19, 20] [] [6] (L' := [(6, .bool false)]) (w' := w305) (by kernel_rfl) ?_
                                refine WR.nil ?_
                                refine At.go ?_
                                refine WC.ret (by kernel_rfl) ?_
                                obtain rfl := Option.some.inj H
                                have hS : Sat w305 (rf w0) [] := hS.sel [] (by kernel_rfl)
                                exact At.body [.bool false] (by kernel_rfl) ⟨_, rfl, rfl, hS⟩
                            · replace H := ite_f H hb297
                              refine WR.runk [9, 10, 11, 12, 13, 14, 15, 16, 17, 18, 19, 20] [] [6] (L' := [(6, .bool false)]) (w' := w295) (by kernel_rfl) ?_
                              refine WR.nil ?_
                              refine At.go ?_
                              refine WC.ret (by kernel_rfl) ?_
                              obtain rfl := Option.some.inj H
                              have hS : Sat w295 (rf w0) [] := hS.sel [] (by kernel_rfl)
                              exact At.body [.bool false] (by kernel_rfl) ⟨_, rfl, rfl, hS⟩
                          · replace H := ite_f H hb287
                            refine WR.runk [4, 5, 6, 7, 8, 9, 10, 11, 12, 13, 14, 15, 16, 17, 18, 19, 20] [] [6] (L' := [(6, .bool false)]) (w' := w285) (by kernel_rfl) ?_
                            refine WR.nil ?_
                            refine At.go ?_
                            refine WC.ret (by kernel_rfl) ?_
                            obtain rfl := Option.some.inj H
                            have hS : Sat w285 (rf w0) [] := hS.sel [] (by kernel_rfl)
                            exact At.body [.bool false] (by kernel_rfl) ⟨_, rfl, rfl, hS⟩
      · replace H := ite_f H hb12
        refine WR.runk [7, 8, 9, 10, 11] [] [0, 1, 2, 29] (L' := [(0, .int .i64 a0), (1, .slice A1 l1.length c1), (2, .int .i64 a2), (29, .bool false)]) (w' := w8) (by kernel_rfl) ?_
        refine WR.nil ?_
        refine At.go ?_
        refine WC.condF (by kernel_rfl) (by kernel_rfl) (by kernel_rfl) ?_
        refine WC.skip (by kernel_rfl) ?_
        refine At.go ?_
        refine WC.seq (by kernel_rfl) ?_
        refine WC.reg [0, 1, 2, 3] (by kernel_rfl) (by kernel_rfl) ?_
        refine WR.st (St.box hS (by kernel_rfl) (.cells #[] 3) (fun b318 => .slice (some ⟨b318, 0, none⟩) 0 0) (fun _ => by kernel_rfl) (fun b318 w319 hS => ?_))
        refine WR.runk [1] [2, 3] [0, 1, 2, 30, 31] (L' := [(0, .int .i64 a0), (1, .slice A1 l1.length c1), (2, .int .i64 a2), (30, .slice (some ⟨b318, 0, none⟩) 0 0), (31, .slice A1 l1.length c1)]) (w' := w319) (by kernel_rfl) ?_
        have hS : Sat w319 (rf w0) [osl 3 (r0 (.int .i64)) 1 (some ⟨b318, 0, none⟩) (([] : List Int) : List Int).length (([] : List Int) : List Int)] := Sat.toOsl' (r0 (.int .i64)) 1 (([] : List Int) : List Int) hS rfl (rdL.nil _ _)
        obtain ⟨y321, e320, H⟩ := bind_ex H
        refine WR.st (St.append' (.tmp 30) (.tmp 31) (by kernel_rfl) (by kernel_rfl) E22 (r0_one _) hS (by kernel_rfl) (by kernel_rfl) (rdS.up R1 hS.sub0) 17592186044416 (by kernel_rfl) (by kernel_rfl) e320 (fun A322 c323 w324 hS => ?_))
        refine WR.runk [3] [] [0, 1, 2, 7] (L' := [(0, .int .i64 a0), (1, .slice A1 l1.length c1), (2, .int .i64 a2), (7, .slice A322 y321.length c323)]) (w' := w324) (by kernel_rfl) ?_
        refine WR.nil ?_
        refine At.go ?_
        refine WC.seq (by kernel_rfl) ?_
        refine WC.reg [0, 1, 2, 3, 4, 5, 6, 7] (by kernel_rfl) (by kernel_rfl) ?_
        refine WR.runk [0, 1] [2, 3, 4, 5, 6, 7] [0, 1, 2, 7, 34, 35] (L' := [(0, .int .i64 a0), (1, .slice A1 l1.length c1), (2, .int .i64 a2), (7, .slice A322 y321.length c323), (34, .int .i64 a0), (35, .slice A322 y321.length c323)]) (w' := w324) (by kernel_rfl) ?_
        obtain ⟨r325, e326, H⟩ := bind_ex H
        refine WR.st (St.call (by kernel_rfl) (f := 10) (args := #[.int .i64 a0, .slice A322 y321.length c323]) (by kernel_rfl) (sparse_New.calls w324 a0 A322 c323 y321 (Sat.rdAt 0 hS rfl) r325 e326) ?_)
        rintro _ w332 ⟨pv334, rfl, hS333⟩
        have hS : Sat w332 (rf w0) [optP O49 pv334 r325.1, osl 3 (r0 (.int .i64)) 1 A322 c323 y321] := hS.ext hS333
        refine WR.runk [3, 4, 5, 6, 7] [] [0, 1, 2, 7, 8, 9] (L' := [(0, .int .i64 a0), (1, .slice A1 l1.length c1), (2, .int .i64 a2), (7, .slice A322 y321.length c323), (8, pv334), (9, .int .i64 r325.2)]) (w' := w332) (by kernel_rfl) ?_
        refine WR.nil ?_
        refine At.go ?_
        refine WC.seq (by kernel_rfl) ?_
        refine WC.seq (by kernel_rfl) ?_
        refine WC.reg [0, 1, 2, 3] (by kernel_rfl) (by kernel_rfl) ?_
        refine WR.runk [0, 1] [2, 3] [0, 1, 2, 7, 8, 9, 39, 40] (L' := [(0, .int .i64 a0), (1, .slice A1 l1.length c1), (2, .int .i64 a2), (7, .slice A322 y321.length c323), (8, pv334), (9, .int .i64 r325.2), (39, .int .i64 a0), (40, .slice A1 l1.length c1)]) (w' := w332) (by kernel_rfl) ?_
        obtain ⟨r335, e336, H⟩ := bind_ex H
        refine WR.st (St.call (by kernel_rfl) (f := 9) (args := #[.int .i64 a0, .slice A1 l1.length c1]) (by kernel_rfl) (colophonref03_Right.calls w332 a0 A1 c1 l1 (rdS.up R1 hS.sub0) r335 e336) ?_)
        rintro _ w342 ⟨rfl, hS343⟩
        have hS : Sat w342 (rf w0) [optP O49 pv334 r325.1, osl 3 (r0 (.int .i64)) 1 A322 c323 y321] := hS.ext hS343
        refine WR.runk [3] [] [0, 1, 2, 7, 8, 9, 42] (L' := [(0, .int .i64 a0), (1, .slice A1 l1.length c1), (2, .int .i64 a2), (7, .slice A322 y321.length c323), (8, pv334), (9, .int .i64 r325.2), (42, .bool (!r335))]) (w' := w342) (by kernel_rfl) ?_
        refine WR.nil ?_
        refine At.go ?_
        refine WC.cond (by kernel_rfl) (!r335) (by kernel_rfl) (by kernel_rfl) (fun hb344 => ?_) (fun hb344 => ?_)
        · replace H := ite_t H hb344
          refine WC.seq (by kernel_rfl) ?_
          refine WC.reg [0, 1, 2, 3, 4, 5, 6] (by kernel_rfl) (by kernel_rfl) ?_
          refine WR.runk [0, 1, 2] [3, 4, 5, 6] [8, 45] (L' := [(8, pv334), (45, .bool (r325.2 == 2))]) (w' := w342) (by kernel_rfl) ?_
          refine WR.split 45 (b := (r325.2 == 2)) (by kernel_rfl) (fun hb345 => ?_) (fun hb345 => ?_)
          · replace H := ite_t H hb345
            refine WR.runk [3] [4, 5, 6] [45, 46] (L' := [(45, .bool true), (46, pv334)]) (w' := w342) (by kernel_rfl) ?_
            rcases hr347 : r325.1 with _ | y346
            · rw [hr347] at H
              dsimp only at H
              have hv348 := optP.none hS hr347
              subst hv348
              have hS : Sat w342 (rf w0) [osl 3 (r0 (.int .i64)) 1 A322 c323 y321] := hS.sel [1] (by kernel_rfl)
              refine WR.runk [4, 5, 6] [] [6] (L' := [(6, .bool true)]) (w' := w342) (by kernel_rfl) ?_
              refine WR.nil ?_
              refine At.go ?_
              refine WC.ret (by kernel_rfl) ?_
              refine At.thenRet ?_
              obtain rfl := Option.some.inj H
              have hS : Sat w342 (rf w0) [] := hS.sel [] (by kernel_rfl)
              exact At.body [.bool true] (by kernel_rfl) ⟨_, rfl, rfl, hS⟩
            · rw [hr347] at H
              dsimp only at H
              obtain ⟨b349, hv348, hN351⟩ := optP.some hS hr347
              subst hv348
              have hS : Sat w342 (rf w0) [O49 b349 y346, osl 3 (r0 (.int .i64)) 1 A322 c323 y321] := hN351
              refine WR.runk [4, 5, 6] [] [6] (L' := [(6, .bool false)]) (w' := w342) (by kernel_rfl) ?_
              refine WR.nil ?_
              refine At.go ?_
              refine WC.ret (by kernel_rfl) ?_
              refine At.thenRet ?_
              obtain rfl := Option.some.inj H
              have hS : Sat w342 (rf w0) [] := hS.sel [] (by kernel_rfl)
              exact At.body [.bool false] (by kernel_rfl) ⟨_, rfl, rfl, hS⟩
          · replace H := ite_f H hb345
            refine WR.runk [3, 4, 5, 6] [] [6] (L' := [(6, .bool false)]) (w' := w342) (by kernel_rfl) ?_
            refine WR.nil ?_
            refine At.go ?_
            refine WC.ret (by kernel_rfl) ?_
            refine At.thenRet ?_
            obtain rfl := Option.some.inj H
            have hS : Sat w342 (rf w0) [] := hS.sel [] (by kernel_rfl)
            exact At.body [.bool false] (by kernel_rfl) ⟨_, rfl, rfl, hS⟩
        · replace H := ite_f H hb344
          refine WC.skip (by kernel_rfl) ?_
          refine At.go ?_
          refine WC.seq (by kernel_rfl) ?_
          refine WC.seq (by kernel_rfl) ?_
          refine WC.reg [0, 1, 2] (by kernel_rfl) (by kernel_rfl) ?_
          refine WR.runk [0, 1, 2] [] [0, 1, 2, 7, 8, 9, 50, 51] (L' := [(0, .int .i64 a0), (1, .slice A1 l1.length c1), (2, .int .i64 a2), (7, .slice A322 y321.length c323), (8, pv334), (9, .int .i64 r325.2), (50, .int .i64 (y321.length : Int)), (51, .int .i64 0)]) (w' := w342) (by kernel_rfl) ?_
          refine WR.nil ?_
          refine At.go ?_
          refine WC.block (by kernel_rfl) ?_
          obtain ⟨y352, hr353, H⟩ := bind_ex H
          obtain ⟨b355, hv354, hN621⟩ := optP.some hS hr353
          subst hv354
          have hS : Sat w342 (rf w0) [O49 b355 y352, osl 3 (r0 (.int .i64)) 1 A322 c323 y321] := hN621
          have hS : Sat w342 (rf w0) [osl 3 (r0 (.int .i64)) 1 A322 c323 y321, O49 b355 y352] := hS.sel [1, 0] (by kernel_rfl)
          obtain ⟨o364, e365, H⟩ := bind_ex H
          refine WC.loop (by kernel_rfl) ?_
          refine WL.weaken [0, 1, 2, 7, 8, 9, 50, 51] (L' := [(0, .int .i64 a0), (1, .slice A1 l1.length c1), (2, .int .i64 a2), (7, .slice A322 y321.length c323), (8, .pointer (some ⟨b355, 0, none⟩)), (9, .int .i64 r325.2), (50, .int .i64 (y321.length : Int)), (51, .int .i64 0)]) (by kernel_rfl) ?_
          refine colophonlaw03_SparseHas.l4_ok w0 a0 A1 c1 l1 a2 y321 r325 y352 b355 o364 (fun w367 hS => ?_) FU y321 0 A322 c323 _ hS e365
          refine At.hit ?_
          refine At.go ?_
          refine WC.seq (by kernel_rfl) ?_
          refine WC.seq (by kernel_rfl) ?_
          refine WC.reg [0, 1, 2, 3, 4, 5, 6, 7, 8, 9, 10, 11, 12, 13, 14, 15, 16, 17, 18, 19, 20, 21, 22, 23, 24, 25, 26, 27, 28, 29, 30, 31, 32, 33, 34, 35, 36, 37, 38, 39, 40, 41, 42, 43, 44, 45, 46, 47, 48, 49] (by kernel_rfl) (by kernel_rfl) ?_
          refine WR.runk [0, 1, 2] [3, 4, 5, 6, 7, 8, 9, 10, 11, 12, 13, 14, 15, 16, 17, 18, 19, 20, 21, 22, 23, 24, 25, 26, 27, 28, 29, 30, 31, 32, 33, 34, 35, 36, 37, 38, 39, 40, 41, 42, 43, 44, 45, 46, 47, 48, 49] [0, 1, 2, 8, 60] (L' := [(0, .int .i64 a0), (1, .slice A1 l1.length c1), (2, .int .i64 a2), (8, .pointer (some ⟨b355, 0, none⟩)), (60, .bool (r325.2 != 0))]) (w' := w367) (by kernel_rfl) ?_
          refine WR.split 60 (b := (r325.2 != 0)) (by kernel_rfl) (fun hb369 => ?_) (fun hb369 => ?_)
          · replace H := ite_t H hb369
            refine WR.runk [3, 4, 5, 6, 7, 8, 9, 10, 11, 12, 13, 14, 15, 16, 17, 18, 19, 20, 21, 22, 23, 24, 25, 26, 27, 28, 29, 30, 31, 32, 33, 34, 35, 36, 37, 38, 39, 40, 41, 42, 43, 44, 45, 46, 47, 48, 49] [] [0, 1, 8, 107] (L' := [(0, .int .i64 a0), (1, .slice A1 l1.length c1), (8, .pointer (some ⟨b355, 0, none⟩)), (107, .bool true)]) (w' := w367) (by kernel_rfl) ?_
            refine WR.nil ?_
            refine At.go ?_
            refine WC.condT (by kernel_rfl) (by kernel_rfl) (by kernel_rfl) ?_
            refine WC.seq (by kernel_rfl) ?_
            refine WC.reg [0] (by kernel_rfl) (by kernel_rfl) ?_
            refine WR.runk [0] [] [6] (L' := [(6, .bool false)]) (w' := w367) (by kernel_rfl) ?_
            refine WR.nil ?_
            refine At.go ?_
            refine WC.ret (by kernel_rfl) ?_
            refine At.thenRet ?_
            obtain rfl := Option.some.inj H
            have hS : Sat w367 (rf w0) [] := hS.sel [] (by kernel_rfl)
            exact At.body [.bool false] (by kernel_rfl) ⟨_, rfl, rfl, hS⟩
          · replace H := ite_f H hb369
            refine WR.runk [3] [4, 5, 6, 7, 8, 9, 10, 11, 12, 13, 14, 15, 16, 17, 18, 19, 20, 21, 22, 23, 24, 25, 26, 27, 28, 29, 30, 31, 32, 33, 34, 35, 36, 37, 38, 39, 40, 41, 42, 43, 44, 45, 46, 47, 48, 49] [0, 1, 2, 8, 60, 61] (L' := [(0, .int .i64 a0), (1, .slice A1 l1.length c1), (2, .int .i64 a2), (8, .pointer (some ⟨b355, 0, none⟩)), (60, .bool false), (61, .pointer (some ⟨b355, 0, none⟩))]) (w' := w367) (by kernel_rfl) ?_
            obtain ⟨r370, e371, H⟩ := bind_ex H
            refine WR.st (St.call (by kernel_rfl) (f := 15) (args := #[.pointer (some ⟨b355, 0, none⟩)]) (by kernel_rfl) (sparse_Set_Len.calls w367 (.pointer (some ⟨b355, 0, none⟩)) (some y352) (Sat.rdAny 0 hS rfl (fun _ h => O49.rd _ _ _ h)) r370 e371) ?_)
            rintro _ w377 ⟨rfl, hS378⟩
            have hS : Sat w377 (rf w0) [O49 b355 y352] := hS.ext hS378
            refine WR.runk [5, 6, 7, 8, 9] [10, 11, 12, 13, 14, 15, 16, 17, 18, 19, 20, 21, 22, 23, 24, 25, 26, 27, 28, 29, 30, 31, 32, 33, 34, 35, 36, 37, 38, 39, 40, 41, 42, 43, 44, 45, 46, 47, 48, 49] [0, 1, 2, 8, 67] (L' := [(0, .int .i64 a0), (1, .slice A1 l1.length c1), (2, .int .i64 a2), (8, .pointer (some ⟨b355, 0, none⟩)), (67, .bool (r370 != (l1.length : Int)))]) (w' := w377) (by kernel_rfl) ?_
            refine WR.split 67 (b := (r370 != (l1.length : Int))) (by kernel_rfl) (fun hb379 => ?_) (fun hb379 => ?_)
            · replace H := ite_t H hb379
              refine WR.runk [10, 11, 12, 13, 14, 15, 16, 17, 18, 19, 20, 21, 22, 23, 24, 25, 26, 27, 28, 29, 30, 31, 32, 33, 34, 35, 36, 37, 38, 39, 40, 41, 42, 43, 44, 45, 46, 47, 48, 49] [] [0, 1, 8, 107] (L' := [(0, .int .i64 a0), (1, .slice A1 l1.length c1), (8, .pointer (some ⟨b355, 0, none⟩)), (107, .bool true)]) (w' := w377) (by kernel_rfl) ?_
              refine WR.nil ?_
              refine At.go ?_
              refine WC.condT (by kernel_rfl) (by kernel_rfl) (by kernel_rfl) ?_
              refine WC.seq (by kernel_rfl) ?_
              refine WC.reg [0] (by kernel_rfl) (by kernel_rfl) ?_
              refine WR.runk [0] [] [6] (L' := [(6, .bool false)]) (w' := w377) (by kernel_rfl) ?_
              refine WR.nil ?_
              refine At.go ?_
              refine WC.ret (by kernel_rfl) ?_
              refine At.thenRet ?_
              obtain rfl := Option.some.inj H
              have hS : Sat w377 (rf w0) [] := hS.sel [] (by kernel_rfl)
              exact At.body [.bool false] (by kernel_rfl) ⟨_, rfl, rfl, hS⟩
            · replace H := ite_f H hb379
              refine WR.runk [10] [11, 12, 13, 14, 15, 16, 17, 18, 19, 20, 21, 22, 23, 24, 25, 26, 27, 28, 29, 30, 31, 32, 33, 34, 35, 36, 37, 38, 39, 40, 41, 42, 43, 44, 45, 46, 47, 48, 49] [0, 1, 2, 8, 67, 68] (L' := [(0, .int .i64 a0), (1, .slice A1 l1.length c1), (2, .int .i64 a2), (8, .pointer (some ⟨b355, 0, none⟩)), (67, .bool false), (68, .pointer (some ⟨b355, 0, none⟩))]) (w' := w377) (by kernel_rfl) ?_
              obtain ⟨r380, e381, H⟩ := bind_ex H
              refine WR.st (St.call (by kernel_rfl) (f := 11) (args := #[.pointer (some ⟨b355, 0, none⟩)]) (by kernel_rfl) (sparse_Set_Bound.calls w377 (.pointer (some ⟨b355, 0, none⟩)) (some y352) (Sat.rdAny 0 hS rfl (fun _ h => O49.rd _ _ _ h)) r380 e381) ?_)
              rintro _ w387 ⟨rfl, hS388⟩
              have hS : Sat w387 (rf w0) [O49 b355 y352] := hS.ext hS388
              refine WR.runk [12, 13, 14, 15] [16, 17, 18, 19, 20, 21, 22, 23, 24, 25, 26, 27, 28, 29, 30, 31, 32, 33, 34, 35, 36, 37, 38, 39, 40, 41, 42, 43, 44, 45, 46, 47, 48, 49] [0, 1, 2, 8, 73] (L' := [(0, .int .i64 a0), (1, .slice A1 l1.length c1), (2, .int .i64 a2), (8, .pointer (some ⟨b355, 0, none⟩)), (73, .bool (r380 != a0))]) (w' := w387) (by kernel_rfl) ?_
              refine WR.split 73 (b := (r380 != a0)) (by kernel_rfl) (fun hb389 => ?_) (fun hb389 => ?_)
              · replace H := ite_t H hb389
                refine WR.runk [16, 17, 18, 19, 20, 21, 22, 23, 24, 25, 26, 27, 28, 29, 30, 31, 32, 33, 34, 35, 36, 37, 38, 39, 40, 41, 42, 43, 44, 45, 46, 47, 48, 49] [] [0, 1, 8, 107] (L' := [(0, .int .i64 a0), (1, .slice A1 l1.length c1), (8, .pointer (some ⟨b355, 0, none⟩)), (107, .bool true)]) (w' := w387) (by kernel_rfl) ?_
                refine WR.nil ?_
                refine At.go ?_
                refine WC.condT (by kernel_rfl) (by kernel_rfl) (by kernel_rfl) ?_
                refine WC.seq (by kernel_rfl) ?_
                refine WC.reg [0] (by kernel_rfl) (by kernel_rfl) ?_
                refine WR.runk [0] [] [6] (L' := [(6, .bool false)]) (w' := w387) (by kernel_rfl) ?_
                refine WR.nil ?_
                refine At.go ?_
                refine WC.ret (by kernel_rfl) ?_
                refine At.thenRet ?_
                obtain rfl := Option.some.inj H
                have hS : Sat w387 (rf w0) [] := hS.sel [] (by kernel_rfl)
                exact At.body [.bool false] (by kernel_rfl) ⟨_, rfl, rfl, hS⟩
              · replace H := ite_f H hb389
                refine WR.runk [16, 17] [18, 19, 20, 21, 22, 23, 24, 25, 26, 27, 28, 29, 30, 31, 32, 33, 34, 35, 36, 37, 38, 39, 40, 41, 42, 43, 44, 45, 46, 47, 48, 49] [0, 1, 2, 8, 73, 74, 75] (L' := [(0, .int .i64 a0), (1, .slice A1 l1.length c1), (2, .int .i64 a2), (8, .pointer (some ⟨b355, 0, none⟩)), (73, .bool false), (74, .pointer (some ⟨b355, 0, none⟩)), (75, .int .i64 a2)]) (w' := w387) (by kernel_rfl) ?_
                obtain ⟨r390, e391, H⟩ := bind_ex H
                refine WR.st (St.call (by kernel_rfl) (f := 13) (args := #[.pointer (some ⟨b355, 0, none⟩), .int .i64 a2]) (by kernel_rfl) (sparse_Set_Rank.calls w387 (.pointer (some ⟨b355, 0, none⟩)) (some y352) (Sat.rdAny 0 hS rfl (fun _ h => O49.rd _ _ _ h)) a2 r390 e391) ?_)
                rintro _ w397 ⟨rfl, hS398⟩
                have hS : Sat w397 (rf w0) [O49 b355 y352] := hS.ext hS398
                refine WR.runk [19, 20] [21, 22, 23, 24, 25, 26, 27, 28, 29, 30, 31, 32, 33, 34, 35, 36, 37, 38, 39, 40, 41, 42, 43, 44, 45, 46, 47, 48, 49] [0, 1, 2, 8, 73, 76, 77, 78] (L' := [(0, .int .i64 a0), (1, .slice A1 l1.length c1), (2, .int .i64 a2), (8, .pointer (some ⟨b355, 0, none⟩)), (73, .bool false), (76, .int .i64 r390), (77, .slice A1 l1.length c1), (78, .int .i64 a2)]) (w' := w397) (by kernel_rfl) ?_
                obtain ⟨r399, e400, H⟩ := bind_ex H
                refine WR.st (St.call (by kernel_rfl) (f := 16) (args := #[.slice A1 l1.length c1, .int .i64 a2]) (by kernel_rfl) (colophonref03_Below.calls w397 A1 c1 l1 (rdS.up R1 hS.sub0) a2 r399 e400) ?_)
                rintro _ w406 ⟨rfl, hS407⟩
                have hS : Sat w406 (rf w0) [O49 b355 y352] := hS.ext hS407
                refine WR.runk [22, 23, 24] [25, 26, 27, 28, 29, 30, 31, 32, 33, 34, 35, 36, 37, 38, 39, 40, 41, 42, 43, 44, 45, 46, 47, 48, 49] [0, 1, 2, 8, 82] (L' := [(0, .int .i64 a0), (1, .slice A1 l1.length c1), (2, .int .i64 a2), (8, .pointer (some ⟨b355, 0, none⟩)), (82, .bool (r390 != r399))]) (w' := w406) (by kernel_rfl) ?_
                refine WR.split 82 (b := (r390 != r399)) (by kernel_rfl) (fun hb408 => ?_) (fun hb408 => ?_)
                · replace H := ite_t H hb408
                  refine WR.runk [25, 26, 27, 28, 29, 30, 31, 32, 33, 34, 35, 36, 37, 38, 39, 40, 41, 42, 43, 44, 45, 46, 47, 48, 49] [] [0, 1, 8, 107] (L' := [(0, .int .i64 a0), (1, .slice A1 l1.length c1), (8, .pointer (some ⟨b355, 0, none⟩)), (107, .bool true)]) (w' := w406) (by kernel_rfl) ?_
                  refine WR.nil ?_
                  refine At.go ?_
                  refine WC.condT (by kernel_rfl) (by kernel_rfl) (by kernel_rfl) ?_
                  refine WC.seq (by kernel_rfl) ?_
                  refine WC.reg [0] (by kernel_rfl) (by kernel_rfl) ?_
                  refine WR.runk [0] [] [6] (L' := [(6, .bool false)]) (w' := w406) (by kernel_rfl) ?_
                  refine WR.nil ?_
                  refine At.go ?_
                  refine WC.ret (by kernel_rfl) ?_
                  refine At.thenRet ?_
                  obtain rfl := Option.some.inj H
                  have hS : Sat w406 (rf w0) [] := hS.sel [] (by kernel_rfl)
                  exact At.body [.bool false] (by kernel_rfl) ⟨_, rfl, rfl, hS⟩
                · replace H := ite_f H hb408
                  refine WR.runk [25, 26] [27, 28, 29, 30, 31, 32, 33, 34, 35, 36, 37, 38, 39, 40, 41, 42, 43, 44, 45, 46, 47, 48, 49] [0, 1, 2, 8, 82, 83, 84] (L' := [(0, .int .i64 a0), (1, .slice A1 l1.length c1), (2, .int .i64 a2), (8, .pointer (some ⟨b355, 0, none⟩)), (82, .bool false), (83, .pointer (some ⟨b355, 0, none⟩)), (84, .int .i64 a2)]) (w' := w406) (by kernel_rfl) ?_
                  obtain ⟨r409, e410, H⟩ := bind_ex H
                  refine WR.st (St.call (by kernel_rfl) (f := 14) (args := #[.pointer (some ⟨b355, 0, none⟩), .int .i64 a2]) (by kernel_rfl) (sparse_Set_Has.calls w406 (.pointer (some ⟨b355, 0, none⟩)) (some y352) (Sat.rdAny 0 hS rfl (fun _ h => O49.rd _ _ _ h)) a2 r409 e410) ?_)
                  rintro _ w416 ⟨rfl, hS417⟩
                  have hS : Sat w416 (rf w0) [O49 b355 y352] := hS.ext hS417
                  refine WR.runk [28, 29] [30, 31, 32, 33, 34, 35, 36, 37, 38, 39, 40, 41, 42, 43, 44, 45, 46, 47, 48, 49] [0, 1, 2, 8, 82, 85, 86, 87] (L' := [(0, .int .i64 a0), (1, .slice A1 l1.length c1), (2, .int .i64 a2), (8, .pointer (some ⟨b355, 0, none⟩)), (82, .bool false), (85, .bool r409), (86, .slice A1 l1.length c1), (87, .int .i64 a2)]) (w' := w416) (by kernel_rfl) ?_
                  obtain ⟨r418, e419, H⟩ := bind_ex H
                  refine WR.st (St.call (by kernel_rfl) (f := 16) (args := #[.slice A1 l1.length c1, .int .i64 a2]) (by kernel_rfl) (colophonref03_Below.calls w416 A1 c1 l1 (rdS.up R1 hS.sub0) a2 r418 e419) ?_)
                  rintro _ w425 ⟨rfl, hS426⟩
                  have hS : Sat w425 (rf w0) [O49 b355 y352] := hS.ext hS426
                  refine WR.runk [31, 32, 33, 34] [35, 36, 37, 38, 39, 40, 41, 42, 43, 44, 45, 46, 47, 48, 49] [0, 1, 2, 8, 82, 85, 92] (L' := [(0, .int .i64 a0), (1, .slice A1 l1.length c1), (2, .int .i64 a2), (8, .pointer (some ⟨b355, 0, none⟩)), (82, .bool false), (85, .bool r409), (92, .bool (decide (r418 < (l1.length : Int))))]) (w' := w425) (by kernel_rfl) ?_
                  refine WR.split 92 (b := decide (r418 < (l1.length : Int))) (by kernel_rfl) (fun hb427 => ?_) (fun hb427 => ?_)
                  · replace H := ite_t H hb427
                    refine WR.runk [35, 36, 37] [38, 39, 40, 41, 42, 43, 44, 45, 46, 47, 48, 49] [0, 1, 2, 8, 82, 85, 92, 93, 94, 95] (L' := [(0, .int .i64 a0), (1, .slice A1 l1.length c1), (2, .int .i64 a2), (8, .pointer (some ⟨b355, 0, none⟩)), (82, .bool false), (85, .bool r409), (92, .bool true), (93, .slice A1 l1.length c1), (94, .slice A1 l1.length c1), (95, .int .i64 a2)]) (w' := w425) (by kernel_rfl) ?_
                    obtain ⟨r428, e429, H⟩ := bind_ex H
                    refine WR.st (St.call (by kernel_rfl) (f := 16) (args := #[.slice A1 l1.length c1, .int .i64 a2]) (by kernel_rfl) (colophonref03_Below.calls w425 A1 c1 l1 (rdS.up R1 hS.sub0) a2 r428 e429) ?_)
                    rintro _ w435 ⟨rfl, hS436⟩
                    have hS : Sat w435 (rf w0) [O49 b355 y352] := hS.ext hS436
                    refine WR.runk [39, 40, 41, 42] [43, 44, 45, 46, 47, 48, 49] [0, 1, 2, 8, 82, 85, 92, 93, 100] (L' := [(0, .int .i64 a0), (1, .slice A1 l1.length c1), (2, .int .i64 a2), (8, .pointer (some ⟨b355, 0, none⟩)), (82, .bool false), (85, .bool r409), (92, .bool true), (93, .slice A1 l1.length c1), (100, .int .i64 (imin r428 (wi ((l1.length : Int) - 1))))]) (w' := w435) (by kernel_rfl) ?_
                    obtain ⟨v437, e438, H⟩ := bind_ex H
                    refine WR.st (St.ofP (PSt.idx (k := .i64) (.tmp 93) (.tmp 100) (by kernel_rfl) (by kernel_rfl) E22 (by kernel_rfl) (by kernel_rfl) (rdS.up R1 hS.sub0) e438 ?_))
                    refine WR.runk [] [44, 45, 46, 47, 48, 49] [0, 1, 2, 8, 82, 85, 92, 101] (L' := [(0, .int .i64 a0), (1, .slice A1 l1.length c1), (2, .int .i64 a2), (8, .pointer (some ⟨b355, 0, none⟩)), (82, .bool false), (85, .bool r409), (92, .bool true), (101, .pointer (some (adr A1 (imin r428 (wi ((l1.length : Int) - 1))).toNat 1)))]) (w' := w435) (by kernel_rfl) ?_
                    refine WR.st (St.ofR (RSt.loadInt (t := 3) (.tmp 101) (by kernel_rfl) (by kernel_rfl) (by kernel_rfl) (by kernel_rfl) (rdS.up R1 hS.sub0) e438 ?_))
                    refine WR.runk [45, 46, 47, 48, 49] [] [0, 1, 8, 107] (L' := [(0, .int .i64 a0), (1, .slice A1 l1.length c1), (8, .pointer (some ⟨b355, 0, none⟩)), (107, .bool (r409 != (v437 == a2)))]) (w' := w435) (by kernel_rfl) ?_
                    refine WR.nil ?_
                    refine At.go ?_
                    refine WC.cond (by kernel_rfl) (r409 != (v437 == a2)) (by kernel_rfl) (by kernel_rfl) (fun hb439 => ?_) (fun hb439 => ?_)
                    · replace H := ite_t H hb439
                      refine WC.seq (by kernel_rfl) ?_
                      refine WC.reg [0] (by kernel_rfl) (by kernel_rfl) ?_
                      refine WR.runk [0] [] [6] (L' := [(6, .bool false)]) (w' := w435) (by kernel_rfl) ?_
                      refine WR.nil ?_
                      refine At.go ?_
                      refine WC.ret (by kernel_rfl) ?_
                      refine At.thenRet ?_
                      obtain rfl := Option.some.inj H
                      have hS : Sat w435 (rf w0) [] := hS.sel [] (by kernel_rfl)
                      exact At.body [.bool false] (by kernel_rfl) ⟨_, rfl, rfl, hS⟩
                    · replace H := ite_f H hb439
                      refine WC.skip (by kernel_rfl) ?_
                      refine At.go ?_
                      refine WC.seq (by kernel_rfl) ?_
                      refine WC.seq (by kernel_rfl) ?_
                      refine WC.reg [0, 1, 2] (by kernel_rfl) (by kernel_rfl) ?_
                      refine WR.runk [0, 1, 2] [] [0, 1, 8, 109, 110] (L' := [(0, .int .i64 a0), (1, .slice A1 l1.length c1), (8, .pointer (some ⟨b355, 0, none⟩)), (109, .int .i64 (l1.length : Int)), (110, .int .i64 0)]) (w' := w435) (by kernel_rfl) ?_
                      refine WR.nil ?_
                      refine At.go ?_
                      refine WC.block (by kernel_rfl) ?_
                      have hS : Sat w435 (rf w0) [O49 b355 y352] := hS.sel [0] (by kernel_rfl)
                      obtain ⟨o455, e456, H⟩ := bind_ex H
                      refine WC.loop (by kernel_rfl) ?_
                      refine WL.weaken [0, 1, 8, 109, 110] (L' := [(0, .int .i64 a0), (1, .slice A1 l1.length c1), (8, .pointer (some ⟨b355, 0, none⟩)), (109, .int .i64 (l1.length : Int)), (110, .int .i64 0)]) (by kernel_rfl) ?_
                      refine colophonlaw03_SparseHas.l5_ok w0 a0 A1 c1 l1 y352 b355 R1 o455 (fun o457 w459 ho460 hS => ?_) (fun o461 w463 ho464 hS => ?_) FU 0 _ hS e456
                      · subst ho460
                        dsimp only at H
                        refine At.blockRet ?_
                        refine At.thenRet ?_
                        obtain rfl := Option.some.inj H
                        have hS : Sat w459 (rf w0) [] := hS.sel [] (by kernel_rfl)
                        exact At.body [.bool o457] (by kernel_rfl) ⟨_, rfl, rfl, hS⟩
                      · subst ho464
                        dsimp only at H
                        refine At.hit ?_
                        refine At.go ?_
                        refine WC.seq (by kernel_rfl) ?_
                        refine WC.reg [0, 1, 2, 3, 4, 5, 6] (by kernel_rfl) (by kernel_rfl) ?_
                        refine WR.runk [0] [1, 2, 3, 4, 5, 6] [0, 1, 8, 123] (L' := [(0, .int .i64 a0), (1, .slice A1 l1.length c1), (8, .pointer (some ⟨b355, 0, none⟩)), (123, .pointer (some ⟨b355, 0, none⟩))]) (w' := w463) (by kernel_rfl) ?_
                        obtain ⟨r465, e466, H⟩ := bind_ex H
                        refine WR.st (St.call (by kernel_rfl) (f := 17) (args := #[.pointer (some ⟨b355, 0, none⟩)]) (by kernel_rfl) (sparse_Set_Words.calls w463 (.pointer (some ⟨b355, 0, none⟩)) (some y352) (Sat.rdAny 0 hS rfl (fun _ h => O49.rd _ _ _ h)) r465 e466) ?_)
                        rintro _ w472 ⟨A474, c475, A476, c477, rfl, hS473⟩
                        have hS : Sat w472 (rf w0) [osl 43 (r0 (.int .u64)) 1 A474 c475 r465.1, osl 43 (r0 (.int .u64)) 1 A476 c477 r465.2, O49 b355 y352] := hS.ext hS473
                        refine WR.runk [2, 3, 4, 5, 6] [] [0, 1, 8, 12, 13] (L' := [(0, .int .i64 a0), (1, .slice A1 l1.length c1), (8, .pointer (some ⟨b355, 0, none⟩)), (12, .slice A474 r465.1.length c475), (13, .slice A476 r465.2.length c477)]) (w' := w472) (by kernel_rfl) ?_
                        refine WR.nil ?_
                        refine At.go ?_
                        refine WC.seq (by kernel_rfl) ?_
                        refine WC.reg [0, 1, 2, 3, 4, 5, 6, 7] (by kernel_rfl) (by kernel_rfl) ?_
                        refine WR.runk [0, 1] [2, 3, 4, 5, 6, 7] [1, 8, 12, 13, 128, 129] (L' := [(1, .slice A1 l1.length c1), (8, .pointer (some ⟨b355, 0, none⟩)), (12, .slice A474 r465.1.length c475), (13, .slice A476 r465.2.length c477), (128, .int .i64 a0), (129, .slice A1 l1.length c1)]) (w' := w472) (by kernel_rfl) ?_
                        obtain ⟨r478, e479, H⟩ := bind_ex H
                        refine WR.st (St.call (by kernel_rfl) (f := 18) (args := #[.int .i64 a0, .slice A1 l1.length c1]) (by kernel_rfl) (colophonref03_Words.calls w472 a0 A1 c1 l1 (rdS.up R1 hS.sub0) r478 e479) ?_)
                        rintro _ w485 ⟨A487, c488, A489, c490, rfl, hS486⟩
                        have hS : Sat w485 (rf w0) [osl 43 (r0 (.int .u64)) 1 A487 c488 r478.1, osl 43 (r0 (.int .u64)) 1 A489 c490 r478.2, osl 43 (r0 (.int .u64)) 1 A474 c475 r465.1, osl 43 (r0 (.int .u64)) 1 A476 c477 r465.2, O49 b355 y352] := hS.ext hS486
                        refine WR.runk [3, 4, 5, 6, 7] [] [1, 8, 12, 13, 14, 15] (L' := [(1, .slice A1 l1.length c1), (8, .pointer (some ⟨b355, 0, none⟩)), (12, .slice A474 r465.1.length c475), (13, .slice A476 r465.2.length c477), (14, .slice A487 r478.1.length c488), (15, .slice A489 r478.2.length c490)]) (w' := w485) (by kernel_rfl) ?_
                        refine WR.nil ?_
                        refine At.go ?_
                        refine WC.seq (by kernel_rfl) ?_
                        refine WC.reg [0, 1, 2, 3, 4, 5, 6, 7, 8, 9, 10, 11, 12, 13, 14, 15, 16, 17, 18, 19, 20] (by kernel_rfl) (by kernel_rfl) ?_
                        refine WR.runk [0, 1] [2, 3, 4, 5, 6, 7, 8, 9, 10, 11, 12, 13, 14, 15, 16, 17, 18, 19, 20] [1, 8, 13, 15, 133, 134] (L' := [(1, .slice A1 l1.length c1), (8, .pointer (some ⟨b355, 0, none⟩)), (13, .slice A476 r465.2.length c477), (15, .slice A489 r478.2.length c490), (133, .slice A474 r465.1.length c475), (134, .slice A487 r478.1.length c488)]) (w' := w485) (by kernel_rfl) ?_
                        obtain ⟨r491, e492, H⟩ := bind_ex H
                        refine WR.st (St.call (by kernel_rfl) (f := 19) (args := #[.slice A474 r465.1.length c475, .slice A487 r478.1.length c488]) (by kernel_rfl) (colophonref01_Same.calls w485 A474 c475 r465.1 (Sat.rdAt 2 hS rfl) A487 c488 r478.1 (Sat.rdAt 0 hS rfl) r491 e492) ?_)
                        rintro _ w498 ⟨rfl, hS499⟩
                        have hS : Sat w498 (rf w0) [osl 43 (r0 (.int .u64)) 1 A487 c488 r478.1, osl 43 (r0 (.int .u64)) 1 A489 c490 r478.2, osl 43 (r0 (.int .u64)) 1 A474 c475 r465.1, osl 43 (r0 (.int .u64)) 1 A476 c477 r465.2, O49 b355 y352] := hS.ext hS499
                        refine WR.runk [3] [4, 5, 6, 7, 8, 9, 10, 11, 12, 13, 14, 15, 16, 17, 18, 19, 20] [1, 8, 13, 15, 136] (L' := [(1, .slice A1 l1.length c1), (8, .pointer (some ⟨b355, 0, none⟩)), (13, .slice A476 r465.2.length c477), (15, .slice A489 r478.2.length c490), (136, .bool r491)]) (w' := w498) (by kernel_rfl) ?_
                        refine WR.split 136 (b := r491) (by kernel_rfl) (fun hb500 => ?_) (fun hb500 => ?_)
                        · replace H := ite_t H hb500
                          refine WR.runk [4, 5] [6, 7, 8, 9, 10, 11, 12, 13, 14, 15, 16, 17, 18, 19, 20] [1, 8, 136, 137, 138] (L' := [(1, .slice A1 l1.length c1), (8, .pointer (some ⟨b355, 0, none⟩)), (136, .bool true), (137, .slice A476 r465.2.length c477), (138, .slice A489 r478.2.length c490)]) (w' := w498) (by kernel_rfl) ?_
                          obtain ⟨r501, e502, H⟩ := bind_ex H
                          refine WR.st (St.call (by kernel_rfl) (f := 19) (args := #[.slice A476 r465.2.length c477, .slice A489 r478.2.length c490]) (by kernel_rfl) (colophonref01_Same.calls w498 A476 c477 r465.2 (Sat.rdAt 3 hS rfl) A489 c490 r478.2 (Sat.rdAt 1 hS rfl) r501 e502) ?_)
                          rintro _ w508 ⟨rfl, hS509⟩
                          have hS : Sat w508 (rf w0) [osl 43 (r0 (.int .u64)) 1 A487 c488 r478.1, osl 43 (r0 (.int .u64)) 1 A489 c490 r478.2, osl 43 (r0 (.int .u64)) 1 A474 c475 r465.1, osl 43 (r0 (.int .u64)) 1 A476 c477 r465.2, O49 b355 y352] := hS.ext hS509
                          refine WR.runk [7, 8] [9, 10, 11, 12, 13, 14, 15, 16, 17, 18, 19, 20] [1, 8, 141] (L' := [(1, .slice A1 l1.length c1), (8, .pointer (some ⟨b355, 0, none⟩)), (141, .bool r501)]) (w' := w508) (by kernel_rfl) ?_
                          refine WR.split 141 (b := r501) (by kernel_rfl) (fun hb510 => ?_) (fun hb510 => ?_)
                          · replace H := ite_t H hb510
                            refine WR.runk [9, 10, 11] [12, 13, 14, 15, 16, 17, 18, 19, 20] [8, 141, 142, 144] (L' := [(8, .pointer (some ⟨b355, 0, none⟩)), (141, .bool true), (142, .pointer (some ⟨b355, 0, none⟩)), (144, .int .i64 (l1.length : Int))]) (w' := w508) (by kernel_rfl) ?_
                            obtain ⟨r511, e512, H⟩ := bind_ex H
                            refine WR.st (St.call (by kernel_rfl) (f := 12) (args := #[.pointer (some ⟨b355, 0, none⟩), .int .i64 (l1.length : Int)]) (by kernel_rfl) (sparse_Set_At.calls w508 (.pointer (some ⟨b355, 0, none⟩)) (some y352) (Sat.rdAny 4 hS rfl (fun _ h => O49.rd _ _ _ h)) (l1.length : Int) r511 e512) ?_)
                            rintro _ w518 ⟨rfl, hS519⟩
                            have hS : Sat w518 (rf w0) [osl 43 (r0 (.int .u64)) 1 A487 c488 r478.1, osl 43 (r0 (.int .u64)) 1 A489 c490 r478.2, osl 43 (r0 (.int .u64)) 1 A474 c475 r465.1, osl 43 (r0 (.int .u64)) 1 A476 c477 r465.2, O49 b355 y352] := hS.ext hS519
                            refine WR.runk [13, 14, 15] [16, 17, 18, 19, 20] [8, 148] (L' := [(8, .pointer (some ⟨b355, 0, none⟩)), (148, .bool (r511 == (-1)))]) (w' := w518) (by kernel_rfl) ?_
                            refine WR.split 148 (b := (r511 == (-1))) (by kernel_rfl) (fun hb520 => ?_) (fun hb520 => ?_)
                            · replace H := ite_t H hb520
                              refine WR.runk [16] [17, 18, 19, 20] [148, 149] (L' := [(148, .bool true), (149, .pointer (some ⟨b355, 0, none⟩))]) (w' := w518) (by kernel_rfl) ?_
                              obtain ⟨r521, e522, H⟩ := bind_ex H
                              refine WR.st (St.call (by kernel_rfl) (f := 12) (args := #[.pointer (some ⟨b355, 0, none⟩), .int .i64 (-1)]) (by kernel_rfl) (sparse_Set_At.calls w518 (.pointer (some ⟨b355, 0, none⟩)) (some y352) (Sat.rdAny 4 hS rfl (fun _ h => O49.rd _ _ _ h)) (-1) r521 e522) ?_)
                              rintro _ w528 ⟨rfl, hS529⟩
                              have hS : Sat w528 (rf w0) [osl 43 (r0 (.int .u64)) 1 A487 c488 r478.1, osl 43 (r0 (.int .u64)) 1 A489 c490 r478.2, osl 43 (r0 (.int .u64)) 1 A474 c475 r465.1, osl 43 (r0 (.int .u64)) 1 A476 c477 r465.2, O49 b355 y352] := hS.ext hS529
                              refine WR.runk [18, 19, 20] [] [6] (L' := [(6, .bool (r521 == (-1)))]) (w' := w528) (by kernel_rfl) ?_
                              refine WR.nil ?_
                              refine At.go ?_
                              refine WC.ret (by kernel_rfl) ?_
                              obtain rfl := Option.some.inj H
                              have hS : Sat w528 (rf w0) [] := hS.sel [] (by kernel_rfl)
                              exact At.body [.bool (r521 == (-1))] (by kernel_rfl) ⟨_, rfl, rfl, hS⟩
                            · replace H := ite_f H hb520
                              refine WR.runk [16, 17, 18, 19, 20] [] [6] (L' := [(6, .bool false)]) (w' := w518) (by kernel_rfl) ?_
                              refine WR.nil ?_
                              refine At.go ?_
                              refine WC.ret (by kernel_rfl) ?_
                              obtain rfl := Option.some.inj H
                              have hS : Sat w518 (rf w0) [] := hS.sel [] (by kernel_rfl)
                              exact At.body [.bool false] (by kernel_rfl) ⟨_, rfl, rfl, hS⟩
                          · replace H := ite_f H hb510
                            refine WR.runk [9, 10, 11, 12, 13, 14, 15, 16, 17, 18, 19, 20] [] [6] (L' := [(6, .bool false)]) (w' := w508) (by kernel_rfl) ?_
                            refine WR.nil ?_
                            refine At.go ?_
                            refine WC.ret (by kernel_rfl) ?_
                            obtain rfl := Option.some.inj H
                            have hS : Sat w508 (rf w0) [] := hS.sel [] (by kernel_rfl)
                            exact At.body [.bool false] (by kernel_rfl) ⟨_, rfl, rfl, hS⟩
                        · replace H := ite_f H hb500
                          refine WR.runk [4, 5, 6, 7, 8, 9, 10, 11, 12, 13, 14, 15, 16, 17, 18, 19, 20] [] [6] (L' := [(6, .bool false)]) (w' := w498) (by kernel_rfl) ?_
                          refine WR.nil ?_
                          refine At.go ?_
                          refine WC.ret (by kernel_rfl) ?_
                          obtain rfl := Option.some.inj H
                          have hS : Sat w498 (rf w0) [] := hS.sel [] (by kernel_rfl)
                          exact At.body [.bool false] (by kernel_rfl) ⟨_, rfl, rfl, hS⟩
                  · replace H := ite_f H hb427
                    refine WR.runk [35, 36, 37, 38, 39, 40, 41, 42, 43, 44, 45, 46, 47, 48, 49] [] [0, 1, 8, 107] (L' := [(0, .int .i64 a0), (1, .slice A1 l1.length c1), (8, .pointer (some ⟨b355, 0, none⟩)), (107, .bool (r409 != false))]) (w' := w425) (by kernel_rfl) ?_
                    refine WR.nil ?_
                    refine At.go ?_
                    refine WC.cond (by kernel_rfl) (r409 != false) (by kernel_rfl) (by kernel_rfl) (fun hb530 => ?_) (fun hb530 => ?_)
                    · replace H := ite_t H hb530
                      refine WC.seq (by kernel_rfl) ?_
                      refine WC.reg [0] (by kernel_rfl) (by kernel_rfl) ?_
                      refine WR.runk [0] [] [6] (L' := [(6, .bool false)]) (w' := w425) (by kernel_rfl) ?_
                      refine WR.nil ?_
                      refine At.go ?_
                      refine WC.ret (by kernel_rfl) ?_
                      refine At.thenRet ?_
                      obtain rfl := Option.some.inj H
                      have hS : Sat w425 (rf w0) [] := hS.sel [] (by kernel_rfl)
                      exact At.body [.bool false] (by kernel_rfl) ⟨_, rfl, rfl, hS⟩
                    · replace H := ite_f H hb530
                      refine WC.skip (by kernel_rfl) ?_
                      refine At.go ?_
                      refine WC.seq (by kernel_rfl) ?_
                      refine WC.seq (by kernel_rfl) ?_
                      refine WC.reg [0, 1, 2] (by kernel_rfl) (by kernel_rfl) ?_
                      refine WR.runk [0, 1, 2] [] [0, 1, 8, 109, 110] (L' := [(0, .int .i64 a0), (1, .slice A1 l1.length c1), (8, .pointer (some ⟨b355, 0, none⟩)), (109, .int .i64 (l1.length : Int)), (110, .int .i64 0)]) (w' := w425) (by kernel_rfl) ?_
                      refine WR.nil ?_
                      refine At.go ?_
                      refine WC.block (by kernel_rfl) ?_
                      have hS : Sat w425 (rf w0) [O49 b355 y352] := hS.sel [0] (by kernel_rfl)
                      obtain ⟨o546, e547, H⟩ := bind_ex H
                      refine WC.loop (by kernel_rfl) ?_
                      refine WL.weaken [0, 1, 8, 109, 110] (L' := [(0, .int .i64 a0), (1, .slice A1 l1.length c1), (8, .pointer (some ⟨b355, 0, none⟩)), (109, .int .i64 (l1.length : Int)), (110, .int .i64 0)]) (by kernel_rfl) ?_
                      refine colophonlaw03_SparseHas.l6_ok w0 a0 A1 c1 l1 y352 b355 R1 o546 (fun o548 w550 ho551 hS => ?_) (fun o552 w554 ho555 hS => ?_) FU 0 _ hS e547
                      · subst ho551
                        dsimp only at H
                        refine At.blockRet ?_
                        refine At.thenRet ?_
                        obtain rfl := Option.some.inj H
                        have hS : Sat w550 (rf w0) [] := hS.sel [] (by kernel_rfl)
                        exact At.body [.bool o548] (by kernel_rfl) ⟨_, rfl, rfl, hS⟩
                      · subst ho555
                        dsimp only at H
                        refine At.hit ?_
                        refine At.go ?_
                        refine WC.seq (by kernel_rfl) ?_
                        refine WC.reg [0, 1, 2, 3, 4, 5, 6] (by kernel_rfl) (by kernel_rfl) ?_
                        refine WR.runk [0] [1, 2, 3, 4, 5, 6] [0, 1, 8, 123] (L' := [(0, .int .i64 a0), (1, .slice A1 l1.length c1), (8, .pointer (some ⟨b355, 0, none⟩)), (123, .pointer (some ⟨b355, 0, none⟩))]) (w' := w554) (by kernel_rfl) ?_
                        obtain ⟨r556, e557, H⟩ := bind_ex H
                        refine WR.st (St.call (by kernel_rfl) (f := 17) (args := #[.pointer (some ⟨b355, 0, none⟩)]) (by kernel_rfl) (sparse_Set_Words.calls w554 (.pointer (some ⟨b355, 0, none⟩)) (some y352) (Sat.rdAny 0 hS rfl (fun _ h => O49.rd _ _ _ h)) r556 e557) ?_)
                        rintro _ w563 ⟨A565, c566, A567, c568, rfl, hS564⟩
                        have hS : Sat w563 (rf w0) [osl 43 (r0 (.int .u64)) 1 A565 c566 r556.1, osl 43 (r0 (.int .u64)) 1 A567 c568 r556.2, O49 b355 y352] := hS.ext hS564
                        refine WR.runk [2, 3, 4, 5, 6] [] [0, 1, 8, 12, 13] (L' := [(0, .int .i64 a0), (1, .slice A1 l1.length c1), (8, .pointer (some ⟨b355, 0, none⟩)), (12, .slice A565 r556.1.length c566), (13, .slice A567 r556.2.length c568)]) (w' := w563) (by kernel_rfl) ?_
                        refine WR.nil ?_
                        refine At.go ?_
                        refine WC.seq (by kernel_rfl) ?_
                        refine WC.reg [0, 1, 2, 3, 4, 5, 6, 7] (by kernel_rfl) (by kernel_rfl) ?_
                        refine WR.runk [0, 1] [2, 3, 4, 5, 6, 7] [1, 8, 12, 13, 128, 129] (L' := [(1, .slice A1 l1.length c1), (8, .pointer (some ⟨b355, 0, none⟩)), (12, .slice A565 r556.1.length c566), (13, .slice A567 r556.2.length c568), (128, .int .i64 a0), (129, .slice A1 l1.length c1)]) (w' := w563) (by kernel_rfl) ?_
                        obtain ⟨r569, e570, H⟩ := bind_ex H
                        refine WR.st (St.call (by kernel_rfl) (f := 18) (args := #[.int .i64 a0, .slice A1 l1.length c1]) (by kernel_rfl) (colophonref03_Words.calls w563 a0 A1 c1 l1 (rdS.up R1 hS.sub0) r569 e570) ?_)
                        rintro _ w576 ⟨A578, c579, A580, c581, rfl, hS577⟩
                        have hS : Sat w576 (rf w0) [osl 43 (r0 (.int .u64)) 1 A578 c579 r569.1, osl 43 (r0 (.int .u64)) 1 A580 c581 r569.2, osl 43 (r0 (.int .u64)) 1 A565 c566 r556.1, osl 43 (r0 (.int .u64)) 1 A567 c568 r556.2, O49 b355 y352] := hS.ext hS577
                        refine WR.runk [3, 4, 5, 6, 7] [] [1, 8, 12, 13, 14, 15] (L' := [(1, .slice A1 l1.length c1), (8, .pointer (some ⟨b355, 0, none⟩)), (12, .slice A565 r556.1.length c566), (13, .slice A567 r556.2.length c568), (14, .slice A578 r569.1.length c579), (15, .slice A580 r569.2.length c581)]) (w' := w576) (by kernel_rfl) ?_
                        refine WR.nil ?_
                        refine At.go ?_
                        refine WC.seq (by kernel_rfl) ?_
                        refine WC.reg [0, 1, 2, 3, 4, 5, 6, 7, 8, 9, 10, 11, 12, 13, 14, 15, 16, 17, 18, 19, 20] (by kernel_rfl) (by kernel_rfl) ?_
                        refine WR.runk [0, 1] [2, 3, 4, 5, 6, 7, 8, 9, 10, 11, 12, 13, 14, 15, 16, 17, 18, 19, 20] [1, 8, 13, 15, 133, 134] (L' := [(1, .slice A1 l1.length c1), (8, .pointer (some ⟨b355, 0, none⟩)), (13, .slice A567 r556.2.length c568), (15, .slice A580 r569.2.length c581), (133, .slice A565 r556.1.length c566), (134, .slice A578 r569.1.length c579)]) (w' := w576) (by kernel_rfl) ?_
                        obtain ⟨r582, e583, H⟩ := bind_ex H
                        refine WR.st (St.call (by kernel_rfl) (f := 19) (args := #[.slice A565 r556.1.length c566, .slice A578 r569.1.length c579]) (by kernel_rfl) (colophonref01_Same.calls w576 A565 c566 r556.1 (Sat.rdAt 2 hS rfl) A578 c579 r569.1 (Sat.rdAt 0 hS rfl) r582 e583) ?_)
                        rintro _ w589 ⟨rfl, hS590⟩
                        have hS : Sat w589 (rf w0) [osl 43 (r0 (.int .u64)) 1 A578 c579 r569.1, osl 43 (r0 (.int .u64)) 1 A580 c581 r569.2, osl 43 (r0 (.int .u64)) 1 A565 c566 r556.1, osl 43 (r0 (.int .u64)) 1 A567 c568 r556.2, O49 b355 y352] := hS.ext hS590
                        refine WR.runk [3] [4, 5, 6, 7, 8, 9, 10, 11, 12, 13, 14, 15, 16, 17, 18, 19, 20] [1, 8, 13, 15, 136] (L' := [(1, .slice A1 l1.length c1), (8, .pointer (some ⟨b355, 0, none⟩)), (13, .slice A567 r556.2.length c568), (15, .slice A580 r569.2.length c581), (136, .bool r582)]) (w' := w589) (by kernel_rfl) ?_
                        refine WR.split 136 (b := r582) (by kernel_rfl) (fun hb591 => ?_) (fun hb591 => ?_)
                        · replace H := ite_t H hb591
                          refine WR.runk [4, 5] [6, 7, 8, 9, 10, 11, 12, 13, 14, 15, 16, 17, 18, 19, 20] [1, 8, 136, 137, 138] (L' := [(1, .slice A1 l1.length c1), (8, .pointer (some ⟨b355, 0, none⟩)), (136, .bool true), (137, .slice A567 r556.2.length c568), (138, .slice A580 r569.2.length c581)]) (w' := w589) (by kernel_rfl) ?_
                          obtain ⟨r592, e593, H⟩ := bind_ex H
                          refine WR.st (St.call (by kernel_rfl) (f := 19) (args := #[.slice A567 r556.2.length c568, .slice A580 r569.2.length c581]) (by kernel_rfl) (colophonref01_Same.calls w589 A567 c568 r556.2 (Sat.rdAt 3 hS rfl) A580 c581 r569.2 (Sat.rdAt 1 hS rfl) r592 e593) ?_)
                          rintro _ w599 ⟨rfl, hS600⟩
                          have hS : Sat w599 (rf w0) [osl 43 (r0 (.int .u64)) 1 A578 c579 r569.1, osl 43 (r0 (.int .u64)) 1 A580 c581 r569.2, osl 43 (r0 (.int .u64)) 1 A565 c566 r556.1, osl 43 (r0 (.int .u64)) 1 A567 c568 r556.2, O49 b355 y352] := hS.ext hS600
                          refine WR.runk [7, 8] [9, 10, 11, 12, 13, 14, 15, 16, 17, 18, 19, 20] [1, 8, 141] (L' := [(1, .slice A1 l1.length c1), (8, .pointer (some ⟨b355, 0, none⟩)), (141, .bool r592)]) (w' := w599) (by kernel_rfl) ?_
                          refine WR.split 141 (b := r592) (by kernel_rfl) (fun hb601 => ?_) (fun hb601 => ?_)
                          · replace H := ite_t H hb601
                            refine WR.runk [9, 10, 11] [12, 13, 14, 15, 16, 17, 18, 19, 20] [8, 141, 142, 144] (L' := [(8, .pointer (some ⟨b355, 0, none⟩)), (141, .bool true), (142, .pointer (some ⟨b355, 0, none⟩)), (144, .int .i64 (l1.length : Int))]) (w' := w599) (by kernel_rfl) ?_
                            obtain ⟨r602, e603, H⟩ := bind_ex H
                            refine WR.st (St.call (by kernel_rfl) (f := 12) (args := #[.pointer (some ⟨b355, 0, none⟩), .int .i64 (l1.length : Int)]) (by kernel_rfl) (sparse_Set_At.calls w599 (.pointer (some ⟨b355, 0, none⟩)) (some y352) (Sat.rdAny 4 hS rfl (fun _ h => O49.rd _ _ _ h)) (l1.length : Int) r602 e603) ?_)
                            rintro _ w609 ⟨rfl, hS610⟩
                            have hS : Sat w609 (rf w0) [osl 43 (r0 (.int .u64)) 1 A578 c579 r569.1, osl 43 (r0 (.int .u64)) 1 A580 c581 r569.2, osl 43 (r0 (.int .u64)) 1 A565 c566 r556.1, osl 43 (r0 (.int .u64)) 1 A567 c568 r556.2, O49 b355 y352] := hS.ext hS610
                            refine WR.runk [13, 14, 15] [16, 17, 18, 19, 20] [8, 148] (L' := [(8, .pointer (some ⟨b355, 0, none⟩)), (148, .bool (r602 == (-1)))]) (w' := w609) (by kernel_rfl) ?_
                            refine WR.split 148 (b := (r602 == (-1))) (by kernel_rfl) (fun hb611 => ?_) (fun hb611 => ?_)
                            · replace H := ite_t H hb611
                              refine WR.runk [16] [17, 18, 19, 20] [148, 149] (L' := [(148, .bool true), (149, .pointer (some ⟨b355, 0, none⟩))]) (w' := w609) (by kernel_rfl) ?_
                              obtain ⟨r612, e613, H⟩ := bind_ex H
                              refine WR.st (St.call (by kernel_rfl) (f := 12) (args := #[.pointer (some ⟨b355, 0, none⟩), .int .i64 (-1)]) (by kernel_rfl) (sparse_Set_At.calls w609 (.pointer (some ⟨b355, 0, none⟩)) (some y352) (Sat.rdAny 4 hS rfl (fun _ h => O49.rd _ _ _ h)) (-1) r612 e613) ?_)
                              rintro _ w619 ⟨rfl, hS620⟩
                              have hS : Sat w619 (rf w0) [osl 43 (r0 (.int .u64)) 1 A578 c579 r569.1, osl 43 (r0 (.int .u64)) 1 A580 c581 r569.2, osl 43 (r0 (.int .u64)) 1 A565 c566 r556.1, osl 43 (r0 (.int .u64)) 1 A567 c568 r556.2, O49 b355 y352] := hS.ext hS620
                              refine WR.runk [18, 19, 20] [] [6] (L' := [(6, .bool (r612 == (-1)))]) (w' := w619) (by kernel_rfl) ?_
                              refine WR.nil ?_
                              refine At.go ?_
                              refine WC.ret (by kernel_rfl) ?_
                              obtain rfl := Option.some.inj H
                              have hS : Sat w619 (rf w0) [] := hS.sel [] (by kernel_rfl)
                              exact At.body [.bool (r612 == (-1))] (by kernel_rfl) ⟨_, rfl, rfl, hS⟩
                            · replace H := ite_f H hb611
                              refine WR.runk [16, 17, 18, 19, 20] [] [6] (L' := [(6, .bool false)]) (w' := w609) (by kernel_rfl) ?_
                              refine WR.nil ?_
                              refine At.go ?_
                              refine WC.ret (by kernel_rfl) ?_
                              obtain rfl := Option.some.inj H
                              have hS : Sat w609 (rf w0) [] := hS.sel [] (by kernel_rfl)
                              exact At.body [.bool false] (by kernel_rfl) ⟨_, rfl, rfl, hS⟩
                          · replace H := ite_f H hb601
                            refine WR.runk [9, 10, 11, 12, 13, 14, 15, 16, 17, 18, 19, 20] [] [6] (L' := [(6, .bool false)]) (w' := w599) (by kernel_rfl) ?_
                            refine WR.nil ?_
                            refine At.go ?_
                            refine WC.ret (by kernel_rfl) ?_
                            obtain rfl := Option.some.inj H
                            have hS : Sat w599 (rf w0) [] := hS.sel [] (by kernel_rfl)
                            exact At.body [.bool false] (by kernel_rfl) ⟨_, rfl, rfl, hS⟩
                        · replace H := ite_f H hb591
                          refine WR.runk [4, 5, 6, 7, 8, 9, 10, 11, 12, 13, 14, 15, 16, 17, 18, 19, 20] [] [6] (L' := [(6, .bool false)]) (w' := w589) (by kernel_rfl) ?_
                          refine WR.nil ?_
                          refine At.go ?_
                          refine WC.ret (by kernel_rfl) ?_
                          obtain rfl := Option.some.inj H
                          have hS : Sat w589 (rf w0) [] := hS.sel [] (by kernel_rfl)
                          exact At.body [.bool false] (by kernel_rfl) ⟨_, rfl, rfl, hS⟩
end Go.Proofs.Ytomeiphaohjeoaa
