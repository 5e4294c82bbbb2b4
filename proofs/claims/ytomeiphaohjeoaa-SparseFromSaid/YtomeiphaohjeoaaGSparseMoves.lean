/-
  Printed by gen.py (my own tool): for each Go function a plain Lean function and the proof that a call of it does what that function says.
-/
import Derived.Test.YtomeiphaohjeoaaGP1c
set_option linter.unusedVariables false
set_option linter.unusedSimpArgs false
set_option maxRecDepth 100000
namespace Go.Proofs.Ytomeiphaohjeoaa
open Go Go.Gol
/-! ### 3 colophon/colophonlaw03.SparseMoves -/
def colophonlaw03_SparseMoves.l1 (l1 : List Int) (a2 : Int) : Nat → (List Int) → Int → Option (List Int)
  | 0, _, _ => none
  | k + 1, x8_l1, x36_l1 => (if decide (x36_l1 < (l1.length : Int)) then ((at? l1 x36_l1).bind fun v24 => ((app? 17592186044416 x8_l1 ([wi (v24 + (Int.tmod (wi a2) 5000))] : List Int)).bind fun y29 => colophonlaw03_SparseMoves.l1 l1 a2 k y29 (wi (x36_l1 + 1)))) else some x8_l1)
def colophonlaw03_SparseMoves.l2 (l1 : List Int) (a2 : Int) (y79 : Int × Int × Int × (Option (Int × (List Int) × (List Int) × Int)) × (Option (Int × Int × (List Int))) × (Option (Int × Int × (List Int)))) (y84 : Int × Int × Int × (Option (Int × (List Int) × (List Int) × Int)) × (Option (Int × Int × (List Int))) × (Option (Int × Int × (List Int)))) : Nat → Int → Option (Sum Bool Unit)
  | 0, _ => none
  | k + 1, x78_l2 => (if decide (x78_l2 < (l1.length : Int)) then ((sparse_Set_At.f (some y84) x78_l2).bind fun r92 => ((sparse_Set_At.f (some y79) x78_l2).bind fun r101 => (if (r92 != (wi (r101 + (Int.tmod (wi a2) 5000)))) then some (.inl false) else ((at? l1 x78_l2).bind fun v111 => ((sparse_Set_Rank.f (some y84) (wi (v111 + (Int.tmod (wi a2) 5000)))).bind fun r113 => ((sparse_Set_Rank.f (some y79) v111).bind fun r122 => (if (r113 != r122) then some (.inl false) else ((sparse_Set_Has.f (some y84) (wi (v111 + (Int.tmod (wi a2) 5000)))).bind fun r132 => (if (!r132) then some (.inl false) else colophonlaw03_SparseMoves.l2 l1 a2 y79 y84 k (wi (x78_l2 + 1))))))))))) else some (.inr ()))
def colophonlaw03_SparseMoves.f (a0 : Int) (l1 : List Int) (a2 : Int) : Option Bool := (colophonlaw03_first.f.bind fun r1 => (if (!r1) then some false else (if decide ((l1.length : Int) > 500) then some true else (if decide (a0 > 20000) then some true else ((colophonref03_Right.f a0 l1).bind fun r13 => (if (!r13) then some true else ((colophonlaw03_SparseMoves.l1 l1 a2 FU ([] : List Int) 0).bind fun o33 => ((sparse_New.f a0 l1).bind fun r38 => ((sparse_New.f (wi (a0 + (Int.tmod (wi a2) 5000))) o33).bind fun r48 => (if (r38.2 != 0) then some false else (if (r48.2 != 0) then some false else ((sparse_Set_Bound.f r48.1).bind fun r60 => ((sparse_Set_Bound.f r38.1).bind fun r69 => (if (r60 != (wi (r69 + (Int.tmod (wi a2) 5000)))) then some false else (r38.1.bind fun y79 => (r48.1.bind fun y84 => ((colophonlaw03_SparseMoves.l2 l1 a2 y79 y84 FU 0).bind fun o142 => (match o142 with | .inl o144 => some o144 | .inr o148 => ((sparse_Set_Rank.f (some y84) (Int.tmod (wi a2) 5000)).bind fun r152 => some (r152 == 0))))))))))))))))))))
def colophonlaw03_SparseMoves.post (w : World) (r : Bool) (v : Value) (w' : World) : Prop := v = (.bool r : Value) ∧ Sat w' (rf w) []
theorem colophonlaw03_SparseMoves.l1_ok {Q} (w0 : World) (a0 : Int) (A1 : Option Addr) (c1 : Nat) (l1 : List Int) (a2 : Int) (R1 : rdS (r0 (.int .i64)) 1 (hp w0) A1 c1 l1) (out : (List Int)) (hn0 : ∀ (A8_q : Option Addr) (c8_q : Nat) (w : World), Sat w (rf w0) [osl 3 (r0 (.int .i64)) 1 A8_q c8_q out] → At Q (.exit 0) 123 [(0, .int .i64 a0), (1, .slice A1 l1.length c1), (7, .int .i64 (Int.tmod (wi a2) 5000)), (8, .slice A8_q out.length c8_q)] w) :
    ∀ (k : Nat) (x8_l1 : List Int) (x36_l1 : Int) (A8_l1 : Option Addr) (c8_l1 : Nat) (w : World), Sat w (rf w0) [osl 3 (r0 (.int .i64)) 1 A8_l1 c8_l1 x8_l1] → colophonlaw03_SparseMoves.l1 l1 a2 k x8_l1 x36_l1 = some out → WL Try.prog (cbody (cbody (cr (cl (cr (cr (cr (cr (cr C3))))))))) Q 123 [(0, .int .i64 a0), (1, .slice A1 l1.length c1), (7, .int .i64 (Int.tmod (wi a2) 5000)), (8, .slice A8_l1 x8_l1.length c8_l1), (34, .slice A1 l1.length c1), (35, .int .i64 (l1.length : Int)), (36, .int .i64 x36_l1)] w := by
  intro k
  induction k with
  | zero => intro x8_l1 x36_l1 A8_l1 c8_l1 w hS H; exact absurd (show none = some out from H) (by simp)
  | succ k ih =>
    intro x8_l1 x36_l1 A8_l1 c8_l1 w hS H
    unfold colophonlaw03_SparseMoves.l1 at H
    refine WL.round ?_
    refine WC.seq (by kernel_rfl) ?_
    refine WC.reg [0] (by kernel_rfl) (by kernel_rfl) ?_
    refine WR.runk [0] [] [0, 1, 7, 8, 34, 35, 36, 37] (L' := [(0, .int .i64 a0), (1, .slice A1 l1.length c1), (7, .int .i64 (Int.tmod (wi a2) 5000)), (8, .slice A8_l1 x8_l1.length c8_l1), (34, .slice A1 l1.length c1), (35, .int .i64 (l1.length : Int)), (36, .int .i64 x36_l1), (37, .bool (decide (x36_l1 < (l1.length : Int))))]) (w' := w) (by kernel_rfl) ?_
    refine WR.nil ?_
    refine At.go ?_
    refine WC.seq (by kernel_rfl) ?_
    refine WC.cond (by kernel_rfl) (decide (x36_l1 < (l1.length : Int))) (by kernel_rfl) (by kernel_rfl) (fun hb23 => ?_) (fun hb23 => ?_)
    · replace H := ite_t H hb23
      refine WC.skip (by kernel_rfl) ?_
      refine At.go ?_
      refine WC.seq (by kernel_rfl) ?_
      refine WC.block (by kernel_rfl) ?_
      refine WC.seq (by kernel_rfl) ?_
      refine WC.reg [0, 1, 2] (by kernel_rfl) (by kernel_rfl) ?_
      refine WR.runk [] [0, 1, 2] [0, 1, 7, 8, 34, 35, 36] (L' := [(0, .int .i64 a0), (1, .slice A1 l1.length c1), (7, .int .i64 (Int.tmod (wi a2) 5000)), (8, .slice A8_l1 x8_l1.length c8_l1), (34, .slice A1 l1.length c1), (35, .int .i64 (l1.length : Int)), (36, .int .i64 x36_l1)]) (w' := w) (by kernel_rfl) ?_
      obtain ⟨v24, e25, H⟩ := bind_ex H
      refine WR.st (St.ofP (PSt.idx (k := .i64) (.tmp 34) (.tmp 36) (by kernel_rfl) (by kernel_rfl) E22 (by kernel_rfl) (by kernel_rfl) (rdS.up R1 hS.sub0) e25 ?_))
      refine WR.runk [] [1, 2] [0, 1, 7, 8, 34, 35, 36, 38] (L' := [(0, .int .i64 a0), (1, .slice A1 l1.length c1), (7, .int .i64 (Int.tmod (wi a2) 5000)), (8, .slice A8_l1 x8_l1.length c8_l1), (34, .slice A1 l1.length c1), (35, .int .i64 (l1.length : Int)), (36, .int .i64 x36_l1), (38, .pointer (some (adr A1 x36_l1.toNat 1)))]) (w' := w) (by kernel_rfl) ?_
      refine WR.st (St.ofR (RSt.loadInt (t := 3) (.tmp 38) (by kernel_rfl) (by kernel_rfl) (by kernel_rfl) (by kernel_rfl) (rdS.up R1 hS.sub0) e25 ?_))
      refine WR.runk [2] [] [0, 1, 7, 8, 10, 34, 35, 36] (L' := [(0, .int .i64 a0), (1, .slice A1 l1.length c1), (7, .int .i64 (Int.tmod (wi a2) 5000)), (8, .slice A8_l1 x8_l1.length c8_l1), (10, .int .i64 v24), (34, .slice A1 l1.length c1), (35, .int .i64 (l1.length : Int)), (36, .int .i64 x36_l1)]) (w' := w) (by kernel_rfl) ?_
      refine WR.nil ?_
      refine At.go ?_
      refine WC.reg [0, 1, 2, 3, 4, 5, 6] (by kernel_rfl) (by kernel_rfl) ?_
      refine WR.runk [0, 1, 2, 3] [4, 5, 6] [0, 1, 7, 8, 34, 35, 36, 40, 43] (L' := [(0, .int .i64 a0), (1, .slice A1 l1.length c1), (7, .int .i64 (Int.tmod (wi a2) 5000)), (8, .slice A8_l1 x8_l1.length c8_l1), (34, .slice A1 l1.length c1), (35, .int .i64 (l1.length : Int)), (36, .int .i64 x36_l1), (40, .slice A8_l1 x8_l1.length c8_l1), (43, .int .i64 (wi (v24 + (Int.tmod (wi a2) 5000))))]) (w' := w) (by kernel_rfl) ?_
      refine WR.st (St.box hS (by kernel_rfl) (.cells #[.int .i64 (wi (v24 + (Int.tmod (wi a2) 5000)))] 3) (fun b26 => .slice (some ⟨b26, 0, none⟩) 1 1) (fun _ => by kernel_rfl) (fun b26 w27 hS => ?_))
      refine WR.runk [] [5, 6] [0, 1, 7, 8, 34, 35, 36, 40, 44] (L' := [(0, .int .i64 a0), (1, .slice A1 l1.length c1), (7, .int .i64 (Int.tmod (wi a2) 5000)), (8, .slice A8_l1 x8_l1.length c8_l1), (34, .slice A1 l1.length c1), (35, .int .i64 (l1.length : Int)), (36, .int .i64 x36_l1), (40, .slice A8_l1 x8_l1.length c8_l1), (44, .slice (some ⟨b26, 0, none⟩) 1 1)]) (w' := w27) (by kernel_rfl) ?_
      have hS : Sat w27 (rf w0) [osl 3 (r0 (.int .i64)) 1 A8_l1 c8_l1 x8_l1, pts b26 (.cells #[.int .i64 (wi (v24 + (Int.tmod (wi a2) 5000)))] 3 (0, 0))] := hS.sel [1, 0] (by kernel_rfl)
      obtain ⟨y29, e28, H⟩ := bind_ex H
      refine WR.st (St.append' (.tmp 40) (.tmp 44) (by kernel_rfl) (by kernel_rfl) E22 (r0_one _) hS (by kernel_rfl) (by kernel_rfl) (Sat.ptsAt 1 (r0 (.int .i64)) 1 ([wi (v24 + (Int.tmod (wi a2) 5000))] : List Int) hS rfl rfl (rdL.cons1 rfl (rdL.nil _ _))) 17592186044416 (by kernel_rfl) (by kernel_rfl) e28 (fun A30 c31 w32 hS => ?_))
      refine WR.runk [6] [] [0, 1, 7, 8, 34, 35, 36] (L' := [(0, .int .i64 a0), (1, .slice A1 l1.length c1), (7, .int .i64 (Int.tmod (wi a2) 5000)), (8, .slice A30 y29.length c31), (34, .slice A1 l1.length c1), (35, .int .i64 (l1.length : Int)), (36, .int .i64 x36_l1)]) (w' := w32) (by kernel_rfl) ?_
      refine WR.nil ?_
      refine At.blockNormal ?_
      refine At.go ?_
      refine WC.reg [0, 1] (by kernel_rfl) (by kernel_rfl) ?_
      refine WR.runk [0, 1] [] [0, 1, 7, 8, 34, 35, 36] (L' := [(0, .int .i64 a0), (1, .slice A1 l1.length c1), (7, .int .i64 (Int.tmod (wi a2) 5000)), (8, .slice A30 y29.length c31), (34, .slice A1 l1.length c1), (35, .int .i64 (l1.length : Int)), (36, .int .i64 (wi (x36_l1 + 1)))]) (w' := w32) (by kernel_rfl) ?_
      refine WR.nil ?_
      have hS : Sat w32 (rf w0) [osl 3 (r0 (.int .i64)) 1 A30 c31 y29] := hS.sel [0] (by kernel_rfl)
      refine At.again ?_
      refine WL.weaken [0, 1, 7, 8, 34, 35, 36] (L' := [(0, .int .i64 a0), (1, .slice A1 l1.length c1), (7, .int .i64 (Int.tmod (wi a2) 5000)), (8, .slice A30 y29.length c31), (34, .slice A1 l1.length c1), (35, .int .i64 (l1.length : Int)), (36, .int .i64 (wi (x36_l1 + 1)))]) (by kernel_rfl) ?_
      exact ih y29 (wi (x36_l1 + 1)) A30 c31 _ hS H
    · replace H := ite_f H hb23
      refine WC.exit (by kernel_rfl) ?_
      refine At.thenExit ?_
      refine At.thenExit ?_
      obtain rfl := Option.some.inj H
      have hS : Sat w (rf w0) [osl 3 (r0 (.int .i64)) 1 A8_l1 c8_l1 x8_l1] := hS.sel [0] (by kernel_rfl)
      refine At.weaken [0, 1, 7, 8] (L' := [(0, .int .i64 a0), (1, .slice A1 l1.length c1), (7, .int .i64 (Int.tmod (wi a2) 5000)), (8, .slice A8_l1 x8_l1.length c8_l1)]) (by kernel_rfl) ?_
      exact hn0 A8_l1 c8_l1 _ hS
theorem colophonlaw03_SparseMoves.l2_ok {Q} (w0 : World) (A1 : Option Addr) (c1 : Nat) (l1 : List Int) (a2 : Int) (y79 : Int × Int × Int × (Option (Int × (List Int) × (List Int) × Int)) × (Option (Int × Int × (List Int))) × (Option (Int × Int × (List Int)))) (b82 : Nat) (y84 : Int × Int × Int × (Option (Int × (List Int) × (List Int) × Int)) × (Option (Int × Int × (List Int))) × (Option (Int × Int × (List Int)))) (b87 : Nat) (R1 : rdS (r0 (.int .i64)) 1 (hp w0) A1 c1 l1) (out : Sum Bool Unit) (hn0 : ∀ (o0 : Bool) (w : World), out = (.inl o0) → Sat w (rf w0) [O49 b82 y79, O49 b87 y84] → At Q .ret 123 [(6, .bool o0)] w) (hn1 : ∀ (o1 : Unit) (w : World), out = (.inr o1) → Sat w (rf w0) [O49 b82 y79, O49 b87 y84] → At Q (.exit 2) 123 [(7, .int .i64 (Int.tmod (wi a2) 5000)), (13, .pointer (some ⟨b87, 0, none⟩))] w) :
    ∀ (k : Nat) (x78_l2 : Int) (w : World), Sat w (rf w0) [O49 b82 y79, O49 b87 y84] → colophonlaw03_SparseMoves.l2 l1 a2 y79 y84 k x78_l2 = some out → WL Try.prog (cbody (cbody (cr (cl (cr (cr (cr (cr (cr (cr (cr (cr (cr C3))))))))))))) Q 123 [(1, .slice A1 l1.length c1), (7, .int .i64 (Int.tmod (wi a2) 5000)), (11, .pointer (some ⟨b82, 0, none⟩)), (13, .pointer (some ⟨b87, 0, none⟩)), (77, .int .i64 (l1.length : Int)), (78, .int .i64 x78_l2)] w := by
  intro k
  induction k with
  | zero => intro x78_l2 w hS H; exact absurd (show none = some out from H) (by simp)
  | succ k ih =>
    intro x78_l2 w hS H
    unfold colophonlaw03_SparseMoves.l2 at H
    refine WL.round ?_
    refine WC.seq (by kernel_rfl) ?_
    refine WC.reg [0] (by kernel_rfl) (by kernel_rfl) ?_
    refine WR.runk [0] [] [1, 7, 11, 13, 77, 78, 79] (L' := [(1, .slice A1 l1.length c1), (7, .int .i64 (Int.tmod (wi a2) 5000)), (11, .pointer (some ⟨b82, 0, none⟩)), (13, .pointer (some ⟨b87, 0, none⟩)), (77, .int .i64 (l1.length : Int)), (78, .int .i64 x78_l2), (79, .bool (decide (x78_l2 < (l1.length : Int))))]) (w' := w) (by kernel_rfl) ?_
    refine WR.nil ?_
    refine At.go ?_
    refine WC.seq (by kernel_rfl) ?_
    refine WC.cond (by kernel_rfl) (decide (x78_l2 < (l1.length : Int))) (by kernel_rfl) (by kernel_rfl) (fun hb89 => ?_) (fun hb89 => ?_)
    · replace H := ite_t H hb89
      refine WC.skip (by kernel_rfl) ?_
      refine At.go ?_
      refine WC.seq (by kernel_rfl) ?_
      refine WC.block (by kernel_rfl) ?_
      refine WC.seq (by kernel_rfl) ?_
      refine WC.reg [0, 1] (by kernel_rfl) (by kernel_rfl) ?_
      refine WR.runk [0, 1] [] [1, 7, 11, 13, 15, 77, 78] (L' := [(1, .slice A1 l1.length c1), (7, .int .i64 (Int.tmod (wi a2) 5000)), (11, .pointer (some ⟨b82, 0, none⟩)), (13, .pointer (some ⟨b87, 0, none⟩)), (15, .int .i64 x78_l2), (77, .int .i64 (l1.length : Int)), (78, .int .i64 x78_l2)]) (w' := w) (by kernel_rfl) ?_
      refine WR.nil ?_
      refine At.go ?_
      refine WC.seq (by kernel_rfl) ?_
      refine WC.drawn (by kernel_rfl) (by kernel_rfl) 37 (by kernel_rfl) (fun w90 hw91 => ?_)
      have hS := hS.heap hw91.1 hw91.2
      refine WD.weaken [1, 7, 11, 13, 15, 77, 78] (L' := [(1, .slice A1 l1.length c1), (7, .int .i64 (Int.tmod (wi a2) 5000)), (11, .pointer (some ⟨b82, 0, none⟩)), (13, .pointer (some ⟨b87, 0, none⟩)), (15, .int .i64 x78_l2), (77, .int .i64 (l1.length : Int)), (78, .int .i64 x78_l2)]) (by kernel_rfl) ?_
      refine WD.pure (i := 0) (v := .pointer (some ⟨b87, 0, none⟩)) (by kernel_rfl) (by kernel_rfl) (fun _ => by kernel_rfl) ?_
      refine WD.weaken [1, 7, 11, 13, 15, 77, 78, 81] (L' := [(1, .slice A1 l1.length c1), (7, .int .i64 (Int.tmod (wi a2) 5000)), (11, .pointer (some ⟨b82, 0, none⟩)), (13, .pointer (some ⟨b87, 0, none⟩)), (15, .int .i64 x78_l2), (77, .int .i64 (l1.length : Int)), (78, .int .i64 x78_l2), (81, .pointer (some ⟨b87, 0, none⟩))]) (by kernel_rfl) ?_
      refine WD.pure (i := 1) (v := .int .i64 x78_l2) (by kernel_rfl) (by kernel_rfl) (fun _ => by kernel_rfl) ?_
      refine WD.weaken [1, 7, 11, 13, 15, 77, 78, 81, 82] (L' := [(1, .slice A1 l1.length c1), (7, .int .i64 (Int.tmod (wi a2) 5000)), (11, .pointer (some ⟨b82, 0, none⟩)), (13, .pointer (some ⟨b87, 0, none⟩)), (15, .int .i64 x78_l2), (77, .int .i64 (l1.length : Int)), (78, .int .i64 x78_l2), (81, .pointer (some ⟨b87, 0, none⟩)), (82, .int .i64 x78_l2)]) (by kernel_rfl) ?_
      refine WD.pure (i := 3) (v := .pointer (some ⟨b82, 0, none⟩)) (by kernel_rfl) (by kernel_rfl) (fun _ => by kernel_rfl) ?_
      refine WD.weaken [1, 7, 11, 13, 15, 77, 78, 81, 82, 84] (L' := [(1, .slice A1 l1.length c1), (7, .int .i64 (Int.tmod (wi a2) 5000)), (11, .pointer (some ⟨b82, 0, none⟩)), (13, .pointer (some ⟨b87, 0, none⟩)), (15, .int .i64 x78_l2), (77, .int .i64 (l1.length : Int)), (78, .int .i64 x78_l2), (81, .pointer (some ⟨b87, 0, none⟩)), (82, .int .i64 x78_l2), (84, .pointer (some ⟨b82, 0, none⟩))]) (by kernel_rfl) ?_
      refine WD.pure (i := 4) (v := .int .i64 x78_l2) (by kernel_rfl) (by kernel_rfl) (fun _ => by kernel_rfl) ?_
      refine WD.weaken [1, 7, 11, 13, 15, 77, 78, 81, 82, 84, 85] (L' := [(1, .slice A1 l1.length c1), (7, .int .i64 (Int.tmod (wi a2) 5000)), (11, .pointer (some ⟨b82, 0, none⟩)), (13, .pointer (some ⟨b87, 0, none⟩)), (15, .int .i64 x78_l2), (77, .int .i64 (l1.length : Int)), (78, .int .i64 x78_l2), (81, .pointer (some ⟨b87, 0, none⟩)), (82, .int .i64 x78_l2), (84, .pointer (some ⟨b82, 0, none⟩)), (85, .int .i64 x78_l2)]) (by kernel_rfl) ?_
      refine WD.pure (i := 6) (v := .int .i64 (Int.tmod (wi a2) 5000)) (by kernel_rfl) (by kernel_rfl) (fun _ => by kernel_rfl) ?_
      refine WD.weaken [1, 7, 11, 13, 15, 77, 78, 81, 82, 84, 85, 87] (L' := [(1, .slice A1 l1.length c1), (7, .int .i64 (Int.tmod (wi a2) 5000)), (11, .pointer (some ⟨b82, 0, none⟩)), (13, .pointer (some ⟨b87, 0, none⟩)), (15, .int .i64 x78_l2), (77, .int .i64 (l1.length : Int)), (78, .int .i64 x78_l2), (81, .pointer (some ⟨b87, 0, none⟩)), (82, .int .i64 x78_l2), (84, .pointer (some ⟨b82, 0, none⟩)), (85, .int .i64 x78_l2), (87, .int .i64 (Int.tmod (wi a2) 5000))]) (by kernel_rfl) ?_
      obtain ⟨r92, e93, H⟩ := bind_ex H
      refine WD.act (i := 2) (by kernel_rfl) (St.call (by kernel_rfl) (f := 12) (args := #[.pointer (some ⟨b87, 0, none⟩), .int .i64 x78_l2]) (by kernel_rfl) (sparse_Set_At.calls w90 (.pointer (some ⟨b87, 0, none⟩)) (some y84) (Sat.rdAny 1 hS rfl (fun _ h => O49.rd _ _ _ h)) x78_l2 r92 e93) ?_)
      rintro _ w99 ⟨rfl, hS100⟩
      have hS : Sat w99 (rf w0) [O49 b82 y79, O49 b87 y84] := hS.ext hS100
      refine ⟨(asked.nil _ _), ?_⟩
      refine WD.weaken [1, 7, 11, 13, 15, 77, 78, 83, 84, 85, 87] (L' := [(1, .slice A1 l1.length c1), (7, .int .i64 (Int.tmod (wi a2) 5000)), (11, .pointer (some ⟨b82, 0, none⟩)), (13, .pointer (some ⟨b87, 0, none⟩)), (15, .int .i64 x78_l2), (77, .int .i64 (l1.length : Int)), (78, .int .i64 x78_l2), (83, .int .i64 r92), (84, .pointer (some ⟨b82, 0, none⟩)), (85, .int .i64 x78_l2), (87, .int .i64 (Int.tmod (wi a2) 5000))]) (by kernel_rfl) ?_
      obtain ⟨r101, e102, H⟩ := bind_ex H
      refine WD.act (i := 5) (by kernel_rfl) (St.call (by kernel_rfl) (f := 12) (args := #[.pointer (some ⟨b82, 0, none⟩), .int .i64 x78_l2]) (by kernel_rfl) (sparse_Set_At.calls w99 (.pointer (some ⟨b82, 0, none⟩)) (some y79) (Sat.rdAny 0 hS rfl (fun _ h => O49.rd _ _ _ h)) x78_l2 r101 e102) ?_)
      rintro _ w108 ⟨rfl, hS109⟩
      have hS : Sat w108 (rf w0) [O49 b82 y79, O49 b87 y84] := hS.ext hS109
      refine ⟨(asked.nil _ _), ?_⟩
      refine WD.weaken [1, 7, 11, 13, 15, 77, 78, 83, 86, 87] (L' := [(1, .slice A1 l1.length c1), (7, .int .i64 (Int.tmod (wi a2) 5000)), (11, .pointer (some ⟨b82, 0, none⟩)), (13, .pointer (some ⟨b87, 0, none⟩)), (15, .int .i64 x78_l2), (77, .int .i64 (l1.length : Int)), (78, .int .i64 x78_l2), (83, .int .i64 r92), (86, .int .i64 r101), (87, .int .i64 (Int.tmod (wi a2) 5000))]) (by kernel_rfl) ?_
      refine WD.pure (i := 7) (v := .int .i64 (wi (r101 + (Int.tmod (wi a2) 5000)))) (by kernel_rfl) (by kernel_rfl) (fun _ => by kernel_rfl) ?_
      refine WD.weaken [1, 7, 11, 13, 15, 77, 78, 83, 88] (L' := [(1, .slice A1 l1.length c1), (7, .int .i64 (Int.tmod (wi a2) 5000)), (11, .pointer (some ⟨b82, 0, none⟩)), (13, .pointer (some ⟨b87, 0, none⟩)), (15, .int .i64 x78_l2), (77, .int .i64 (l1.length : Int)), (78, .int .i64 x78_l2), (83, .int .i64 r92), (88, .int .i64 (wi (r101 + (Int.tmod (wi a2) 5000))))]) (by kernel_rfl) ?_
      refine WD.pure (i := 8) (v := .bool (r92 != (wi (r101 + (Int.tmod (wi a2) 5000))))) (by kernel_rfl) (by kernel_rfl) (fun _ => by kernel_rfl) ?_
      refine WD.weaken [1, 7, 11, 13, 15, 77, 78, 89] (L' := [(1, .slice A1 l1.length c1), (7, .int .i64 (Int.tmod (wi a2) 5000)), (11, .pointer (some ⟨b82, 0, none⟩)), (13, .pointer (some ⟨b87, 0, none⟩)), (15, .int .i64 x78_l2), (77, .int .i64 (l1.length : Int)), (78, .int .i64 x78_l2), (89, .bool (r92 != (wi (r101 + (Int.tmod (wi a2) 5000)))))]) (by kernel_rfl) ?_
      refine WD.pure (i := 9) (v := .bool (r92 != (wi (r101 + (Int.tmod (wi a2) 5000))))) (by kernel_rfl) (by kernel_rfl) (fun _ => by kernel_rfl) ?_
      refine WD.weaken [1, 7, 11, 13, 15, 77, 78, 90] (L' := [(1, .slice A1 l1.length c1), (7, .int .i64 (Int.tmod (wi a2) 5000)), (11, .pointer (some ⟨b82, 0, none⟩)), (13, .pointer (some ⟨b87, 0, none⟩)), (15, .int .i64 x78_l2), (77, .int .i64 (l1.length : Int)), (78, .int .i64 x78_l2), (90, .bool (r92 != (wi (r101 + (Int.tmod (wi a2) 5000)))))]) (by kernel_rfl) ?_
      refine WD.split 90 (b := (r92 != (wi (r101 + (Int.tmod (wi a2) 5000))))) (by kernel_rfl) (fun hb110 => ?_) (fun hb110 => ?_)
      · replace H := ite_t H hb110
        refine WD.weaken [1, 7, 11, 13, 15, 77, 78, 90] (L' := [(1, .slice A1 l1.length c1), (7, .int .i64 (Int.tmod (wi a2) 5000)), (11, .pointer (some ⟨b82, 0, none⟩)), (13, .pointer (some ⟨b87, 0, none⟩)), (15, .int .i64 x78_l2), (77, .int .i64 (l1.length : Int)), (78, .int .i64 x78_l2), (90, .bool true)]) (by kernel_rfl) ?_
        refine WD.skip (i := 10) (by kernel_rfl) (by kernel_rfl) ?_
        refine WD.weaken [1, 7, 11, 13, 15, 77, 78, 90, 91] (L' := [(1, .slice A1 l1.length c1), (7, .int .i64 (Int.tmod (wi a2) 5000)), (11, .pointer (some ⟨b82, 0, none⟩)), (13, .pointer (some ⟨b87, 0, none⟩)), (15, .int .i64 x78_l2), (77, .int .i64 (l1.length : Int)), (78, .int .i64 x78_l2), (90, .bool true), (91, undef)]) (by kernel_rfl) ?_
        refine WD.skip (i := 11) (by kernel_rfl) (by kernel_rfl) ?_
        refine WD.weaken [1, 7, 11, 13, 15, 77, 78, 90, 91, 92] (L' := [(1, .slice A1 l1.length c1), (7, .int .i64 (Int.tmod (wi a2) 5000)), (11, .pointer (some ⟨b82, 0, none⟩)), (13, .pointer (some ⟨b87, 0, none⟩)), (15, .int .i64 x78_l2), (77, .int .i64 (l1.length : Int)), (78, .int .i64 x78_l2), (90, .bool true), (91, undef), (92, undef)]) (by kernel_rfl) ?_
        refine WD.skip (i := 12) (by kernel_rfl) (by kernel_rfl) ?_
        refine WD.weaken [1, 7, 11, 13, 15, 77, 78, 90, 91, 92, 93] (L' := [(1, .slice A1 l1.length c1), (7, .int .i64 (Int.tmod (wi a2) 5000)), (11, .pointer (some ⟨b82, 0, none⟩)), (13, .pointer (some ⟨b87, 0, none⟩)), (15, .int .i64 x78_l2), (77, .int .i64 (l1.length : Int)), (78, .int .i64 x78_l2), (90, .bool true), (91, undef), (92, undef), (93, undef)]) (by kernel_rfl) ?_
        refine WD.skip (i := 13) (by kernel_rfl) (by kernel_rfl) ?_
        refine WD.weaken [1, 7, 11, 13, 15, 77, 78, 90, 91, 92, 93, 94] (L' := [(1, .slice A1 l1.length c1), (7, .int .i64 (Int.tmod (wi a2) 5000)), (11, .pointer (some ⟨b82, 0, none⟩)), (13, .pointer (some ⟨b87, 0, none⟩)), (15, .int .i64 x78_l2), (77, .int .i64 (l1.length : Int)), (78, .int .i64 x78_l2), (90, .bool true), (91, undef), (92, undef), (93, undef), (94, undef)]) (by kernel_rfl) ?_
        refine WD.skip (i := 14) (by kernel_rfl) (by kernel_rfl) ?_
        refine WD.weaken [1, 7, 11, 13, 15, 77, 78, 90, 91, 92, 93, 94, 95] (L' := [(1, .slice A1 l1.length c1), (7, .int .i64 (Int.tmod (wi a2) 5000)), (11, .pointer (some ⟨b82, 0, none⟩)), (13, .pointer (some ⟨b87, 0, none⟩)), (15, .int .i64 x78_l2), (77, .int .i64 (l1.length : Int)), (78, .int .i64 x78_l2), (90, .bool true), (91, undef), (92, undef), (93, undef), (94, undef), (95, undef)]) (by kernel_rfl) ?_
        refine WD.skip (i := 15) (by kernel_rfl) (by kernel_rfl) ?_
        refine WD.weaken [1, 7, 11, 13, 15, 77, 78, 90, 91, 92, 93, 94, 95, 96] (L' := [(1, .slice A1 l1.length c1), (7, .int .i64 (Int.tmod (wi a2) 5000)), (11, .pointer (some ⟨b82, 0, none⟩)), (13, .pointer (some ⟨b87, 0, none⟩)), (15, .int .i64 x78_l2), (77, .int .i64 (l1.length : Int)), (78, .int .i64 x78_l2), (90, .bool true), (91, undef), (92, undef), (93, undef), (94, undef), (95, undef), (96, undef)]) (by kernel_rfl) ?_
        refine WD.skip (i := 16) (by kernel_rfl) (by kernel_rfl) ?_
        refine WD.weaken [1, 7, 11, 13, 15, 77, 78, 90, 91, 92, 93, 94, 95, 96, 97] (L' := [(1, .slice A1 l1.length c1), (7, .int .i64 (Int.tmod (wi a2) 5000)), (11, .pointer (some ⟨b82, 0, none⟩)), (13, .pointer (some ⟨b87, 0, none⟩)), (15, .int .i64 x78_l2), (77, .int .i64 (l1.length : Int)), (78, .int .i64 x78_l2), (90, .bool true), (91, undef), (92, undef), (93, undef), (94, undef), (95, undef), (96, undef), (97, undef)]) (by kernel_rfl) ?_
        refine WD.skip (i := 18) (by kernel_rfl) (by kernel_rfl) ?_
        refine WD.weaken [1, 7, 11, 13, 15, 77, 78, 90, 91, 92, 93, 94, 95, 96, 97, 99] (L' := [(1, .slice A1 l1.length c1), (7, .int .i64 (Int.tmod (wi a2) 5000)), (11, .pointer (some ⟨b82, 0, none⟩)), (13, .pointer (some ⟨b87, 0, none⟩)), (15, .int .i64 x78_l2), (77, .int .i64 (l1.length : Int)), (78, .int .i64 x78_l2), (90, .bool true), (91, undef), (92, undef), (93, undef), (94, undef), (95, undef), (96, undef), (97, undef), (99, undef)]) (by kernel_rfl) ?_
        refine WD.skip (i := 19) (by kernel_rfl) (by kernel_rfl) ?_
        refine WD.weaken [1, 7, 11, 13, 15, 77, 78, 90, 91, 92, 93, 94, 95, 96, 97, 99, 100] (L' := [(1, .slice A1 l1.length c1), (7, .int .i64 (Int.tmod (wi a2) 5000)), (11, .pointer (some ⟨b82, 0, none⟩)), (13, .pointer (some ⟨b87, 0, none⟩)), (15, .int .i64 x78_l2), (77, .int .i64 (l1.length : Int)), (78, .int .i64 x78_l2), (90, .bool true), (91, undef), (92, undef), (93, undef), (94, undef), (95, undef), (96, undef), (97, undef), (99, undef), (100, undef)]) (by kernel_rfl) ?_
        refine WD.skip (i := 20) (by kernel_rfl) (by kernel_rfl) ?_
        refine WD.weaken [1, 7, 11, 13, 15, 77, 78, 90, 91, 92, 93, 94, 95, 96, 97, 99, 100, 101] (L' := [(1, .slice A1 l1.length c1), (7, .int .i64 (Int.tmod (wi a2) 5000)), (11, .pointer (some ⟨b82, 0, none⟩)), (13, .pointer (some ⟨b87, 0, none⟩)), (15, .int .i64 x78_l2), (77, .int .i64 (l1.length : Int)), (78, .int .i64 x78_l2), (90, .bool true), (91, undef), (92, undef), (93, undef), (94, undef), (95, undef), (96, undef), (97, undef), (99, undef), (100, undef), (101, undef)]) (by kernel_rfl) ?_
        refine WD.skip (i := 21) (by kernel_rfl) (by kernel_rfl) ?_
        refine WD.weaken [1, 7, 11, 13, 15, 77, 78, 90, 91, 92, 93, 94, 95, 96, 97, 99, 100, 101, 102] (L' := [(1, .slice A1 l1.length c1), (7, .int .i64 (Int.tmod (wi a2) 5000)), (11, .pointer (some ⟨b82, 0, none⟩)), (13, .pointer (some ⟨b87, 0, none⟩)), (15, .int .i64 x78_l2), (77, .int .i64 (l1.length : Int)), (78, .int .i64 x78_l2), (90, .bool true), (91, undef), (92, undef), (93, undef), (94, undef), (95, undef), (96, undef), (97, undef), (99, undef), (100, undef), (101, undef), (102, undef)]) (by kernel_rfl) ?_
        refine WD.skip (i := 22) (by kernel_rfl) (by kernel_rfl) ?_
        refine WD.weaken [1, 7, 11, 13, 15, 77, 78, 90, 91, 92, 93, 94, 95, 96, 97, 99, 100, 101, 102, 103] (L' := [(1, .slice A1 l1.length c1), (7, .int .i64 (Int.tmod (wi a2) 5000)), (11, .pointer (some ⟨b82, 0, none⟩)), (13, .pointer (some ⟨b87, 0, none⟩)), (15, .int .i64 x78_l2), (77, .int .i64 (l1.length : Int)), (78, .int .i64 x78_l2), (90, .bool true), (91, undef), (92, undef), (93, undef), (94, undef), (95, undef), (96, undef), (97, undef), (99, undef), (100, undef), (101, undef), (102, undef), (103, undef)]) (by kernel_rfl) ?_
        refine WD.skip (i := 17) (by kernel_rfl) (by kernel_rfl) ?_
        refine WD.weaken [1, 7, 11, 13, 15, 77, 78, 90, 91, 92, 93, 94, 95, 96, 97, 98, 99, 100, 101, 102, 103] (L' := [(1, .slice A1 l1.length c1), (7, .int .i64 (Int.tmod (wi a2) 5000)), (11, .pointer (some ⟨b82, 0, none⟩)), (13, .pointer (some ⟨b87, 0, none⟩)), (15, .int .i64 x78_l2), (77, .int .i64 (l1.length : Int)), (78, .int .i64 x78_l2), (90, .bool true), (91, undef), (92, undef), (93, undef), (94, undef), (95, undef), (96, undef), (97, undef), (98, undef), (99, undef), (100, undef), (101, undef), (102, undef), (103, undef)]) (by kernel_rfl) ?_
        refine WD.skip (i := 23) (by kernel_rfl) (by kernel_rfl) ?_
        refine WD.weaken [1, 7, 11, 13, 15, 77, 78, 90, 91, 92, 93, 94, 95, 96, 97, 98, 99, 100, 101, 102, 103, 104] (L' := [(1, .slice A1 l1.length c1), (7, .int .i64 (Int.tmod (wi a2) 5000)), (11, .pointer (some ⟨b82, 0, none⟩)), (13, .pointer (some ⟨b87, 0, none⟩)), (15, .int .i64 x78_l2), (77, .int .i64 (l1.length : Int)), (78, .int .i64 x78_l2), (90, .bool true), (91, undef), (92, undef), (93, undef), (94, undef), (95, undef), (96, undef), (97, undef), (98, undef), (99, undef), (100, undef), (101, undef), (102, undef), (103, undef), (104, undef)]) (by kernel_rfl) ?_
        refine WD.skip (i := 24) (by kernel_rfl) (by kernel_rfl) ?_
        refine WD.weaken [1, 7, 11, 13, 15, 77, 78, 90, 91, 92, 93, 94, 95, 96, 97, 98, 99, 100, 101, 102, 103, 104, 105] (L' := [(1, .slice A1 l1.length c1), (7, .int .i64 (Int.tmod (wi a2) 5000)), (11, .pointer (some ⟨b82, 0, none⟩)), (13, .pointer (some ⟨b87, 0, none⟩)), (15, .int .i64 x78_l2), (77, .int .i64 (l1.length : Int)), (78, .int .i64 x78_l2), (90, .bool true), (91, undef), (92, undef), (93, undef), (94, undef), (95, undef), (96, undef), (97, undef), (98, undef), (99, undef), (100, undef), (101, undef), (102, undef), (103, undef), (104, undef), (105, undef)]) (by kernel_rfl) ?_
        refine WD.pure (i := 25) (v := .bool true) (by kernel_rfl) (by kernel_rfl) (fun _ => by kernel_rfl) ?_
        refine WD.weaken [1, 7, 11, 13, 15, 77, 78, 91, 92, 93, 94, 95, 96, 97, 98, 99, 100, 101, 102, 103, 104, 105, 106] (L' := [(1, .slice A1 l1.length c1), (7, .int .i64 (Int.tmod (wi a2) 5000)), (11, .pointer (some ⟨b82, 0, none⟩)), (13, .pointer (some ⟨b87, 0, none⟩)), (15, .int .i64 x78_l2), (77, .int .i64 (l1.length : Int)), (78, .int .i64 x78_l2), (91, undef), (92, undef), (93, undef), (94, undef), (95, undef), (96, undef), (97, undef), (98, undef), (99, undef), (100, undef), (101, undef), (102, undef), (103, undef), (104, undef), (105, undef), (106, .bool true)]) (by kernel_rfl) ?_
        refine WD.pure (i := 26) (v := .bool true) (by kernel_rfl) (by kernel_rfl) (fun _ => by kernel_rfl) ?_
        refine WD.weaken [1, 7, 11, 13, 15, 77, 78, 91, 92, 93, 94, 95, 96, 97, 98, 99, 100, 101, 102, 103, 104, 105, 107] (L' := [(1, .slice A1 l1.length c1), (7, .int .i64 (Int.tmod (wi a2) 5000)), (11, .pointer (some ⟨b82, 0, none⟩)), (13, .pointer (some ⟨b87, 0, none⟩)), (15, .int .i64 x78_l2), (77, .int .i64 (l1.length : Int)), (78, .int .i64 x78_l2), (91, undef), (92, undef), (93, undef), (94, undef), (95, undef), (96, undef), (97, undef), (98, undef), (99, undef), (100, undef), (101, undef), (102, undef), (103, undef), (104, undef), (105, undef), (107, .bool true)]) (by kernel_rfl) ?_
        refine WD.skip (i := 27) (by kernel_rfl) (by kernel_rfl) ?_
        refine WD.weaken [1, 7, 11, 13, 15, 77, 78, 91, 92, 93, 94, 95, 96, 97, 98, 99, 100, 101, 102, 103, 104, 105, 107, 108] (L' := [(1, .slice A1 l1.length c1), (7, .int .i64 (Int.tmod (wi a2) 5000)), (11, .pointer (some ⟨b82, 0, none⟩)), (13, .pointer (some ⟨b87, 0, none⟩)), (15, .int .i64 x78_l2), (77, .int .i64 (l1.length : Int)), (78, .int .i64 x78_l2), (91, undef), (92, undef), (93, undef), (94, undef), (95, undef), (96, undef), (97, undef), (98, undef), (99, undef), (100, undef), (101, undef), (102, undef), (103, undef), (104, undef), (105, undef), (107, .bool true), (108, undef)]) (by kernel_rfl) ?_
        refine WD.skip (i := 28) (by kernel_rfl) (by kernel_rfl) ?_
        refine WD.weaken [1, 7, 11, 13, 15, 77, 78, 91, 92, 93, 94, 95, 96, 97, 98, 99, 100, 101, 102, 103, 104, 105, 107, 108, 109] (L' := [(1, .slice A1 l1.length c1), (7, .int .i64 (Int.tmod (wi a2) 5000)), (11, .pointer (some ⟨b82, 0, none⟩)), (13, .pointer (some ⟨b87, 0, none⟩)), (15, .int .i64 x78_l2), (77, .int .i64 (l1.length : Int)), (78, .int .i64 x78_l2), (91, undef), (92, undef), (93, undef), (94, undef), (95, undef), (96, undef), (97, undef), (98, undef), (99, undef), (100, undef), (101, undef), (102, undef), (103, undef), (104, undef), (105, undef), (107, .bool true), (108, undef), (109, undef)]) (by kernel_rfl) ?_
        refine WD.skip (i := 29) (by kernel_rfl) (by kernel_rfl) ?_
        refine WD.weaken [1, 7, 11, 13, 77, 78, 91, 92, 93, 94, 95, 96, 97, 98, 99, 100, 101, 102, 103, 104, 105, 107, 108, 109, 110] (L' := [(1, .slice A1 l1.length c1), (7, .int .i64 (Int.tmod (wi a2) 5000)), (11, .pointer (some ⟨b82, 0, none⟩)), (13, .pointer (some ⟨b87, 0, none⟩)), (77, .int .i64 (l1.length : Int)), (78, .int .i64 x78_l2), (91, undef), (92, undef), (93, undef), (94, undef), (95, undef), (96, undef), (97, undef), (98, undef), (99, undef), (100, undef), (101, undef), (102, undef), (103, undef), (104, undef), (105, undef), (107, .bool true), (108, undef), (109, undef), (110, undef)]) (by kernel_rfl) ?_
        refine WD.skip (i := 30) (by kernel_rfl) (by kernel_rfl) ?_
        refine WD.weaken [1, 7, 11, 13, 77, 78, 91, 92, 93, 94, 95, 96, 97, 98, 99, 100, 101, 102, 103, 104, 105, 107, 108, 109, 110, 111] (L' := [(1, .slice A1 l1.length c1), (7, .int .i64 (Int.tmod (wi a2) 5000)), (11, .pointer (some ⟨b82, 0, none⟩)), (13, .pointer (some ⟨b87, 0, none⟩)), (77, .int .i64 (l1.length : Int)), (78, .int .i64 x78_l2), (91, undef), (92, undef), (93, undef), (94, undef), (95, undef), (96, undef), (97, undef), (98, undef), (99, undef), (100, undef), (101, undef), (102, undef), (103, undef), (104, undef), (105, undef), (107, .bool true), (108, undef), (109, undef), (110, undef), (111, undef)]) (by kernel_rfl) ?_
        refine WD.skip (i := 31) (by kernel_rfl) (by kernel_rfl) ?_
        refine WD.weaken [1, 7, 11, 13, 77, 78, 91, 92, 93, 94, 95, 96, 97, 98, 99, 100, 101, 102, 103, 104, 105, 107, 108, 109, 110, 111, 112] (L' := [(1, .slice A1 l1.length c1), (7, .int .i64 (Int.tmod (wi a2) 5000)), (11, .pointer (some ⟨b82, 0, none⟩)), (13, .pointer (some ⟨b87, 0, none⟩)), (77, .int .i64 (l1.length : Int)), (78, .int .i64 x78_l2), (91, undef), (92, undef), (93, undef), (94, undef), (95, undef), (96, undef), (97, undef), (98, undef), (99, undef), (100, undef), (101, undef), (102, undef), (103, undef), (104, undef), (105, undef), (107, .bool true), (108, undef), (109, undef), (110, undef), (111, undef), (112, undef)]) (by kernel_rfl) ?_
        refine WD.skip (i := 32) (by kernel_rfl) (by kernel_rfl) ?_
        refine WD.weaken [1, 7, 11, 13, 77, 78, 91, 92, 93, 94, 95, 96, 97, 98, 99, 100, 101, 102, 103, 104, 105, 107, 108, 109, 110, 111, 112, 113] (L' := [(1, .slice A1 l1.length c1), (7, .int .i64 (Int.tmod (wi a2) 5000)), (11, .pointer (some ⟨b82, 0, none⟩)), (13, .pointer (some ⟨b87, 0, none⟩)), (77, .int .i64 (l1.length : Int)), (78, .int .i64 x78_l2), (91, undef), (92, undef), (93, undef), (94, undef), (95, undef), (96, undef), (97, undef), (98, undef), (99, undef), (100, undef), (101, undef), (102, undef), (103, undef), (104, undef), (105, undef), (107, .bool true), (108, undef), (109, undef), (110, undef), (111, undef), (112, undef), (113, undef)]) (by kernel_rfl) ?_
        refine WD.skip (i := 33) (by kernel_rfl) (by kernel_rfl) ?_
        refine WD.weaken [1, 7, 11, 13, 77, 78, 91, 92, 93, 94, 95, 96, 97, 98, 99, 100, 101, 102, 103, 104, 105, 107, 108, 109, 110, 111, 112, 113, 114] (L' := [(1, .slice A1 l1.length c1), (7, .int .i64 (Int.tmod (wi a2) 5000)), (11, .pointer (some ⟨b82, 0, none⟩)), (13, .pointer (some ⟨b87, 0, none⟩)), (77, .int .i64 (l1.length : Int)), (78, .int .i64 x78_l2), (91, undef), (92, undef), (93, undef), (94, undef), (95, undef), (96, undef), (97, undef), (98, undef), (99, undef), (100, undef), (101, undef), (102, undef), (103, undef), (104, undef), (105, undef), (107, .bool true), (108, undef), (109, undef), (110, undef), (111, undef), (112, undef), (113, undef), (114, undef)]) (by kernel_rfl) ?_
        refine WD.skip (i := 34) (by kernel_rfl) (by kernel_rfl) ?_
        refine WD.weaken [1, 7, 11, 13, 77, 78, 91, 92, 93, 94, 95, 96, 97, 98, 99, 100, 101, 102, 103, 104, 105, 107, 108, 109, 110, 111, 112, 113, 114, 115] (L' := [(1, .slice A1 l1.length c1), (7, .int .i64 (Int.tmod (wi a2) 5000)), (11, .pointer (some ⟨b82, 0, none⟩)), (13, .pointer (some ⟨b87, 0, none⟩)), (77, .int .i64 (l1.length : Int)), (78, .int .i64 x78_l2), (91, undef), (92, undef), (93, undef), (94, undef), (95, undef), (96, undef), (97, undef), (98, undef), (99, undef), (100, undef), (101, undef), (102, undef), (103, undef), (104, undef), (105, undef), (107, .bool true), (108, undef), (109, undef), (110, undef), (111, undef), (112, undef), (113, undef), (114, undef), (115, undef)]) (by kernel_rfl) ?_
        refine WD.skip (i := 35) (by kernel_rfl) (by kernel_rfl) ?_
        refine WD.weaken [1, 7, 11, 13, 77, 78, 91, 92, 93, 94, 95, 96, 97, 98, 99, 100, 101, 102, 103, 104, 105, 107, 108, 109, 110, 111, 112, 113, 114, 115, 116] (L' := [(1, .slice A1 l1.length c1), (7, .int .i64 (Int.tmod (wi a2) 5000)), (11, .pointer (some ⟨b82, 0, none⟩)), (13, .pointer (some ⟨b87, 0, none⟩)), (77, .int .i64 (l1.length : Int)), (78, .int .i64 x78_l2), (91, undef), (92, undef), (93, undef), (94, undef), (95, undef), (96, undef), (97, undef), (98, undef), (99, undef), (100, undef), (101, undef), (102, undef), (103, undef), (104, undef), (105, undef), (107, .bool true), (108, undef), (109, undef), (110, undef), (111, undef), (112, undef), (113, undef), (114, undef), (115, undef), (116, undef)]) (by kernel_rfl) ?_
        refine WD.pure (i := 36) (v := .bool true) (by kernel_rfl) (by kernel_rfl) (fun _ => by kernel_rfl) ?_
        refine WD.weaken [1, 7, 11, 13, 77, 78, 91, 92, 93, 94, 95, 96, 97, 98, 99, 100, 101, 102, 103, 104, 105, 108, 109, 110, 111, 112, 113, 114, 115, 116, 117] (L' := [(1, .slice A1 l1.length c1), (7, .int .i64 (Int.tmod (wi a2) 5000)), (11, .pointer (some ⟨b82, 0, none⟩)), (13, .pointer (some ⟨b87, 0, none⟩)), (77, .int .i64 (l1.length : Int)), (78, .int .i64 x78_l2), (91, undef), (92, undef), (93, undef), (94, undef), (95, undef), (96, undef), (97, undef), (98, undef), (99, undef), (100, undef), (101, undef), (102, undef), (103, undef), (104, undef), (105, undef), (108, undef), (109, undef), (110, undef), (111, undef), (112, undef), (113, undef), (114, undef), (115, undef), (116, undef), (117, .bool true)]) (by kernel_rfl) ?_
        refine WD.nil (by kernel_rfl) ?_
        refine At.go ?_
        refine WC.condT (by kernel_rfl) (by kernel_rfl) (by kernel_rfl) ?_
        refine WC.seq (by kernel_rfl) ?_
        refine WC.reg [0] (by kernel_rfl) (by kernel_rfl) ?_
        refine WR.runk [0] [] [6] (L' := [(6, .bool false)]) (w' := w108) (by kernel_rfl) ?_
        refine WR.nil ?_
        refine At.go ?_
        refine WC.ret (by kernel_rfl) ?_
        refine At.blockRet ?_
        refine At.thenRet ?_
        refine At.thenRet ?_
        obtain rfl := Option.some.inj H
        have hS : Sat w108 (rf w0) [O49 b82 y79, O49 b87 y84] := hS.sel [0, 1] (by kernel_rfl)
        refine At.weaken [6] (L' := [(6, .bool false)]) (by kernel_rfl) ?_
        exact hn0 false _ rfl hS
      · replace H := ite_f H hb110
        refine WD.weaken [1, 7, 11, 13, 15, 77, 78, 90] (L' := [(1, .slice A1 l1.length c1), (7, .int .i64 (Int.tmod (wi a2) 5000)), (11, .pointer (some ⟨b82, 0, none⟩)), (13, .pointer (some ⟨b87, 0, none⟩)), (15, .int .i64 x78_l2), (77, .int .i64 (l1.length : Int)), (78, .int .i64 x78_l2), (90, .bool false)]) (by kernel_rfl) ?_
        refine WD.pure (i := 10) (v := .pointer (some ⟨b87, 0, none⟩)) (by kernel_rfl) (by kernel_rfl) (fun _ => by kernel_rfl) ?_
        refine WD.weaken [1, 7, 11, 13, 15, 77, 78, 90, 91] (L' := [(1, .slice A1 l1.length c1), (7, .int .i64 (Int.tmod (wi a2) 5000)), (11, .pointer (some ⟨b82, 0, none⟩)), (13, .pointer (some ⟨b87, 0, none⟩)), (15, .int .i64 x78_l2), (77, .int .i64 (l1.length : Int)), (78, .int .i64 x78_l2), (90, .bool false), (91, .pointer (some ⟨b87, 0, none⟩))]) (by kernel_rfl) ?_
        refine WD.pure (i := 11) (v := .slice A1 l1.length c1) (by kernel_rfl) (by kernel_rfl) (fun _ => by kernel_rfl) ?_
        refine WD.weaken [1, 7, 11, 13, 15, 77, 78, 90, 91, 92] (L' := [(1, .slice A1 l1.length c1), (7, .int .i64 (Int.tmod (wi a2) 5000)), (11, .pointer (some ⟨b82, 0, none⟩)), (13, .pointer (some ⟨b87, 0, none⟩)), (15, .int .i64 x78_l2), (77, .int .i64 (l1.length : Int)), (78, .int .i64 x78_l2), (90, .bool false), (91, .pointer (some ⟨b87, 0, none⟩)), (92, .slice A1 l1.length c1)]) (by kernel_rfl) ?_
        refine WD.pure (i := 12) (v := .int .i64 x78_l2) (by kernel_rfl) (by kernel_rfl) (fun _ => by kernel_rfl) ?_
        refine WD.weaken [1, 7, 11, 13, 15, 77, 78, 90, 91, 92, 93] (L' := [(1, .slice A1 l1.length c1), (7, .int .i64 (Int.tmod (wi a2) 5000)), (11, .pointer (some ⟨b82, 0, none⟩)), (13, .pointer (some ⟨b87, 0, none⟩)), (15, .int .i64 x78_l2), (77, .int .i64 (l1.length : Int)), (78, .int .i64 x78_l2), (90, .bool false), (91, .pointer (some ⟨b87, 0, none⟩)), (92, .slice A1 l1.length c1), (93, .int .i64 x78_l2)]) (by kernel_rfl) ?_
        obtain ⟨v111, e112, H⟩ := bind_ex H
        refine WD.ofP (i := 13) (by kernel_rfl) (PSt.idx (k := .i64) (.tmp 92) (.tmp 93) (by kernel_rfl) (by kernel_rfl) E22 (by kernel_rfl) (by kernel_rfl) (rdS.up R1 hS.sub0) e112 ?_)
        refine WD.weaken [1, 7, 11, 13, 15, 77, 78, 90, 91, 92, 93, 94] (L' := [(1, .slice A1 l1.length c1), (7, .int .i64 (Int.tmod (wi a2) 5000)), (11, .pointer (some ⟨b82, 0, none⟩)), (13, .pointer (some ⟨b87, 0, none⟩)), (15, .int .i64 x78_l2), (77, .int .i64 (l1.length : Int)), (78, .int .i64 x78_l2), (90, .bool false), (91, .pointer (some ⟨b87, 0, none⟩)), (92, .slice A1 l1.length c1), (93, .int .i64 x78_l2), (94, .pointer (some (adr A1 x78_l2.toNat 1)))]) (by kernel_rfl) ?_
        refine WD.ofR (i := 14) (by kernel_rfl) (RSt.loadInt (t := 3) (.tmp 94) (by kernel_rfl) (by kernel_rfl) (by kernel_rfl) (by kernel_rfl) (rdS.up R1 hS.sub0) e112 ?_)
        refine WD.weaken [1, 7, 11, 13, 15, 77, 78, 90, 91, 92, 93, 94, 95] (L' := [(1, .slice A1 l1.length c1), (7, .int .i64 (Int.tmod (wi a2) 5000)), (11, .pointer (some ⟨b82, 0, none⟩)), (13, .pointer (some ⟨b87, 0, none⟩)), (15, .int .i64 x78_l2), (77, .int .i64 (l1.length : Int)), (78, .int .i64 x78_l2), (90, .bool false), (91, .pointer (some ⟨b87, 0, none⟩)), (92, .slice A1 l1.length c1), (93, .int .i64 x78_l2), (94, .pointer (some (adr A1 x78_l2.toNat 1))), (95, .int .i64 v111)]) (by kernel_rfl) ?_
        refine WD.pure (i := 15) (v := .int .i64 (Int.tmod (wi a2) 5000)) (by kernel_rfl) (by kernel_rfl) (fun _ => by kernel_rfl) ?_
        refine WD.weaken [1, 7, 11, 13, 15, 77, 78, 90, 91, 92, 93, 94, 95, 96] (L' := [(1, .slice A1 l1.length c1), (7, .int .i64 (Int.tmod (wi a2) 5000)), (11, .pointer (some ⟨b82, 0, none⟩)), (13, .pointer (some ⟨b87, 0, none⟩)), (15, .int .i64 x78_l2), (77, .int .i64 (l1.length : Int)), (78, .int .i64 x78_l2), (90, .bool false), (91, .pointer (some ⟨b87, 0, none⟩)), (92, .slice A1 l1.length c1), (93, .int .i64 x78_l2), (94, .pointer (some (adr A1 x78_l2.toNat 1))), (95, .int .i64 v111), (96, .int .i64 (Int.tmod (wi a2) 5000))]) (by kernel_rfl) ?_
        refine WD.pure (i := 16) (v := .int .i64 (wi (v111 + (Int.tmod (wi a2) 5000)))) (by kernel_rfl) (by kernel_rfl) (fun _ => by kernel_rfl) ?_
        refine WD.weaken [1, 7, 11, 13, 15, 77, 78, 90, 91, 92, 93, 94, 95, 96, 97] (L' := [(1, .slice A1 l1.length c1), (7, .int .i64 (Int.tmod (wi a2) 5000)), (11, .pointer (some ⟨b82, 0, none⟩)), (13, .pointer (some ⟨b87, 0, none⟩)), (15, .int .i64 x78_l2), (77, .int .i64 (l1.length : Int)), (78, .int .i64 x78_l2), (90, .bool false), (91, .pointer (some ⟨b87, 0, none⟩)), (92, .slice A1 l1.length c1), (93, .int .i64 x78_l2), (94, .pointer (some (adr A1 x78_l2.toNat 1))), (95, .int .i64 v111), (96, .int .i64 (Int.tmod (wi a2) 5000)), (97, .int .i64 (wi (v111 + (Int.tmod (wi a2) 5000))))]) (by kernel_rfl) ?_
        refine WD.pure (i := 18) (v := .pointer (some ⟨b82, 0, none⟩)) (by kernel_rfl) (by kernel_rfl) (fun _ => by kernel_rfl) ?_
        refine WD.weaken [1, 7, 11, 13, 15, 77, 78, 90, 91, 92, 93, 94, 95, 96, 97, 99] (L' := [(1, .slice A1 l1.length c1), (7, .int .i64 (Int.tmod (wi a2) 5000)), (11, .pointer (some ⟨b82, 0, none⟩)), (13, .pointer (some ⟨b87, 0, none⟩)), (15, .int .i64 x78_l2), (77, .int .i64 (l1.length : Int)), (78, .int .i64 x78_l2), (90, .bool false), (91, .pointer (some ⟨b87, 0, none⟩)), (92, .slice A1 l1.length c1), (93, .int .i64 x78_l2), (94, .pointer (some (adr A1 x78_l2.toNat 1))), (95, .int .i64 v111), (96, .int .i64 (Int.tmod (wi a2) 5000)), (97, .int .i64 (wi (v111 + (Int.tmod (wi a2) 5000)))), (99, .pointer (some ⟨b82, 0, none⟩))]) (by kernel_rfl) ?_
        refine WD.pure (i := 19) (v := .slice A1 l1.length c1) (by kernel_rfl) (by kernel_rfl) (fun _ => by kernel_rfl) ?_
        refine WD.weaken [1, 7, 11, 13, 15, 77, 78, 90, 91, 92, 93, 94, 95, 96, 97, 99, 100] (L' := [(1, .slice A1 l1.length c1), (7, .int .i64 (Int.tmod (wi a2) 5000)), (11, .pointer (some ⟨b82, 0, none⟩)), (13, .pointer (some ⟨b87, 0, none⟩)), (15, .int .i64 x78_l2), (77, .int .i64 (l1.length : Int)), (78, .int .i64 x78_l2), (90, .bool false), (91, .pointer (some ⟨b87, 0, none⟩)), (92, .slice A1 l1.length c1), (93, .int .i64 x78_l2), (94, .pointer (some (adr A1 x78_l2.toNat 1))), (95, .int .i64 v111), (96, .int .i64 (Int.tmod (wi a2) 5000)), (97, .int .i64 (wi (v111 + (Int.tmod (wi a2) 5000)))), (99, .pointer (some ⟨b82, 0, none⟩)), (100, .slice A1 l1.length c1)]) (by kernel_rfl) ?_
        refine WD.pure (i := 20) (v := .int .i64 x78_l2) (by kernel_rfl) (by kernel_rfl) (fun _ => by kernel_rfl) ?_
        refine WD.weaken [1, 7, 11, 13, 15, 77, 78, 90, 91, 92, 93, 94, 95, 96, 97, 99, 100, 101] (L' := [(1, .slice A1 l1.length c1), (7, .int .i64 (Int.tmod (wi a2) 5000)), (11, .pointer (some ⟨b82, 0, none⟩)), (13, .pointer (some ⟨b87, 0, none⟩)), (15, .int .i64 x78_l2), (77, .int .i64 (l1.length : Int)), (78, .int .i64 x78_l2), (90, .bool false), (91, .pointer (some ⟨b87, 0, none⟩)), (92, .slice A1 l1.length c1), (93, .int .i64 x78_l2), (94, .pointer (some (adr A1 x78_l2.toNat 1))), (95, .int .i64 v111), (96, .int .i64 (Int.tmod (wi a2) 5000)), (97, .int .i64 (wi (v111 + (Int.tmod (wi a2) 5000)))), (99, .pointer (some ⟨b82, 0, none⟩)), (100, .slice A1 l1.length c1), (101, .int .i64 x78_l2)]) (by kernel_rfl) ?_
        refine WD.ofP (i := 21) (by kernel_rfl) (PSt.idx (k := .i64) (.tmp 100) (.tmp 101) (by kernel_rfl) (by kernel_rfl) E22 (by kernel_rfl) (by kernel_rfl) (rdS.up R1 hS.sub0) e112 ?_)
        refine WD.weaken [1, 7, 11, 13, 15, 77, 78, 90, 91, 92, 93, 94, 95, 96, 97, 99, 100, 101, 102] (L' := [(1, .slice A1 l1.length c1), (7, .int .i64 (Int.tmod (wi a2) 5000)), (11, .pointer (some ⟨b82, 0, none⟩)), (13, .pointer (some ⟨b87, 0, none⟩)), (15, .int .i64 x78_l2), (77, .int .i64 (l1.length : Int)), (78, .int .i64 x78_l2), (90, .bool false), (91, .pointer (some ⟨b87, 0, none⟩)), (92, .slice A1 l1.length c1), (93, .int .i64 x78_l2), (94, .pointer (some (adr A1 x78_l2.toNat 1))), (95, .int .i64 v111), (96, .int .i64 (Int.tmod (wi a2) 5000)), (97, .int .i64 (wi (v111 + (Int.tmod (wi a2) 5000)))), (99, .pointer (some ⟨b82, 0, none⟩)), (100, .slice A1 l1.length c1), (101, .int .i64 x78_l2), (102, .pointer (some (adr A1 x78_l2.toNat 1)))]) (by kernel_rfl) ?_
        refine WD.ofR (i := 22) (by kernel_rfl) (RSt.loadInt (t := 3) (.tmp 102) (by kernel_rfl) (by kernel_rfl) (by kernel_rfl) (by kernel_rfl) (rdS.up R1 hS.sub0) e112 ?_)
        refine WD.weaken [1, 7, 11, 13, 15, 77, 78, 90, 91, 92, 93, 94, 95, 96, 97, 99, 100, 101, 102, 103] (L' := [(1, .slice A1 l1.length c1), (7, .int .i64 (Int.tmod (wi a2) 5000)), (11, .pointer (some ⟨b82, 0, none⟩)), (13, .pointer (some ⟨b87, 0, none⟩)), (15, .int .i64 x78_l2), (77, .int .i64 (l1.length : Int)), (78, .int .i64 x78_l2), (90, .bool false), (91, .pointer (some ⟨b87, 0, none⟩)), (92, .slice A1 l1.length c1), (93, .int .i64 x78_l2), (94, .pointer (some (adr A1 x78_l2.toNat 1))), (95, .int .i64 v111), (96, .int .i64 (Int.tmod (wi a2) 5000)), (97, .int .i64 (wi (v111 + (Int.tmod (wi a2) 5000)))), (99, .pointer (some ⟨b82, 0, none⟩)), (100, .slice A1 l1.length c1), (101, .int .i64 x78_l2), (102, .pointer (some (adr A1 x78_l2.toNat 1))), (103, .int .i64 v111)]) (by kernel_rfl) ?_
        obtain ⟨r113, e114, H⟩ := bind_ex H
        refine WD.act (i := 17) (by kernel_rfl) (St.call (by kernel_rfl) (f := 13) (args := #[.pointer (some ⟨b87, 0, none⟩), .int .i64 (wi (v111 + (Int.tmod (wi a2) 5000)))]) (by kernel_rfl) (sparse_Set_Rank.calls w108 (.pointer (some ⟨b87, 0, none⟩)) (some y84) (Sat.rdAny 1 hS rfl (fun _ h => O49.rd _ _ _ h)) (wi (v111 + (Int.tmod (wi a2) 5000))) r113 e114) ?_)
        rintro _ w120 ⟨rfl, hS121⟩
        have hS : Sat w120 (rf w0) [O49 b82 y79, O49 b87 y84] := hS.ext hS121
        refine ⟨(asked.cons (RSt.run (n := 123) (RSt.loadInt (t := 3) (.tmp 102) (by kernel_rfl) (by kernel_rfl) (by kernel_rfl) (by kernel_rfl) (rdS.up R1 hS.sub0) e112 rfl)) (asked.anc (by kernel_rfl) (asked.nil _ _))), ?_⟩
        refine WD.weaken [1, 7, 11, 13, 15, 77, 78, 90, 91, 92, 93, 94, 95, 96, 97, 98, 99, 100, 101, 102, 103] (L' := [(1, .slice A1 l1.length c1), (7, .int .i64 (Int.tmod (wi a2) 5000)), (11, .pointer (some ⟨b82, 0, none⟩)), (13, .pointer (some ⟨b87, 0, none⟩)), (15, .int .i64 x78_l2), (77, .int .i64 (l1.length : Int)), (78, .int .i64 x78_l2), (90, .bool false), (91, .pointer (some ⟨b87, 0, none⟩)), (92, .slice A1 l1.length c1), (93, .int .i64 x78_l2), (94, .pointer (some (adr A1 x78_l2.toNat 1))), (95, .int .i64 v111), (96, .int .i64 (Int.tmod (wi a2) 5000)), (97, .int .i64 (wi (v111 + (Int.tmod (wi a2) 5000)))), (98, .int .i64 r113), (99, .pointer (some ⟨b82, 0, none⟩)), (100, .slice A1 l1.length c1), (101, .int .i64 x78_l2), (102, .pointer (some (adr A1 x78_l2.toNat 1))), (103, .int .i64 v111)]) (by kernel_rfl) ?_
        obtain ⟨r122, e123, H⟩ := bind_ex H
        refine WD.act (i := 23) (by kernel_rfl) (St.call (by kernel_rfl) (f := 13) (args := #[.pointer (some ⟨b82, 0, none⟩), .int .i64 v111]) (by kernel_rfl) (sparse_Set_Rank.calls w120 (.pointer (some ⟨b82, 0, none⟩)) (some y79) (Sat.rdAny 0 hS rfl (fun _ h => O49.rd _ _ _ h)) v111 r122 e123) ?_)
        rintro _ w129 ⟨rfl, hS130⟩
        have hS : Sat w129 (rf w0) [O49 b82 y79, O49 b87 y84] := hS.ext hS130
        refine ⟨(asked.anc (by kernel_rfl) (asked.anc (by kernel_rfl) (asked.nil _ _))), ?_⟩
        refine WD.weaken [1, 7, 11, 13, 15, 77, 78, 90, 91, 92, 93, 94, 95, 96, 97, 98, 99, 100, 101, 102, 103, 104] (L' := [(1, .slice A1 l1.length c1), (7, .int .i64 (Int.tmod (wi a2) 5000)), (11, .pointer (some ⟨b82, 0, none⟩)), (13, .pointer (some ⟨b87, 0, none⟩)), (15, .int .i64 x78_l2), (77, .int .i64 (l1.length : Int)), (78, .int .i64 x78_l2), (90, .bool false), (91, .pointer (some ⟨b87, 0, none⟩)), (92, .slice A1 l1.length c1), (93, .int .i64 x78_l2), (94, .pointer (some (adr A1 x78_l2.toNat 1))), (95, .int .i64 v111), (96, .int .i64 (Int.tmod (wi a2) 5000)), (97, .int .i64 (wi (v111 + (Int.tmod (wi a2) 5000)))), (98, .int .i64 r113), (99, .pointer (some ⟨b82, 0, none⟩)), (100, .slice A1 l1.length c1), (101, .int .i64 x78_l2), (102, .pointer (some (adr A1 x78_l2.toNat 1))), (103, .int .i64 v111), (104, .int .i64 r122)]) (by kernel_rfl) ?_
        refine WD.pure (i := 24) (v := .bool (r113 != r122)) (by kernel_rfl) (by kernel_rfl) (fun _ => by kernel_rfl) ?_
        refine WD.weaken [1, 7, 11, 13, 15, 77, 78, 90, 91, 92, 93, 94, 95, 96, 97, 98, 99, 100, 101, 102, 103, 104, 105] (L' := [(1, .slice A1 l1.length c1), (7, .int .i64 (Int.tmod (wi a2) 5000)), (11, .pointer (some ⟨b82, 0, none⟩)), (13, .pointer (some ⟨b87, 0, none⟩)), (15, .int .i64 x78_l2), (77, .int .i64 (l1.length : Int)), (78, .int .i64 x78_l2), (90, .bool false), (91, .pointer (some ⟨b87, 0, none⟩)), (92, .slice A1 l1.length c1), (93, .int .i64 x78_l2), (94, .pointer (some (adr A1 x78_l2.toNat 1))), (95, .int .i64 v111), (96, .int .i64 (Int.tmod (wi a2) 5000)), (97, .int .i64 (wi (v111 + (Int.tmod (wi a2) 5000)))), (98, .int .i64 r113), (99, .pointer (some ⟨b82, 0, none⟩)), (100, .slice A1 l1.length c1), (101, .int .i64 x78_l2), (102, .pointer (some (adr A1 x78_l2.toNat 1))), (103, .int .i64 v111), (104, .int .i64 r122), (105, .bool (r113 != r122))]) (by kernel_rfl) ?_
        refine WD.pure (i := 25) (v := .bool (r113 != r122)) (by kernel_rfl) (by kernel_rfl) (fun _ => by kernel_rfl) ?_
        refine WD.weaken [1, 7, 11, 13, 15, 77, 78, 91, 92, 93, 94, 95, 96, 97, 98, 99, 100, 101, 102, 103, 104, 105, 106] (L' := [(1, .slice A1 l1.length c1), (7, .int .i64 (Int.tmod (wi a2) 5000)), (11, .pointer (some ⟨b82, 0, none⟩)), (13, .pointer (some ⟨b87, 0, none⟩)), (15, .int .i64 x78_l2), (77, .int .i64 (l1.length : Int)), (78, .int .i64 x78_l2), (91, .pointer (some ⟨b87, 0, none⟩)), (92, .slice A1 l1.length c1), (93, .int .i64 x78_l2), (94, .pointer (some (adr A1 x78_l2.toNat 1))), (95, .int .i64 v111), (96, .int .i64 (Int.tmod (wi a2) 5000)), (97, .int .i64 (wi (v111 + (Int.tmod (wi a2) 5000)))), (98, .int .i64 r113), (99, .pointer (some ⟨b82, 0, none⟩)), (100, .slice A1 l1.length c1), (101, .int .i64 x78_l2), (102, .pointer (some (adr A1 x78_l2.toNat 1))), (103, .int .i64 v111), (104, .int .i64 r122), (105, .bool (r113 != r122)), (106, .bool (r113 != r122))]) (by kernel_rfl) ?_
        refine WD.pure (i := 26) (v := .bool (r113 != r122)) (by kernel_rfl) (by kernel_rfl) (fun _ => by kernel_rfl) ?_
        refine WD.weaken [1, 7, 11, 13, 15, 77, 78, 91, 92, 93, 94, 95, 96, 97, 98, 99, 100, 101, 102, 103, 104, 105, 107] (L' := [(1, .slice A1 l1.length c1), (7, .int .i64 (Int.tmod (wi a2) 5000)), (11, .pointer (some ⟨b82, 0, none⟩)), (13, .pointer (some ⟨b87, 0, none⟩)), (15, .int .i64 x78_l2), (77, .int .i64 (l1.length : Int)), (78, .int .i64 x78_l2), (91, .pointer (some ⟨b87, 0, none⟩)), (92, .slice A1 l1.length c1), (93, .int .i64 x78_l2), (94, .pointer (some (adr A1 x78_l2.toNat 1))), (95, .int .i64 v111), (96, .int .i64 (Int.tmod (wi a2) 5000)), (97, .int .i64 (wi (v111 + (Int.tmod (wi a2) 5000)))), (98, .int .i64 r113), (99, .pointer (some ⟨b82, 0, none⟩)), (100, .slice A1 l1.length c1), (101, .int .i64 x78_l2), (102, .pointer (some (adr A1 x78_l2.toNat 1))), (103, .int .i64 v111), (104, .int .i64 r122), (105, .bool (r113 != r122)), (107, .bool (r113 != r122))]) (by kernel_rfl) ?_
        refine WD.split 107 (b := (r113 != r122)) (by kernel_rfl) (fun hb131 => ?_) (fun hb131 => ?_)
        · replace H := ite_t H hb131
          refine WD.weaken [1, 7, 11, 13, 15, 77, 78, 91, 92, 93, 94, 95, 96, 97, 98, 99, 100, 101, 102, 103, 104, 105, 107] (L' := [(1, .slice A1 l1.length c1), (7, .int .i64 (Int.tmod (wi a2) 5000)), (11, .pointer (some ⟨b82, 0, none⟩)), (13, .pointer (some ⟨b87, 0, none⟩)), (15, .int .i64 x78_l2), (77, .int .i64 (l1.length : Int)), (78, .int .i64 x78_l2), (91, .pointer (some ⟨b87, 0, none⟩)), (92, .slice A1 l1.length c1), (93, .int .i64 x78_l2), (94, .pointer (some (adr A1 x78_l2.toNat 1))), (95, .int .i64 v111), (96, .int .i64 (Int.tmod (wi a2) 5000)), (97, .int .i64 (wi (v111 + (Int.tmod (wi a2) 5000)))), (98, .int .i64 r113), (99, .pointer (some ⟨b82, 0, none⟩)), (100, .slice A1 l1.length c1), (101, .int .i64 x78_l2), (102, .pointer (some (adr A1 x78_l2.toNat 1))), (103, .int .i64 v111), (104, .int .i64 r122), (105, .bool (r113 != r122)), (107, .bool true)]) (by kernel_rfl) ?_
          refine WD.skip (i := 27) (by kernel_rfl) (by kernel_rfl) ?_
          refine WD.weaken [1, 7, 11, 13, 15, 77, 78, 91, 92, 93, 94, 95, 96, 97, 98, 99, 100, 101, 102, 103, 104, 105, 107, 108] (L' := [(1, .slice A1 l1.length c1), (7, .int .i64 (Int.tmod (wi a2) 5000)), (11, .pointer (some ⟨b82, 0, none⟩)), (13, .pointer (some ⟨b87, 0, none⟩)), (15, .int .i64 x78_l2), (77, .int .i64 (l1.length : Int)), (78, .int .i64 x78_l2), (91, .pointer (some ⟨b87, 0, none⟩)), (92, .slice A1 l1.length c1), (93, .int .i64 x78_l2), (94, .pointer (some (adr A1 x78_l2.toNat 1))), (95, .int .i64 v111), (96, .int .i64 (Int.tmod (wi a2) 5000)), (97, .int .i64 (wi (v111 + (Int.tmod (wi a2) 5000)))), (98, .int .i64 r113), (99, .pointer (some ⟨b82, 0, none⟩)), (100, .slice A1 l1.length c1), (101, .int .i64 x78_l2), (102, .pointer (some (adr A1 x78_l2.toNat 1))), (103, .int .i64 v111), (104, .int .i64 r122), (105, .bool (r113 != r122)), (107, .bool true), (108, undef)]) (by kernel_rfl) ?_
          refine WD.skip (i := 28) (by kernel_rfl) (by kernel_rfl) ?_
          refine WD.weaken [1, 7, 11, 13, 15, 77, 78, 91, 92, 93, 94, 95, 96, 97, 98, 99, 100, 101, 102, 103, 104, 105, 107, 108, 109] (L' := [(1, .slice A1 l1.length c1), (7, .int .i64 (Int.tmod (wi a2) 5000)), (11, .pointer (some ⟨b82, 0, none⟩)), (13, .pointer (some ⟨b87, 0, none⟩)), (15, .int .i64 x78_l2), (77, .int .i64 (l1.length : Int)), (78, .int .i64 x78_l2), (91, .pointer (some ⟨b87, 0, none⟩)), (92, .slice A1 l1.length c1), (93, .int .i64 x78_l2), (94, .pointer (some (adr A1 x78_l2.toNat 1))), (95, .int .i64 v111), (96, .int .i64 (Int.tmod (wi a2) 5000)), (97, .int .i64 (wi (v111 + (Int.tmod (wi a2) 5000)))), (98, .int .i64 r113), (99, .pointer (some ⟨b82, 0, none⟩)), (100, .slice A1 l1.length c1), (101, .int .i64 x78_l2), (102, .pointer (some (adr A1 x78_l2.toNat 1))), (103, .int .i64 v111), (104, .int .i64 r122), (105, .bool (r113 != r122)), (107, .bool true), (108, undef), (109, undef)]) (by kernel_rfl) ?_
          refine WD.skip (i := 29) (by kernel_rfl) (by kernel_rfl) ?_
          refine WD.weaken [1, 7, 11, 13, 77, 78, 91, 92, 93, 94, 95, 96, 97, 98, 99, 100, 101, 102, 103, 104, 105, 107, 108, 109, 110] (L' := [(1, .slice A1 l1.length c1), (7, .int .i64 (Int.tmod (wi a2) 5000)), (11, .pointer (some ⟨b82, 0, none⟩)), (13, .pointer (some ⟨b87, 0, none⟩)), (77, .int .i64 (l1.length : Int)), (78, .int .i64 x78_l2), (91, .pointer (some ⟨b87, 0, none⟩)), (92, .slice A1 l1.length c1), (93, .int .i64 x78_l2), (94, .pointer (some (adr A1 x78_l2.toNat 1))), (95, .int .i64 v111), (96, .int .i64 (Int.tmod (wi a2) 5000)), (97, .int .i64 (wi (v111 + (Int.tmod (wi a2) 5000)))), (98, .int .i64 r113), (99, .pointer (some ⟨b82, 0, none⟩)), (100, .slice A1 l1.length c1), (101, .int .i64 x78_l2), (102, .pointer (some (adr A1 x78_l2.toNat 1))), (103, .int .i64 v111), (104, .int .i64 r122), (105, .bool (r113 != r122)), (107, .bool true), (108, undef), (109, undef), (110, undef)]) (by kernel_rfl) ?_
          refine WD.skip (i := 30) (by kernel_rfl) (by kernel_rfl) ?_
          refine WD.weaken [1, 7, 11, 13, 77, 78, 91, 92, 93, 94, 95, 96, 97, 98, 99, 100, 101, 102, 103, 104, 105, 107, 108, 109, 110, 111] (L' := [(1, .slice A1 l1.length c1), (7, .int .i64 (Int.tmod (wi a2) 5000)), (11, .pointer (some ⟨b82, 0, none⟩)), (13, .pointer (some ⟨b87, 0, none⟩)), (77, .int .i64 (l1.length : Int)), (78, .int .i64 x78_l2), (91, .pointer (some ⟨b87, 0, none⟩)), (92, .slice A1 l1.length c1), (93, .int .i64 x78_l2), (94, .pointer (some (adr A1 x78_l2.toNat 1))), (95, .int .i64 v111), (96, .int .i64 (Int.tmod (wi a2) 5000)), (97, .int .i64 (wi (v111 + (Int.tmod (wi a2) 5000)))), (98, .int .i64 r113), (99, .pointer (some ⟨b82, 0, none⟩)), (100, .slice A1 l1.length c1), (101, .int .i64 x78_l2), (102, .pointer (some (adr A1 x78_l2.toNat 1))), (103, .int .i64 v111), (104, .int .i64 r122), (105, .bool (r113 != r122)), (107, .bool true), (108, undef), (109, undef), (110, undef), (111, undef)]) (by kernel_rfl) ?_
          refine WD.skip (i := 31) (by kernel_rfl) (by kernel_rfl) ?_
          refine WD.weaken [1, 7, 11, 13, 77, 78, 91, 92, 93, 94, 95, 96, 97, 98, 99, 100, 101, 102, 103, 104, 105, 107, 108, 109, 110, 111, 112] (L' := [(1, .slice A1 l1.length c1), (7, .int .i64 (Int.tmod (wi a2) 5000)), (11, .pointer (some ⟨b82, 0, none⟩)), (13, .pointer (some ⟨b87, 0, none⟩)), (77, .int .i64 (l1.length : Int)), (78, .int .i64 x78_l2), (91, .pointer (some ⟨b87, 0, none⟩)), (92, .slice A1 l1.length c1), (93, .int .i64 x78_l2), (94, .pointer (some (adr A1 x78_l2.toNat 1))), (95, .int .i64 v111), (96, .int .i64 (Int.tmod (wi a2) 5000)), (97, .int .i64 (wi (v111 + (Int.tmod (wi a2) 5000)))), (98, .int .i64 r113), (99, .pointer (some ⟨b82, 0, none⟩)), (100, .slice A1 l1.length c1), (101, .int .i64 x78_l2), (102, .pointer (some (adr A1 x78_l2.toNat 1))), (103, .int .i64 v111), (104, .int .i64 r122), (105, .bool (r113 != r122)), (107, .bool true), (108, undef), (109, undef), (110, undef), (111, undef), (112, undef)]) (by kernel_rfl) ?_
          refine WD.skip (i := 32) (by kernel_rfl) (by kernel_rfl) ?_
          refine WD.weaken [1, 7, 11, 13, 77, 78, 91, 92, 93, 94, 95, 96, 97, 98, 99, 100, 101, 102, 103, 104, 105, 107, 108, 109, 110, 111, 112, 113] (L' := [(1, .slice A1 l1.length c1), (7, .int .i64 (Int.tmod (wi a2) 5000)), (11, .pointer (some ⟨b82, 0, none⟩)), (13, .pointer (some ⟨b87, 0, none⟩)), (77, .int .i64 (l1.length : Int)), (78, .int .i64 x78_l2), (91, .pointer (some ⟨b87, 0, none⟩)), (92, .slice A1 l1.length c1), (93, .int .i64 x78_l2), (94, .pointer (some (adr A1 x78_l2.toNat 1))), (95, .int .i64 v111), (96, .int .i64 (Int.tmod (wi a2) 5000)), (97, .int .i64 (wi (v111 + (Int.tmod (wi a2) 5000)))), (98, .int .i64 r113), (99, .pointer (some ⟨b82, 0, none⟩)), (100, .slice A1 l1.length c1), (101, .int .i64 x78_l2), (102, .pointer (some (adr A1 x78_l2.toNat 1))), (103, .int .i64 v111), (104, .int .i64 r122), (105, .bool (r113 != r122)), (107, .bool true), (108, undef), (109, undef), (110, undef), (111, undef), (112, undef), (113, undef)]) (by kernel_rfl) ?_
          refine WD.skip (i := 33) (by kernel_rfl) (by kernel_rfl) ?_
          refine WD.weaken [1, 7, 11, 13, 77, 78, 91, 92, 93, 94, 95, 96, 97, 98, 99, 100, 101, 102, 103, 104, 105, 107, 108, 109, 110, 111, 112, 113, 114] (L' := [(1, .slice A1 l1.length c1), (7, .int .i64 (Int.tmod (wi a2) 5000)), (11, .pointer (some ⟨b82, 0, none⟩)), (13, .pointer (some ⟨b87, 0, none⟩)), (77, .int .i64 (l1.length : Int)), (78, .int .i64 x78_l2), (91, .pointer (some ⟨b87, 0, none⟩)), (92, .slice A1 l1.length c1), (93, .int .i64 x78_l2), (94, .pointer (some (adr A1 x78_l2.toNat 1))), (95, .int .i64 v111), (96, .int .i64 (Int.tmod (wi a2) 5000)), (97, .int .i64 (wi (v111 + (Int.tmod (wi a2) 5000)))), (98, .int .i64 r113), (99, .pointer (some ⟨b82, 0, none⟩)), (100, .slice A1 l1.length c1), (101, .int .i64 x78_l2), (102, .pointer (some (adr A1 x78_l2.toNat 1))), (103, .int .i64 v111), (104, .int .i64 r122), (105, .bool (r113 != r122)), (107, .bool true), (108, undef), (109, undef), (110, undef), (111, undef), (112, undef), (113, undef), (114, undef)]) (by kernel_rfl) ?_
          refine WD.skip (i := 34) (by kernel_rfl) (by kernel_rfl) ?_
          refine WD.weaken [1, 7, 11, 13, 77, 78, 91, 92, 93, 94, 95, 96, 97, 98, 99, 100, 101, 102, 103, 104, 105, 107, 108, 109, 110, 111, 112, 113, 114, 115] (L' := [(1, .slice A1 l1.length c1), (7, .int .i64 (Int.tmod (wi a2) 5000)), (11, .pointer (some ⟨b82, 0, none⟩)), (13, .pointer (some ⟨b87, 0, none⟩)), (77, .int .i64 (l1.length : Int)), (78, .int .i64 x78_l2), (91, .pointer (some ⟨b87, 0, none⟩)), (92, .slice A1 l1.length c1), (93, .int .i64 x78_l2), (94, .pointer (some (adr A1 x78_l2.toNat 1))), (95, .int .i64 v111), (96, .int .i64 (Int.tmod (wi a2) 5000)), (97, .int .i64 (wi (v111 + (Int.tmod (wi a2) 5000)))), (98, .int .i64 r113), (99, .pointer (some ⟨b82, 0, none⟩)), (100, .slice A1 l1.length c1), (101, .int .i64 x78_l2), (102, .pointer (some (adr A1 x78_l2.toNat 1))), (103, .int .i64 v111), (104, .int .i64 r122), (105, .bool (r113 != r122)), (107, .bool true), (108, undef), (109, undef), (110, undef), (111, undef), (112, undef), (113, undef), (114, undef), (115, undef)]) (by kernel_rfl) ?_
          refine WD.skip (i := 35) (by kernel_rfl) (by kernel_rfl) ?_
          refine WD.weaken [1, 7, 11, 13, 77, 78, 91, 92, 93, 94, 95, 96, 97, 98, 99, 100, 101, 102, 103, 104, 105, 107, 108, 109, 110, 111, 112, 113, 114, 115, 116] (L' := [(1, .slice A1 l1.length c1), (7, .int .i64 (Int.tmod (wi a2) 5000)), (11, .pointer (some ⟨b82, 0, none⟩)), (13, .pointer (some ⟨b87, 0, none⟩)), (77, .int .i64 (l1.length : Int)), (78, .int .i64 x78_l2), (91, .pointer (some ⟨b87, 0, none⟩)), (92, .slice A1 l1.length c1), (93, .int .i64 x78_l2), (94, .pointer (some (adr A1 x78_l2.toNat 1))), (95, .int .i64 v111), (96, .int .i64 (Int.tmod (wi a2) 5000)), (97, .int .i64 (wi (v111 + (Int.tmod (wi a2) 5000)))), (98, .int .i64 r113), (99, .pointer (some ⟨b82, 0, none⟩)), (100, .slice A1 l1.length c1), (101, .int .i64 x78_l2), (102, .pointer (some (adr A1 x78_l2.toNat 1))), (103, .int .i64 v111), (104, .int .i64 r122), (105, .bool (r113 != r122)), (107, .bool true), (108, undef), (109, undef), (110, undef), (111, undef), (112, undef), (113, undef), (114, undef), (115, undef), (116, undef)]) (by kernel_rfl) ?_
          refine WD.pure (i := 36) (v := .bool true) (by kernel_rfl) (by kernel_rfl) (fun _ => by kernel_rfl) ?_
          refine WD.weaken [1, 7, 11, 13, 77, 78, 91, 92, 93, 94, 95, 96, 97, 98, 99, 100, 101, 102, 103, 104, 105, 108, 109, 110, 111, 112, 113, 114, 115, 116, 117] (L' := [(1, .slice A1 l1.length c1), (7, .int .i64 (Int.tmod (wi a2) 5000)), (11, .pointer (some ⟨b82, 0, none⟩)), (13, .pointer (some ⟨b87, 0, none⟩)), (77, .int .i64 (l1.length : Int)), (78, .int .i64 x78_l2), (91, .pointer (some ⟨b87, 0, none⟩)), (92, .slice A1 l1.length c1), (93, .int .i64 x78_l2), (94, .pointer (some (adr A1 x78_l2.toNat 1))), (95, .int .i64 v111), (96, .int .i64 (Int.tmod (wi a2) 5000)), (97, .int .i64 (wi (v111 + (Int.tmod (wi a2) 5000)))), (98, .int .i64 r113), (99, .pointer (some ⟨b82, 0, none⟩)), (100, .slice A1 l1.length c1), (101, .int .i64 x78_l2), (102, .pointer (some (adr A1 x78_l2.toNat 1))), (103, .int .i64 v111), (104, .int .i64 r122), (105, .bool (r113 != r122)), (108, undef), (109, undef), (110, undef), (111, undef), (112, undef), (113, undef), (114, undef), (115, undef), (116, undef), (117, .bool true)]) (by kernel_rfl) ?_
          refine WD.nil (by kernel_rfl) ?_
          refine At.go ?_
          refine WC.condT (by kernel_rfl) (by kernel_rfl) (by kernel_rfl) ?_
          refine WC.seq (by kernel_rfl) ?_
          refine WC.reg [0] (by kernel_rfl) (by kernel_rfl) ?_
          refine WR.runk [0] [] [6] (L' := [(6, .bool false)]) (w' := w129) (by kernel_rfl) ?_
          refine WR.nil ?_
          refine At.go ?_
          refine WC.ret (by kernel_rfl) ?_
          refine At.blockRet ?_
          refine At.thenRet ?_
          refine At.thenRet ?_
          obtain rfl := Option.some.inj H
          have hS : Sat w129 (rf w0) [O49 b82 y79, O49 b87 y84] := hS.sel [0, 1] (by kernel_rfl)
          refine At.weaken [6] (L' := [(6, .bool false)]) (by kernel_rfl) ?_
          exact hn0 false _ rfl hS
        · replace H := ite_f H hb131
          refine WD.weaken [1, 7, 11, 13, 15, 77, 78, 91, 92, 93, 94, 95, 96, 97, 98, 99, 100, 101, 102, 103, 104, 105, 107] (L' := [(1, .slice A1 l1.length c1), (7, .int .i64 (Int.tmod (wi a2) 5000)), (11, .pointer (some ⟨b82, 0, none⟩)), (13, .pointer (some ⟨b87, 0, none⟩)), (15, .int .i64 x78_l2), (77, .int .i64 (l1.length : Int)), (78, .int .i64 x78_l2), (91, .pointer (some ⟨b87, 0, none⟩)), (92, .slice A1 l1.length c1), (93, .int .i64 x78_l2), (94, .pointer (some (adr A1 x78_l2.toNat 1))), (95, .int .i64 v111), (96, .int .i64 (Int.tmod (wi a2) 5000)), (97, .int .i64 (wi (v111 + (Int.tmod (wi a2) 5000)))), (98, .int .i64 r113), (99, .pointer (some ⟨b82, 0, none⟩)), (100, .slice A1 l1.length c1), (101, .int .i64 x78_l2), (102, .pointer (some (adr A1 x78_l2.toNat 1))), (103, .int .i64 v111), (104, .int .i64 r122), (105, .bool (r113 != r122)), (107, .bool false)]) (by kernel_rfl) ?_
          refine WD.pure (i := 27) (v := .pointer (some ⟨b87, 0, none⟩)) (by kernel_rfl) (by kernel_rfl) (fun _ => by kernel_rfl) ?_
          refine WD.weaken [1, 7, 11, 13, 15, 77, 78, 91, 92, 93, 94, 95, 96, 97, 98, 99, 100, 101, 102, 103, 104, 105, 107, 108] (L' := [(1, .slice A1 l1.length c1), (7, .int .i64 (Int.tmod (wi a2) 5000)), (11, .pointer (some ⟨b82, 0, none⟩)), (13, .pointer (some ⟨b87, 0, none⟩)), (15, .int .i64 x78_l2), (77, .int .i64 (l1.length : Int)), (78, .int .i64 x78_l2), (91, .pointer (some ⟨b87, 0, none⟩)), (92, .slice A1 l1.length c1), (93, .int .i64 x78_l2), (94, .pointer (some (adr A1 x78_l2.toNat 1))), (95, .int .i64 v111), (96, .int .i64 (Int.tmod (wi a2) 5000)), (97, .int .i64 (wi (v111 + (Int.tmod (wi a2) 5000)))), (98, .int .i64 r113), (99, .pointer (some ⟨b82, 0, none⟩)), (100, .slice A1 l1.length c1), (101, .int .i64 x78_l2), (102, .pointer (some (adr A1 x78_l2.toNat 1))), (103, .int .i64 v111), (104, .int .i64 r122), (105, .bool (r113 != r122)), (107, .bool false), (108, .pointer (some ⟨b87, 0, none⟩))]) (by kernel_rfl) ?_
          refine WD.pure (i := 28) (v := .slice A1 l1.length c1) (by kernel_rfl) (by kernel_rfl) (fun _ => by kernel_rfl) ?_
          refine WD.weaken [1, 7, 11, 13, 15, 77, 78, 91, 92, 93, 94, 95, 96, 97, 98, 99, 100, 101, 102, 103, 104, 105, 107, 108, 109] (L' := [(1, .slice A1 l1.length c1), (7, .int .i64 (Int.tmod (wi a2) 5000)), (11, .pointer (some ⟨b82, 0, none⟩)), (13, .pointer (some ⟨b87, 0, none⟩)), (15, .int .i64 x78_l2), (77, .int .i64 (l1.length : Int)), (78, .int .i64 x78_l2), (91, .pointer (some ⟨b87, 0, none⟩)), (92, .slice A1 l1.length c1), (93, .int .i64 x78_l2), (94, .pointer (some (adr A1 x78_l2.toNat 1))), (95, .int .i64 v111), (96, .int .i64 (Int.tmod (wi a2) 5000)), (97, .int .i64 (wi (v111 + (Int.tmod (wi a2) 5000)))), (98, .int .i64 r113), (99, .pointer (some ⟨b82, 0, none⟩)), (100, .slice A1 l1.length c1), (101, .int .i64 x78_l2), (102, .pointer (some (adr A1 x78_l2.toNat 1))), (103, .int .i64 v111), (104, .int .i64 r122), (105, .bool (r113 != r122)), (107, .bool false), (108, .pointer (some ⟨b87, 0, none⟩)), (109, .slice A1 l1.length c1)]) (by kernel_rfl) ?_
          refine WD.pure (i := 29) (v := .int .i64 x78_l2) (by kernel_rfl) (by kernel_rfl) (fun _ => by kernel_rfl) ?_
          refine WD.weaken [1, 7, 11, 13, 77, 78, 91, 92, 93, 94, 95, 96, 97, 98, 99, 100, 101, 102, 103, 104, 105, 107, 108, 109, 110] (L' := [(1, .slice A1 l1.length c1), (7, .int .i64 (Int.tmod (wi a2) 5000)), (11, .pointer (some ⟨b82, 0, none⟩)), (13, .pointer (some ⟨b87, 0, none⟩)), (77, .int .i64 (l1.length : Int)), (78, .int .i64 x78_l2), (91, .pointer (some ⟨b87, 0, none⟩)), (92, .slice A1 l1.length c1), (93, .int .i64 x78_l2), (94, .pointer (some (adr A1 x78_l2.toNat 1))), (95, .int .i64 v111), (96, .int .i64 (Int.tmod (wi a2) 5000)), (97, .int .i64 (wi (v111 + (Int.tmod (wi a2) 5000)))), (98, .int .i64 r113), (99, .pointer (some ⟨b82, 0, none⟩)), (100, .slice A1 l1.length c1), (101, .int .i64 x78_l2), (102, .pointer (some (adr A1 x78_l2.toNat 1))), (103, .int .i64 v111), (104, .int .i64 r122), (105, .bool (r113 != r122)), (107, .bool false), (108, .pointer (some ⟨b87, 0, none⟩)), (109, .slice A1 l1.length c1), (110, .int .i64 x78_l2)]) (by kernel_rfl) ?_
          refine WD.ofP (i := 30) (by kernel_rfl) (PSt.idx (k := .i64) (.tmp 109) (.tmp 110) (by kernel_rfl) (by kernel_rfl) E22 (by kernel_rfl) (by kernel_rfl) (rdS.up R1 hS.sub0) e112 ?_)
          refine WD.weaken [1, 7, 11, 13, 77, 78, 91, 92, 93, 94, 95, 96, 97, 98, 99, 100, 101, 102, 103, 104, 105, 107, 108, 109, 110, 111] (L' := [(1, .slice A1 l1.length c1), (7, .int .i64 (Int.tmod (wi a2) 5000)), (11, .pointer (some ⟨b82, 0, none⟩)), (13, .pointer (some ⟨b87, 0, none⟩)), (77, .int .i64 (l1.length : Int)), (78, .int .i64 x78_l2), (91, .pointer (some ⟨b87, 0, none⟩)), (92, .slice A1 l1.length c1), (93, .int .i64 x78_l2), (94, .pointer (some (adr A1 x78_l2.toNat 1))), (95, .int .i64 v111), (96, .int .i64 (Int.tmod (wi a2) 5000)), (97, .int .i64 (wi (v111 + (Int.tmod (wi a2) 5000)))), (98, .int .i64 r113), (99, .pointer (some ⟨b82, 0, none⟩)), (100, .slice A1 l1.length c1), (101, .int .i64 x78_l2), (102, .pointer (some (adr A1 x78_l2.toNat 1))), (103, .int .i64 v111), (104, .int .i64 r122), (105, .bool (r113 != r122)), (107, .bool false), (108, .pointer (some ⟨b87, 0, none⟩)), (109, .slice A1 l1.length c1), (110, .int .i64 x78_l2), (111, .pointer (some (adr A1 x78_l2.toNat 1)))]) (by kernel_rfl) ?_
          refine WD.ofR (i := 31) (by kernel_rfl) (RSt.loadInt (t := 3) (.tmp 111) (by kernel_rfl) (by kernel_rfl) (by kernel_rfl) (by kernel_rfl) (rdS.up R1 hS.sub0) e112 ?_)
          refine WD.weaken [1, 7, 11, 13, 77, 78, 91, 92, 93, 94, 95, 96, 97, 98, 99, 100, 101, 102, 103, 104, 105, 107, 108, 109, 110, 111, 112] (L' := [(1, .slice A1 l1.length c1), (7, .int .i64 (Int.tmod (wi a2) 5000)), (11, .pointer (some ⟨b82, 0, none⟩)), (13, .pointer (some ⟨b87, 0, none⟩)), (77, .int .i64 (l1.length : Int)), (78, .int .i64 x78_l2), (91, .pointer (some ⟨b87, 0, none⟩)), (92, .slice A1 l1.length c1), (93, .int .i64 x78_l2), (94, .pointer (some (adr A1 x78_l2.toNat 1))), (95, .int .i64 v111), (96, .int .i64 (Int.tmod (wi a2) 5000)), (97, .int .i64 (wi (v111 + (Int.tmod (wi a2) 5000)))), (98, .int .i64 r113), (99, .pointer (some ⟨b82, 0, none⟩)), (100, .slice A1 l1.length c1), (101, .int .i64 x78_l2), (102, .pointer (some (adr A1 x78_l2.toNat 1))), (103, .int .i64 v111), (104, .int .i64 r122), (105, .bool (r113 != r122)), (107, .bool false), (108, .pointer (some ⟨b87, 0, none⟩)), (109, .slice A1 l1.length c1), (110, .int .i64 x78_l2), (111, .pointer (some (adr A1 x78_l2.toNat 1))), (112, .int .i64 v111)]) (by kernel_rfl) ?_
          refine WD.pure (i := 32) (v := .int .i64 (Int.tmod (wi a2) 5000)) (by kernel_rfl) (by kernel_rfl) (fun _ => by kernel_rfl) ?_
          refine WD.weaken [1, 7, 11, 13, 77, 78, 91, 92, 93, 94, 95, 96, 97, 98, 99, 100, 101, 102, 103, 104, 105, 107, 108, 109, 110, 111, 112, 113] (L' := [(1, .slice A1 l1.length c1), (7, .int .i64 (Int.tmod (wi a2) 5000)), (11, .pointer (some ⟨b82, 0, none⟩)), (13, .pointer (some ⟨b87, 0, none⟩)), (77, .int .i64 (l1.length : Int)), (78, .int .i64 x78_l2), (91, .pointer (some ⟨b87, 0, none⟩)), (92, .slice A1 l1.length c1), (93, .int .i64 x78_l2), (94, .pointer (some (adr A1 x78_l2.toNat 1))), (95, .int .i64 v111), (96, .int .i64 (Int.tmod (wi a2) 5000)), (97, .int .i64 (wi (v111 + (Int.tmod (wi a2) 5000)))), (98, .int .i64 r113), (99, .pointer (some ⟨b82, 0, none⟩)), (100, .slice A1 l1.length c1), (101, .int .i64 x78_l2), (102, .pointer (some (adr A1 x78_l2.toNat 1))), (103, .int .i64 v111), (104, .int .i64 r122), (105, .bool (r113 != r122)), (107, .bool false), (108, .pointer (some ⟨b87, 0, none⟩)), (109, .slice A1 l1.length c1), (110, .int .i64 x78_l2), (111, .pointer (some (adr A1 x78_l2.toNat 1))), (112, .int .i64 v111), (113, .int .i64 (Int.tmod (wi a2) 5000))]) (by kernel_rfl) ?_
          refine WD.pure (i := 33) (v := .int .i64 (wi (v111 + (Int.tmod (wi a2) 5000)))) (by kernel_rfl) (by kernel_rfl) (fun _ => by kernel_rfl) ?_
          refine WD.weaken [1, 7, 11, 13, 77, 78, 91, 92, 93, 94, 95, 96, 97, 98, 99, 100, 101, 102, 103, 104, 105, 107, 108, 109, 110, 111, 112, 113, 114] (L' := [(1, .slice A1 l1.length c1), (7, .int .i64 (Int.tmod (wi a2) 5000)), (11, .pointer (some ⟨b82, 0, none⟩)), (13, .pointer (some ⟨b87, 0, none⟩)), (77, .int .i64 (l1.length : Int)), (78, .int .i64 x78_l2), (91, .pointer (some ⟨b87, 0, none⟩)), (92, .slice A1 l1.length c1), (93, .int .i64 x78_l2), (94, .pointer (some (adr A1 x78_l2.toNat 1))), (95, .int .i64 v111), (96, .int .i64 (Int.tmod (wi a2) 5000)), (97, .int .i64 (wi (v111 + (Int.tmod (wi a2) 5000)))), (98, .int .i64 r113), (99, .pointer (some ⟨b82, 0, none⟩)), (100, .slice A1 l1.length c1), (101, .int .i64 x78_l2), (102, .pointer (some (adr A1 x78_l2.toNat 1))), (103, .int .i64 v111), (104, .int .i64 r122), (105, .bool (r113 != r122)), (107, .bool false), (108, .pointer (some ⟨b87, 0, none⟩)), (109, .slice A1 l1.length c1), (110, .int .i64 x78_l2), (111, .pointer (some (adr A1 x78_l2.toNat 1))), (112, .int .i64 v111), (113, .int .i64 (Int.tmod (wi a2) 5000)), (114, .int .i64 (wi (v111 + (Int.tmod (wi a2) 5000))))]) (by kernel_rfl) ?_
          obtain ⟨r132, e133, H⟩ := bind_ex H
          refine WD.act (i := 34) (by kernel_rfl) (St.call (by kernel_rfl) (f := 14) (args := #[.pointer (some ⟨b87, 0, none⟩), .int .i64 (wi (v111 + (Int.tmod (wi a2) 5000)))]) (by kernel_rfl) (sparse_Set_Has.calls w129 (.pointer (some ⟨b87, 0, none⟩)) (some y84) (Sat.rdAny 1 hS rfl (fun _ h => O49.rd _ _ _ h)) (wi (v111 + (Int.tmod (wi a2) 5000))) r132 e133) ?_)
          rintro _ w139 ⟨rfl, hS140⟩
          have hS : Sat w139 (rf w0) [O49 b82 y79, O49 b87 y84] := hS.ext hS140
          refine ⟨(asked.anc (by kernel_rfl) (asked.anc (by kernel_rfl) (asked.anc (by kernel_rfl) (asked.nil _ _)))), ?_⟩
          refine WD.weaken [1, 7, 11, 13, 77, 78, 91, 92, 93, 94, 95, 96, 97, 98, 99, 100, 101, 102, 103, 104, 105, 107, 108, 109, 110, 111, 112, 113, 114, 115] (L' := [(1, .slice A1 l1.length c1), (7, .int .i64 (Int.tmod (wi a2) 5000)), (11, .pointer (some ⟨b82, 0, none⟩)), (13, .pointer (some ⟨b87, 0, none⟩)), (77, .int .i64 (l1.length : Int)), (78, .int .i64 x78_l2), (91, .pointer (some ⟨b87, 0, none⟩)), (92, .slice A1 l1.length c1), (93, .int .i64 x78_l2), (94, .pointer (some (adr A1 x78_l2.toNat 1))), (95, .int .i64 v111), (96, .int .i64 (Int.tmod (wi a2) 5000)), (97, .int .i64 (wi (v111 + (Int.tmod (wi a2) 5000)))), (98, .int .i64 r113), (99, .pointer (some ⟨b82, 0, none⟩)), (100, .slice A1 l1.length c1), (101, .int .i64 x78_l2), (102, .pointer (some (adr A1 x78_l2.toNat 1))), (103, .int .i64 v111), (104, .int .i64 r122), (105, .bool (r113 != r122)), (107, .bool false), (108, .pointer (some ⟨b87, 0, none⟩)), (109, .slice A1 l1.length c1), (110, .int .i64 x78_l2), (111, .pointer (some (adr A1 x78_l2.toNat 1))), (112, .int .i64 v111), (113, .int .i64 (Int.tmod (wi a2) 5000)), (114, .int .i64 (wi (v111 + (Int.tmod (wi a2) 5000)))), (115, .bool r132)]) (by kernel_rfl) ?_
          refine WD.pure (i := 35) (v := .bool (!r132)) (by kernel_rfl) (by kernel_rfl) (fun _ => by kernel_rfl) ?_
          refine WD.weaken [1, 7, 11, 13, 77, 78, 91, 92, 93, 94, 95, 96, 97, 98, 99, 100, 101, 102, 103, 104, 105, 107, 108, 109, 110, 111, 112, 113, 114, 115, 116] (L' := [(1, .slice A1 l1.length c1), (7, .int .i64 (Int.tmod (wi a2) 5000)), (11, .pointer (some ⟨b82, 0, none⟩)), (13, .pointer (some ⟨b87, 0, none⟩)), (77, .int .i64 (l1.length : Int)), (78, .int .i64 x78_l2), (91, .pointer (some ⟨b87, 0, none⟩)), (92, .slice A1 l1.length c1), (93, .int .i64 x78_l2), (94, .pointer (some (adr A1 x78_l2.toNat 1))), (95, .int .i64 v111), (96, .int .i64 (Int.tmod (wi a2) 5000)), (97, .int .i64 (wi (v111 + (Int.tmod (wi a2) 5000)))), (98, .int .i64 r113), (99, .pointer (some ⟨b82, 0, none⟩)), (100, .slice A1 l1.length c1), (101, .int .i64 x78_l2), (102, .pointer (some (adr A1 x78_l2.toNat 1))), (103, .int .i64 v111), (104, .int .i64 r122), (105, .bool (r113 != r122)), (107, .bool false), (108, .pointer (some ⟨b87, 0, none⟩)), (109, .slice A1 l1.length c1), (110, .int .i64 x78_l2), (111, .pointer (some (adr A1 x78_l2.toNat 1))), (112, .int .i64 v111), (113, .int .i64 (Int.tmod (wi a2) 5000)), (114, .int .i64 (wi (v111 + (Int.tmod (wi a2) 5000)))), (115, .bool r132), (116, .bool (!r132))]) (by kernel_rfl) ?_
          refine WD.pure (i := 36) (v := .bool (!r132)) (by kernel_rfl) (by kernel_rfl) (fun _ => by kernel_rfl) ?_
          refine WD.weaken [1, 7, 11, 13, 77, 78, 91, 92, 93, 94, 95, 96, 97, 98, 99, 100, 101, 102, 103, 104, 105, 108, 109, 110, 111, 112, 113, 114, 115, 116, 117] (L' := [(1, .slice A1 l1.length c1), (7, .int .i64 (Int.tmod (wi a2) 5000)), (11, .pointer (some ⟨b82, 0, none⟩)), (13, .pointer (some ⟨b87, 0, none⟩)), (77, .int .i64 (l1.length : Int)), (78, .int .i64 x78_l2), (91, .pointer (some ⟨b87, 0, none⟩)), (92, .slice A1 l1.length c1), (93, .int .i64 x78_l2), (94, .pointer (some (adr A1 x78_l2.toNat 1))), (95, .int .i64 v111), (96, .int .i64 (Int.tmod (wi a2) 5000)), (97, .int .i64 (wi (v111 + (Int.tmod (wi a2) 5000)))), (98, .int .i64 r113), (99, .pointer (some ⟨b82, 0, none⟩)), (100, .slice A1 l1.length c1), (101, .int .i64 x78_l2), (102, .pointer (some (adr A1 x78_l2.toNat 1))), (103, .int .i64 v111), (104, .int .i64 r122), (105, .bool (r113 != r122)), (108, .pointer (some ⟨b87, 0, none⟩)), (109, .slice A1 l1.length c1), (110, .int .i64 x78_l2), (111, .pointer (some (adr A1 x78_l2.toNat 1))), (112, .int .i64 v111), (113, .int .i64 (Int.tmod (wi a2) 5000)), (114, .int .i64 (wi (v111 + (Int.tmod (wi a2) 5000)))), (115, .bool r132), (116, .bool (!r132)), (117, .bool (!r132))]) (by kernel_rfl) ?_
          refine WD.nil (by kernel_rfl) ?_
          refine At.go ?_
          refine WC.cond (by kernel_rfl) (!r132) (by kernel_rfl) (by kernel_rfl) (fun hb141 => ?_) (fun hb141 => ?_)
          · replace H := ite_t H hb141
            refine WC.seq (by kernel_rfl) ?_
            refine WC.reg [0] (by kernel_rfl) (by kernel_rfl) ?_
            refine WR.runk [0] [] [6] (L' := [(6, .bool false)]) (w' := w139) (by kernel_rfl) ?_
            refine WR.nil ?_
            refine At.go ?_
            refine WC.ret (by kernel_rfl) ?_
            refine At.blockRet ?_
            refine At.thenRet ?_
            refine At.thenRet ?_
            obtain rfl := Option.some.inj H
            have hS : Sat w139 (rf w0) [O49 b82 y79, O49 b87 y84] := hS.sel [0, 1] (by kernel_rfl)
            refine At.weaken [6] (L' := [(6, .bool false)]) (by kernel_rfl) ?_
            exact hn0 false _ rfl hS
          · replace H := ite_f H hb141
            refine WC.skip (by kernel_rfl) ?_
            refine At.blockNormal ?_
            refine At.go ?_
            refine WC.reg [0, 1] (by kernel_rfl) (by kernel_rfl) ?_
            refine WR.runk [0, 1] [] [1, 7, 11, 13, 77, 78, 91, 92, 93, 94, 95, 96, 97, 98, 99, 100, 101, 102, 103, 104, 105, 108, 109, 110, 111, 112, 113, 114, 115] (L' := [(1, .slice A1 l1.length c1), (7, .int .i64 (Int.tmod (wi a2) 5000)), (11, .pointer (some ⟨b82, 0, none⟩)), (13, .pointer (some ⟨b87, 0, none⟩)), (77, .int .i64 (l1.length : Int)), (78, .int .i64 (wi (x78_l2 + 1))), (91, .pointer (some ⟨b87, 0, none⟩)), (92, .slice A1 l1.length c1), (93, .int .i64 x78_l2), (94, .pointer (some (adr A1 x78_l2.toNat 1))), (95, .int .i64 v111), (96, .int .i64 (Int.tmod (wi a2) 5000)), (97, .int .i64 (wi (v111 + (Int.tmod (wi a2) 5000)))), (98, .int .i64 r113), (99, .pointer (some ⟨b82, 0, none⟩)), (100, .slice A1 l1.length c1), (101, .int .i64 x78_l2), (102, .pointer (some (adr A1 x78_l2.toNat 1))), (103, .int .i64 v111), (104, .int .i64 r122), (105, .bool (r113 != r122)), (108, .pointer (some ⟨b87, 0, none⟩)), (109, .slice A1 l1.length c1), (110, .int .i64 x78_l2), (111, .pointer (some (adr A1 x78_l2.toNat 1))), (112, .int .i64 v111), (113, .int .i64 (Int.tmod (wi a2) 5000)), (114, .int .i64 (wi (v111 + (Int.tmod (wi a2) 5000)))), (115, .bool r132)]) (w' := w139) (by kernel_rfl) ?_
            refine WR.nil ?_
            have hS : Sat w139 (rf w0) [O49 b82 y79, O49 b87 y84] := hS.sel [0, 1] (by kernel_rfl)
            refine At.again ?_
            refine WL.weaken [1, 7, 11, 13, 77, 78] (L' := [(1, .slice A1 l1.length c1), (7, .int .i64 (Int.tmod (wi a2) 5000)), (11, .pointer (some ⟨b82, 0, none⟩)), (13, .pointer (some ⟨b87, 0, none⟩)), (77, .int .i64 (l1.length : Int)), (78, .int .i64 (wi (x78_l2 + 1)))]) (by kernel_rfl) ?_
            exact ih (wi (x78_l2 + 1)) _ hS H
    · replace H := ite_f H hb89
      refine WC.exit (by kernel_rfl) ?_
      refine At.thenExit ?_
      refine At.thenExit ?_
      obtain rfl := Option.some.inj H
      have hS : Sat w (rf w0) [O49 b82 y79, O49 b87 y84] := hS.sel [0, 1] (by kernel_rfl)
      refine At.weaken [7, 13] (L' := [(7, .int .i64 (Int.tmod (wi a2) 5000)), (13, .pointer (some ⟨b87, 0, none⟩))]) (by kernel_rfl) ?_
      exact hn1 () _ rfl hS
theorem colophonlaw03_SparseMoves.calls (w0 : World) (a0 : Int) (A1 : Option Addr) (c1 : Nat) (l1 : List Int) (R1 : rdS (r0 (.int .i64)) 1 (hp w0) A1 c1 l1) (a2 : Int) (r : Bool) (H : colophonlaw03_SparseMoves.f a0 l1 a2 = some r) :
    Calls Try.prog 3 #[.int .i64 a0, .slice A1 l1.length c1, .int .u16 a2] w0 (fun e w' => ∃ v, e = .returned v ∧ colophonlaw03_SparseMoves.post w0 r v w') := by
  have hS : Sat w0 (rf w0) [] := Sat.start w0
  unfold colophonlaw03_SparseMoves.f at H
  refine calls_of_WC (vs := [.int .i64 a0, .slice A1 l1.length c1, .int .u16 a2]) Try.func3 (c := C3) (n := 123) (by kernel_rfl) (by kernel_rfl) (by kernel_rfl) ?_
  refine WC.seq (by kernel_rfl) ?_
  refine WC.reg [0] (by kernel_rfl) (by kernel_rfl) ?_
  refine WR.runk [0] [] [0, 1, 2] (L' := [(0, .int .i64 a0), (1, .slice A1 l1.length c1), (2, .int .u16 a2)]) (w' := w0) (by kernel_rfl) ?_
  refine WR.nil ?_
  refine At.go ?_
  refine WC.seq (by kernel_rfl) ?_
  refine WC.seq (by kernel_rfl) ?_
  refine WC.reg [0, 1] (by kernel_rfl) (by kernel_rfl) ?_
  obtain ⟨r1, e2, H⟩ := bind_ex H
  refine WR.st (St.call (by kernel_rfl) (f := 8) (args := #[]) (by kernel_rfl) (colophonlaw03_first.calls w0  r1 e2) ?_)
  rintro _ w8 ⟨rfl, hS9⟩
  have hS : Sat w8 (rf w0) [] := hS.ext hS9
  refine WR.runk [1] [] [0, 1, 2, 17] (L' := [(0, .int .i64 a0), (1, .slice A1 l1.length c1), (2, .int .u16 a2), (17, .bool (!r1))]) (w' := w8) (by kernel_rfl) ?_
  refine WR.nil ?_
  refine At.go ?_
  refine WC.cond (by kernel_rfl) (!r1) (by kernel_rfl) (by kernel_rfl) (fun hb10 => ?_) (fun hb10 => ?_)
  · replace H := ite_t H hb10
    refine WC.seq (by kernel_rfl) ?_
    refine WC.reg [0] (by kernel_rfl) (by kernel_rfl) ?_
    refine WR.runk [0] [] [6] (L' := [(6, .bool false)]) (w' := w8) (by kernel_rfl) ?_
    refine WR.nil ?_
    refine At.go ?_
    refine WC.ret (by kernel_rfl) ?_
    refine At.thenRet ?_
    obtain rfl := Option.some.inj H
    have hS : Sat w8 (rf w0) [] := hS.sel [] (by kernel_rfl)
    exact At.body [.bool false] (by kernel_rfl) ⟨_, rfl, rfl, hS⟩
  · replace H := ite_f H hb10
    refine WC.skip (by kernel_rfl) ?_
    refine At.go ?_
    refine WC.seq (by kernel_rfl) ?_
    refine WC.seq (by kernel_rfl) ?_
    refine WC.reg [0, 1, 2, 3, 4, 5, 6, 7, 8, 9, 10, 11, 12] (by kernel_rfl) (by kernel_rfl) ?_
    refine WR.runk [0, 1, 2, 3] [4, 5, 6, 7, 8, 9, 10, 11, 12] [0, 1, 2, 21] (L' := [(0, .int .i64 a0), (1, .slice A1 l1.length c1), (2, .int .u16 a2), (21, .bool (decide ((l1.length : Int) > 500)))]) (w' := w8) (by kernel_rfl) ?_
    refine WR.split 21 (b := decide ((l1.length : Int) > 500)) (by kernel_rfl) (fun hb11 => ?_) (fun hb11 => ?_)
    · replace H := ite_t H hb11
      refine WR.runk [4, 5, 6, 7, 8, 9, 10, 11, 12] [] [0, 1, 2, 30] (L' := [(0, .int .i64 a0), (1, .slice A1 l1.length c1), (2, .int .u16 a2), (30, .bool true)]) (w' := w8) (by kernel_rfl) ?_
      refine WR.nil ?_
      refine At.go ?_
      refine WC.condT (by kernel_rfl) (by kernel_rfl) (by kernel_rfl) ?_
      refine WC.seq (by kernel_rfl) ?_
      refine WC.reg [0] (by kernel_rfl) (by kernel_rfl) ?_
      refine WR.runk [0] [] [6] (L' := [(6, .bool true)]) (w' := w8) (by kernel_rfl) ?_
      refine WR.nil ?_
      refine At.go ?_
      refine WC.ret (by kernel_rfl) ?_
      refine At.thenRet ?_
      obtain rfl := Option.some.inj H
      have hS : Sat w8 (rf w0) [] := hS.sel [] (by kernel_rfl)
      exact At.body [.bool true] (by kernel_rfl) ⟨_, rfl, rfl, hS⟩
    · replace H := ite_f H hb11
      refine WR.runk [4, 5, 6, 7] [8, 9, 10, 11, 12] [0, 1, 2, 25] (L' := [(0, .int .i64 a0), (1, .slice A1 l1.length c1), (2, .int .u16 a2), (25, .bool (decide (a0 > 20000)))]) (w' := w8) (by kernel_rfl) ?_
      refine WR.split 25 (b := decide (a0 > 20000)) (by kernel_rfl) (fun hb12 => ?_) (fun hb12 => ?_)
      · replace H := ite_t H hb12
        refine WR.runk [8, 9, 10, 11, 12] [] [0, 1, 2, 30] (L' := [(0, .int .i64 a0), (1, .slice A1 l1.length c1), (2, .int .u16 a2), (30, .bool true)]) (w' := w8) (by kernel_rfl) ?_
        refine WR.nil ?_
        refine At.go ?_
        refine WC.condT (by kernel_rfl) (by kernel_rfl) (by kernel_rfl) ?_
        refine WC.seq (by kernel_rfl) ?_
        refine WC.reg [0] (by kernel_rfl) (by kernel_rfl) ?_
        refine WR.runk [0] [] [6] (L' := [(6, .bool true)]) (w' := w8) (by kernel_rfl) ?_
        refine WR.nil ?_
        refine At.go ?_
        refine WC.ret (by kernel_rfl) ?_
        refine At.thenRet ?_
        obtain rfl := Option.some.inj H
        have hS : Sat w8 (rf w0) [] := hS.sel [] (by kernel_rfl)
        exact At.body [.bool true] (by kernel_rfl) ⟨_, rfl, rfl, hS⟩
      · replace H := ite_f H hb12
        refine WR.runk [8, 9] [10, 11, 12] [0, 1, 2, 25, 26, 27] (L' := [(0, .int .i64 a0), (1, .slice A1 l1.length c1), (2, .int .u16 a2), (25, .bool false), (26, .int .i64 a0), (27, .slice A1 l1.length c1)]) (w' := w8) (by kernel_rfl) ?_
        obtain ⟨r13, e14, H⟩ := bind_ex H
        refine WR.st (St.call (by kernel_rfl) (f := 9) (args := #[.int .i64 a0, .slice A1 l1.length c1]) (by kernel_rfl) (colophonref03_Right.calls w8 a0 A1 c1 l1 (rdS.up R1 hS.sub0) r13 e14) ?_)
        rintro _ w20 ⟨rfl, hS21⟩
        have hS : Sat w20 (rf w0) [] := hS.ext hS21
        refine WR.runk [11, 12] [] [0, 1, 2, 30] (L' := [(0, .int .i64 a0), (1, .slice A1 l1.length c1), (2, .int .u16 a2), (30, .bool (!r13))]) (w' := w20) (by kernel_rfl) ?_
        refine WR.nil ?_
        refine At.go ?_
        refine WC.cond (by kernel_rfl) (!r13) (by kernel_rfl) (by kernel_rfl) (fun hb22 => ?_) (fun hb22 => ?_)
        · replace H := ite_t H hb22
          refine WC.seq (by kernel_rfl) ?_
          refine WC.reg [0] (by kernel_rfl) (by kernel_rfl) ?_
          refine WR.runk [0] [] [6] (L' := [(6, .bool true)]) (w' := w20) (by kernel_rfl) ?_
          refine WR.nil ?_
          refine At.go ?_
          refine WC.ret (by kernel_rfl) ?_
          refine At.thenRet ?_
          obtain rfl := Option.some.inj H
          have hS : Sat w20 (rf w0) [] := hS.sel [] (by kernel_rfl)
          exact At.body [.bool true] (by kernel_rfl) ⟨_, rfl, rfl, hS⟩
        · replace H := ite_f H hb22
          refine WC.skip (by kernel_rfl) ?_
          refine At.go ?_
          refine WC.seq (by kernel_rfl) ?_
          refine WC.reg [0, 1, 2, 3] (by kernel_rfl) (by kernel_rfl) ?_
          refine WR.runk [0, 1, 2, 3] [] [0, 1, 7] (L' := [(0, .int .i64 a0), (1, .slice A1 l1.length c1), (7, .int .i64 (Int.tmod (wi a2) 5000))]) (w' := w20) (by kernel_rfl) ?_
          refine WR.nil ?_
          refine At.go ?_
          refine WC.seq (by kernel_rfl) ?_
          refine WC.reg [0] (by kernel_rfl) (by kernel_rfl) ?_
          refine WR.runk [0] [] [0, 1, 7, 8] (L' := [(0, .int .i64 a0), (1, .slice A1 l1.length c1), (7, .int .i64 (Int.tmod (wi a2) 5000)), (8, .slice none 0 0)]) (w' := w20) (by kernel_rfl) ?_
          refine WR.nil ?_
          refine At.go ?_
          refine WC.seq (by kernel_rfl) ?_
          refine WC.seq (by kernel_rfl) ?_
          refine WC.reg [0, 1, 2] (by kernel_rfl) (by kernel_rfl) ?_
          refine WR.runk [0, 1, 2] [] [0, 1, 7, 8, 34, 35, 36] (L' := [(0, .int .i64 a0), (1, .slice A1 l1.length c1), (7, .int .i64 (Int.tmod (wi a2) 5000)), (8, .slice none 0 0), (34, .slice A1 l1.length c1), (35, .int .i64 (l1.length : Int)), (36, .int .i64 0)]) (w' := w20) (by kernel_rfl) ?_
          refine WR.nil ?_
          refine At.go ?_
          refine WC.block (by kernel_rfl) ?_
          have hS := hS.addNil (α := Int) 3 (r0 (.int .i64)) 1
          have hS : Sat w20 (rf w0) [osl 3 (r0 (.int .i64)) 1 none 0 ([] : List Int)] := hS.sel [0] (by kernel_rfl)
          obtain ⟨o33, e34, H⟩ := bind_ex H
          refine WC.loop (by kernel_rfl) ?_
          refine WL.weaken [0, 1, 7, 8, 34, 35, 36] (L' := [(0, .int .i64 a0), (1, .slice A1 l1.length c1), (7, .int .i64 (Int.tmod (wi a2) 5000)), (8, .slice none 0 0), (34, .slice A1 l1.length c1), (35, .int .i64 (l1.length : Int)), (36, .int .i64 0)]) (by kernel_rfl) ?_
          refine colophonlaw03_SparseMoves.l1_ok w0 a0 A1 c1 l1 a2 R1 o33 (fun A8_q35 c8_q35 w36 hS => ?_) FU ([] : List Int) 0 none 0 _ hS e34
          refine At.hit ?_
          refine At.go ?_
          refine WC.seq (by kernel_rfl) ?_
          refine WC.reg [0, 1, 2, 3, 4, 5, 6, 7] (by kernel_rfl) (by kernel_rfl) ?_
          refine WR.runk [0, 1] [2, 3, 4, 5, 6, 7] [0, 1, 7, 8, 48, 49] (L' := [(0, .int .i64 a0), (1, .slice A1 l1.length c1), (7, .int .i64 (Int.tmod (wi a2) 5000)), (8, .slice A8_q35 o33.length c8_q35), (48, .int .i64 a0), (49, .slice A1 l1.length c1)]) (w' := w36) (by kernel_rfl) ?_
          obtain ⟨r38, e39, H⟩ := bind_ex H
          refine WR.st (St.call (by kernel_rfl) (f := 10) (args := #[.int .i64 a0, .slice A1 l1.length c1]) (by kernel_rfl) (sparse_New.calls w36 a0 A1 c1 l1 (rdS.up R1 hS.sub0) r38 e39) ?_)
          rintro _ w45 ⟨pv47, rfl, hS46⟩
          have hS : Sat w45 (rf w0) [optP O49 pv47 r38.1, osl 3 (r0 (.int .i64)) 1 A8_q35 c8_q35 o33] := hS.ext hS46
          refine WR.runk [3, 4, 5, 6, 7] [] [0, 1, 7, 8, 11, 12] (L' := [(0, .int .i64 a0), (1, .slice A1 l1.length c1), (7, .int .i64 (Int.tmod (wi a2) 5000)), (8, .slice A8_q35 o33.length c8_q35), (11, pv47), (12, .int .i64 r38.2)]) (w' := w45) (by kernel_rfl) ?_
          refine WR.nil ?_
          refine At.go ?_
          refine WC.seq (by kernel_rfl) ?_
          refine WC.reg [0, 1, 2, 3, 4, 5, 6, 7, 8, 9] (by kernel_rfl) (by kernel_rfl) ?_
          refine WR.runk [0, 1, 2, 3] [4, 5, 6, 7, 8, 9] [1, 7, 11, 12, 56, 57] (L' := [(1, .slice A1 l1.length c1), (7, .int .i64 (Int.tmod (wi a2) 5000)), (11, pv47), (12, .int .i64 r38.2), (56, .int .i64 (wi (a0 + (Int.tmod (wi a2) 5000)))), (57, .slice A8_q35 o33.length c8_q35)]) (w' := w45) (by kernel_rfl) ?_
          obtain ⟨r48, e49, H⟩ := bind_ex H
          refine WR.st (St.call (by kernel_rfl) (f := 10) (args := #[.int .i64 (wi (a0 + (Int.tmod (wi a2) 5000))), .slice A8_q35 o33.length c8_q35]) (by kernel_rfl) (sparse_New.calls w45 (wi (a0 + (Int.tmod (wi a2) 5000))) A8_q35 c8_q35 o33 (Sat.rdAt 1 hS rfl) r48 e49) ?_)
          rintro _ w55 ⟨pv57, rfl, hS56⟩
          have hS : Sat w55 (rf w0) [optP O49 pv57 r48.1, optP O49 pv47 r38.1, osl 3 (r0 (.int .i64)) 1 A8_q35 c8_q35 o33] := hS.ext hS56
          refine WR.runk [5, 6, 7, 8, 9] [] [1, 7, 11, 12, 13, 14] (L' := [(1, .slice A1 l1.length c1), (7, .int .i64 (Int.tmod (wi a2) 5000)), (11, pv47), (12, .int .i64 r38.2), (13, pv57), (14, .int .i64 r48.2)]) (w' := w55) (by kernel_rfl) ?_
          refine WR.nil ?_
          refine At.go ?_
          refine WC.seq (by kernel_rfl) ?_
          refine WC.seq (by kernel_rfl) ?_
          refine WC.reg [0, 1, 2, 3, 4, 5, 6, 7, 8, 9, 10, 11, 12, 13, 14] (by kernel_rfl) (by kernel_rfl) ?_
          refine WR.runk [0, 1, 2] [3, 4, 5, 6, 7, 8, 9, 10, 11, 12, 13, 14] [1, 7, 11, 13, 14, 63] (L' := [(1, .slice A1 l1.length c1), (7, .int .i64 (Int.tmod (wi a2) 5000)), (11, pv47), (13, pv57), (14, .int .i64 r48.2), (63, .bool (r38.2 != 0))]) (w' := w55) (by kernel_rfl) ?_
          refine WR.split 63 (b := (r38.2 != 0)) (by kernel_rfl) (fun hb58 => ?_) (fun hb58 => ?_)
          · replace H := ite_t H hb58
            refine WR.runk [3, 4, 5, 6, 7, 8, 9, 10, 11, 12, 13, 14] [] [1, 7, 11, 13, 75] (L' := [(1, .slice A1 l1.length c1), (7, .int .i64 (Int.tmod (wi a2) 5000)), (11, pv47), (13, pv57), (75, .bool true)]) (w' := w55) (by kernel_rfl) ?_
            refine WR.nil ?_
            refine At.go ?_
            refine WC.condT (by kernel_rfl) (by kernel_rfl) (by kernel_rfl) ?_
            refine WC.seq (by kernel_rfl) ?_
            refine WC.reg [0] (by kernel_rfl) (by kernel_rfl) ?_
            refine WR.runk [0] [] [6] (L' := [(6, .bool false)]) (w' := w55) (by kernel_rfl) ?_
            refine WR.nil ?_
            refine At.go ?_
            refine WC.ret (by kernel_rfl) ?_
            refine At.thenRet ?_
            obtain rfl := Option.some.inj H
            have hS : Sat w55 (rf w0) [] := hS.sel [] (by kernel_rfl)
            exact At.body [.bool false] (by kernel_rfl) ⟨_, rfl, rfl, hS⟩
          · replace H := ite_f H hb58
            refine WR.runk [3, 4, 5, 6] [7, 8, 9, 10, 11, 12, 13, 14] [1, 7, 11, 13, 67] (L' := [(1, .slice A1 l1.length c1), (7, .int .i64 (Int.tmod (wi a2) 5000)), (11, pv47), (13, pv57), (67, .bool (r48.2 != 0))]) (w' := w55) (by kernel_rfl) ?_
            refine WR.split 67 (b := (r48.2 != 0)) (by kernel_rfl) (fun hb59 => ?_) (fun hb59 => ?_)
            · replace H := ite_t H hb59
              refine WR.runk [7, 8, 9, 10, 11, 12, 13, 14] [] [1, 7, 11, 13, 75] (L' := [(1, .slice A1 l1.length c1), (7, .int .i64 (Int.tmod (wi a2) 5000)), (11, pv47), (13, pv57), (75, .bool true)]) (w' := w55) (by kernel_rfl) ?_
              refine WR.nil ?_
              refine At.go ?_
              refine WC.condT (by kernel_rfl) (by kernel_rfl) (by kernel_rfl) ?_
              refine WC.seq (by kernel_rfl) ?_
              refine WC.reg [0] (by kernel_rfl) (by kernel_rfl) ?_
              refine WR.runk [0] [] [6] (L' := [(6, .bool false)]) (w' := w55) (by kernel_rfl) ?_
              refine WR.nil ?_
              refine At.go ?_
              refine WC.ret (by kernel_rfl) ?_
              refine At.thenRet ?_
              obtain rfl := Option.some.inj H
              have hS : Sat w55 (rf w0) [] := hS.sel [] (by kernel_rfl)
              exact At.body [.bool false] (by kernel_rfl) ⟨_, rfl, rfl, hS⟩
            · replace H := ite_f H hb59
              refine WR.runk [7] [8, 9, 10, 11, 12, 13, 14] [1, 7, 11, 13, 67, 68] (L' := [(1, .slice A1 l1.length c1), (7, .int .i64 (Int.tmod (wi a2) 5000)), (11, pv47), (13, pv57), (67, .bool false), (68, pv57)]) (w' := w55) (by kernel_rfl) ?_
              obtain ⟨r60, e61, H⟩ := bind_ex H
              refine WR.st (St.call (by kernel_rfl) (f := 11) (args := #[pv57]) (by kernel_rfl) (sparse_Set_Bound.calls w55 (pv57) r48.1 (Sat.rdAny 0 hS rfl (fun _ h => optP.rdd (t := 49) (κ := (.pair (.int .i64) (.pair (.int .i64) (.pair (.int .i64) (.pair (.ptr 68 (.pair (.int .i64) (.pair (.slice 43 (.int .u64)) (.pair (.slice 3 (.int .i64)) (.int .i64))))) (.pair (.ptr 66 (.pair (.int .i64) (.pair (.int .i64) (.slice 43 (.int .u64))))) (.ptr 66 (.pair (.int .i64) (.pair (.int .i64) (.slice 43 (.int .u64))))))))))) (O := O49) O49.rd h)) r60 e61) ?_)
              rintro _ w67 ⟨rfl, hS68⟩
              have hS : Sat w67 (rf w0) [optP O49 pv57 r48.1, optP O49 pv47 r38.1, osl 3 (r0 (.int .i64)) 1 A8_q35 c8_q35 o33] := hS.ext hS68
              refine WR.runk [9] [10, 11, 12, 13, 14] [1, 7, 11, 13, 67, 69, 70] (L' := [(1, .slice A1 l1.length c1), (7, .int .i64 (Int.tmod (wi a2) 5000)), (11, pv47), (13, pv57), (67, .bool false), (69, .int .i64 r60), (70, pv47)]) (w' := w67) (by kernel_rfl) ?_
              obtain ⟨r69, e70, H⟩ := bind_ex H
              refine WR.st (St.call (by kernel_rfl) (f := 11) (args := #[pv47]) (by kernel_rfl) (sparse_Set_Bound.calls w67 (pv47) r38.1 (Sat.rdAny 1 hS rfl (fun _ h => optP.rdd (t := 49) (κ := (.pair (.int .i64) (.pair (.int .i64) (.pair (.int .i64) (.pair (.ptr 68 (.pair (.int .i64) (.pair (.slice 43 (.int .u64)) (.pair (.slice 3 (.int .i64)) (.int .i64))))) (.pair (.ptr 66 (.pair (.int .i64) (.pair (.int .i64) (.slice 43 (.int .u64))))) (.ptr 66 (.pair (.int .i64) (.pair (.int .i64) (.slice 43 (.int .u64))))))))))) (O := O49) O49.rd h)) r69 e70) ?_)
              rintro _ w76 ⟨rfl, hS77⟩
              have hS : Sat w76 (rf w0) [optP O49 pv57 r48.1, optP O49 pv47 r38.1, osl 3 (r0 (.int .i64)) 1 A8_q35 c8_q35 o33] := hS.ext hS77
              refine WR.runk [11, 12, 13, 14] [] [1, 7, 11, 13, 75] (L' := [(1, .slice A1 l1.length c1), (7, .int .i64 (Int.tmod (wi a2) 5000)), (11, pv47), (13, pv57), (75, .bool (r60 != (wi (r69 + (Int.tmod (wi a2) 5000)))))]) (w' := w76) (by kernel_rfl) ?_
              refine WR.nil ?_
              refine At.go ?_
              refine WC.cond (by kernel_rfl) (r60 != (wi (r69 + (Int.tmod (wi a2) 5000)))) (by kernel_rfl) (by kernel_rfl) (fun hb78 => ?_) (fun hb78 => ?_)
              · replace H := ite_t H hb78
                refine WC.seq (by kernel_rfl) ?_
                refine WC.reg [0] (by kernel_rfl) (by kernel_rfl) ?_
                refine WR.runk [0] [] [6] (L' := [(6, .bool false)]) (w' := w76) (by kernel_rfl) ?_
                refine WR.nil ?_
                refine At.go ?_
                refine WC.ret (by kernel_rfl) ?_
                refine At.thenRet ?_
                obtain rfl := Option.some.inj H
                have hS : Sat w76 (rf w0) [] := hS.sel [] (by kernel_rfl)
                exact At.body [.bool false] (by kernel_rfl) ⟨_, rfl, rfl, hS⟩
              · replace H := ite_f H hb78
                refine WC.skip (by kernel_rfl) ?_
                refine At.go ?_
                refine WC.seq (by kernel_rfl) ?_
                refine WC.seq (by kernel_rfl) ?_
                refine WC.reg [0, 1, 2] (by kernel_rfl) (by kernel_rfl) ?_
                refine WR.runk [0, 1, 2] [] [1, 7, 11, 13, 77, 78] (L' := [(1, .slice A1 l1.length c1), (7, .int .i64 (Int.tmod (wi a2) 5000)), (11, pv47), (13, pv57), (77, .int .i64 (l1.length : Int)), (78, .int .i64 0)]) (w' := w76) (by kernel_rfl) ?_
                refine WR.nil ?_
                refine At.go ?_
                refine WC.block (by kernel_rfl) ?_
                have hS : Sat w76 (rf w0) [optP O49 pv47 r38.1, optP O49 pv57 r48.1, osl 3 (r0 (.int .i64)) 1 A8_q35 c8_q35 o33] := hS.sel [1, 0, 2] (by kernel_rfl)
                obtain ⟨y79, hr80, H⟩ := bind_ex H
                obtain ⟨b82, hv81, hN162⟩ := optP.some hS hr80
                subst hv81
                have hS : Sat w76 (rf w0) [O49 b82 y79, optP O49 pv57 r48.1, osl 3 (r0 (.int .i64)) 1 A8_q35 c8_q35 o33] := hN162
                have hS : Sat w76 (rf w0) [optP O49 pv57 r48.1, O49 b82 y79, osl 3 (r0 (.int .i64)) 1 A8_q35 c8_q35 o33] := hS.sel [1, 0, 2] (by kernel_rfl)
                obtain ⟨y84, hr85, H⟩ := bind_ex H
                obtain ⟨b87, hv86, hN161⟩ := optP.some hS hr85
                subst hv86
                have hS : Sat w76 (rf w0) [O49 b87 y84, O49 b82 y79, osl 3 (r0 (.int .i64)) 1 A8_q35 c8_q35 o33] := hN161
                have hS : Sat w76 (rf w0) [O49 b82 y79, O49 b87 y84] := hS.sel [1, 0] (by kernel_rfl)
                obtain ⟨o142, e143, H⟩ := bind_ex H
                refine WC.loop (by kernel_rfl) ?_
                refine WL.weaken [1, 7, 11, 13, 77, 78] (L' := [(1, .slice A1 l1.length c1), (7, .int .i64 (Int.tmod (wi a2) 5000)), (11, .pointer (some ⟨b82, 0, none⟩)), (13, .pointer (some ⟨b87, 0, none⟩)), (77, .int .i64 (l1.length : Int)), (78, .int .i64 0)]) (by kernel_rfl) ?_
                refine colophonlaw03_SparseMoves.l2_ok w0 A1 c1 l1 a2 y79 b82 y84 b87 R1 o142 (fun o144 w146 ho147 hS => ?_) (fun o148 w150 ho151 hS => ?_) FU 0 _ hS e143
                · subst ho147
                  dsimp only at H
                  refine At.blockRet ?_
                  refine At.thenRet ?_
                  obtain rfl := Option.some.inj H
                  have hS : Sat w146 (rf w0) [] := hS.sel [] (by kernel_rfl)
                  exact At.body [.bool o144] (by kernel_rfl) ⟨_, rfl, rfl, hS⟩
                · subst ho151
                  dsimp only at H
                  refine At.hit ?_
                  refine At.go ?_
                  refine WC.seq (by kernel_rfl) ?_
                  refine WC.reg [0, 1, 2, 3, 4] (by kernel_rfl) (by kernel_rfl) ?_
                  refine WR.runk [0, 1] [2, 3, 4] [119, 120] (L' := [(119, .pointer (some ⟨b87, 0, none⟩)), (120, .int .i64 (Int.tmod (wi a2) 5000))]) (w' := w150) (by kernel_rfl) ?_
                  obtain ⟨r152, e153, H⟩ := bind_ex H
                  refine WR.st (St.call (by kernel_rfl) (f := 13) (args := #[.pointer (some ⟨b87, 0, none⟩), .int .i64 (Int.tmod (wi a2) 5000)]) (by kernel_rfl) (sparse_Set_Rank.calls w150 (.pointer (some ⟨b87, 0, none⟩)) (some y84) (Sat.rdAny 1 hS rfl (fun _ h => O49.rd _ _ _ h)) (Int.tmod (wi a2) 5000) r152 e153) ?_)
                  rintro _ w159 ⟨rfl, hS160⟩
                  have hS : Sat w159 (rf w0) [O49 b82 y79, O49 b87 y84] := hS.ext hS160
                  refine WR.runk [3, 4] [] [6] (L' := [(6, .bool (r152 == 0))]) (w' := w159) (by kernel_rfl) ?_
                  refine WR.nil ?_
                  refine At.go ?_
                  refine WC.ret (by kernel_rfl) ?_
                  obtain rfl := Option.some.inj H
                  have hS : Sat w159 (rf w0) [] := hS.sel [] (by kernel_rfl)
                  exact At.body [.bool (r152 == 0)] (by kernel_rfl) ⟨_, rfl, rfl, hS⟩
end Go.Proofs.Ytomeiphaohjeoaa
