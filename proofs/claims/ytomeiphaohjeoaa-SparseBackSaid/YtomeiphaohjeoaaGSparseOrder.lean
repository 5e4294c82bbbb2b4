/-
  Printed by gen.py (my own tool): for each Go function a plain Lean function and the proof that a call of it does what that function says.
-/
import Derived.Test.YtomeiphaohjeoaaGP1c
set_option linter.unusedVariables false
set_option linter.unusedSimpArgs false
set_option maxRecDepth 100000
namespace Go.Proofs.Ytomeiphaohjeoaa
open Go Go.Gol
/-! ### 5 colophon/colophonlaw03.SparseOrder -/
def colophonlaw03_SparseOrder.l1 (l1 : List Int) (a2 : Int) (r73 : Int) (y82 : Int × Int × Int × (Option (Int × (List Int) × (List Int) × Int)) × (Option (Int × Int × (List Int))) × (Option (Int × Int × (List Int)))) : Nat → Int → Option (Sum Bool Unit)
  | 0, _ => none
  | k + 1, x56_l1 => (if decide (x56_l1 < (l1.length : Int)) then ((sparse_Set_At.f (some y82) x56_l1).bind fun r88 => ((sparse_Set_Rank.f (some y82) r88).bind fun r97 => (if (r97 != x56_l1) then some (.inl false) else ((at? l1 x56_l1).bind fun v107 => ((sparse_Set_Has.f (some y82) v107).bind fun r109 => (if (!r109) then some (.inl false) else ((sparse_Set_At.f (some y82) x56_l1).bind fun r119 => (if ((decide (r119 < a2)) != (decide (x56_l1 < r73))) then some (.inl false) else colophonlaw03_SparseOrder.l1 l1 a2 r73 y82 k (wi (x56_l1 + 1)))))))))) else some (.inr ()))
def colophonlaw03_SparseOrder.f (a0 : Int) (l1 : List Int) (a2 : Int) : Option Bool := (colophonlaw03_first.f.bind fun r1 => (if (!r1) then some false else (if decide ((l1.length : Int) > 1000) then some true else (if decide (a0 > 50000) then some true else ((sparse_New.f a0 l1).bind fun r13 => (if (r13.2 != 0) then ((sparse_Set_Len.f r13.1).bind fun r24 => (if (r24 == 0) then ((sparse_Set_Bound.f r13.1).bind fun r34 => (if (r34 == 0) then ((sparse_Set_At.f r13.1 0).bind fun r44 => (if (r44 == (-1)) then ((sparse_Set_Rank.f r13.1 5).bind fun r54 => (if (r54 == 0) then ((sparse_Set_Has.f r13.1 0).bind fun r64 => some (!r64)) else some false)) else some false)) else some false)) else some false)) else ((sparse_Set_Rank.f r13.1 a2).bind fun r73 => (r13.1.bind fun y82 => ((colophonlaw03_SparseOrder.l1 l1 a2 r73 y82 FU 0).bind fun o129 => (match o129 with | .inl o131 => some o131 | .inr o135 => ((sparse_Set_Rank.f (some y82) a0).bind fun r139 => (if (r139 == (l1.length : Int)) then ((sparse_Set_Rank.f (some y82) 0).bind fun r149 => (if (r149 == 0) then ((sparse_Set_Has.f (some y82) (-1)).bind fun r159 => (if (!r159) then ((sparse_Set_Has.f (some y82) a0).bind fun r169 => some (!r169)) else some false)) else some false)) else some false))))))))))))
def colophonlaw03_SparseOrder.post (w : World) (r : Bool) (v : Value) (w' : World) : Prop := v = (.bool r : Value) ∧ Sat w' (rf w) []
theorem colophonlaw03_SparseOrder.l1_ok {Q} (w0 : World) (a0 : Int) (A1 : Option Addr) (c1 : Nat) (l1 : List Int) (a2 : Int) (r73 : Int) (y82 : Int × Int × Int × (Option (Int × (List Int) × (List Int) × Int)) × (Option (Int × Int × (List Int))) × (Option (Int × Int × (List Int)))) (b85 : Nat) (R1 : rdS (r0 (.int .i64)) 1 (hp w0) A1 c1 l1) (out : Sum Bool Unit) (hn0 : ∀ (o0 : Bool) (w : World), out = (.inl o0) → Sat w (rf w0) [O49 b85 y82] → At Q .ret 109 [(6, .bool o0)] w) (hn1 : ∀ (o1 : Unit) (w : World), out = (.inr o1) → Sat w (rf w0) [O49 b85 y82] → At Q (.exit 0) 109 [(0, .int .i64 a0), (1, .slice A1 l1.length c1), (7, .pointer (some ⟨b85, 0, none⟩))] w) :
    ∀ (k : Nat) (x56_l1 : Int) (w : World), Sat w (rf w0) [O49 b85 y82] → colophonlaw03_SparseOrder.l1 l1 a2 r73 y82 k x56_l1 = some out → WL Try.prog (cbody (cbody (cr (cl (cr (cr (cr (cr (cr (cr C5)))))))))) Q 109 [(0, .int .i64 a0), (1, .slice A1 l1.length c1), (2, .int .i64 a2), (7, .pointer (some ⟨b85, 0, none⟩)), (9, .int .i64 r73), (55, .int .i64 (l1.length : Int)), (56, .int .i64 x56_l1)] w := by
  intro k
  induction k with
  | zero => intro x56_l1 w hS H; exact absurd (show none = some out from H) (by simp)
  | succ k ih =>
    intro x56_l1 w hS H
    unfold colophonlaw03_SparseOrder.l1 at H
    refine WL.round ?_
    refine WC.seq (by kernel_rfl) ?_
    refine WC.reg [0] (by kernel_rfl) (by kernel_rfl) ?_
    refine WR.runk [0] [] [0, 1, 2, 7, 9, 55, 56, 57] (L' := [(0, .int .i64 a0), (1, .slice A1 l1.length c1), (2, .int .i64 a2), (7, .pointer (some ⟨b85, 0, none⟩)), (9, .int .i64 r73), (55, .int .i64 (l1.length : Int)), (56, .int .i64 x56_l1), (57, .bool (decide (x56_l1 < (l1.length : Int))))]) (w' := w) (by kernel_rfl) ?_
    refine WR.nil ?_
    refine At.go ?_
    refine WC.seq (by kernel_rfl) ?_
    refine WC.cond (by kernel_rfl) (decide (x56_l1 < (l1.length : Int))) (by kernel_rfl) (by kernel_rfl) (fun hb87 => ?_) (fun hb87 => ?_)
    · replace H := ite_t H hb87
      refine WC.skip (by kernel_rfl) ?_
      refine At.go ?_
      refine WC.seq (by kernel_rfl) ?_
      refine WC.block (by kernel_rfl) ?_
      refine WC.seq (by kernel_rfl) ?_
      refine WC.reg [0, 1] (by kernel_rfl) (by kernel_rfl) ?_
      refine WR.runk [0, 1] [] [0, 1, 2, 7, 9, 10, 55, 56] (L' := [(0, .int .i64 a0), (1, .slice A1 l1.length c1), (2, .int .i64 a2), (7, .pointer (some ⟨b85, 0, none⟩)), (9, .int .i64 r73), (10, .int .i64 x56_l1), (55, .int .i64 (l1.length : Int)), (56, .int .i64 x56_l1)]) (w' := w) (by kernel_rfl) ?_
      refine WR.nil ?_
      refine At.go ?_
      refine WC.seq (by kernel_rfl) ?_
      refine WC.reg [0, 1, 2, 3, 4, 5, 6, 7, 8, 9, 10, 11, 12, 13, 14, 15, 16, 17, 18, 19, 20, 21, 22, 23, 24, 25, 26] (by kernel_rfl) (by kernel_rfl) ?_
      refine WR.runk [0, 1, 2] [3, 4, 5, 6, 7, 8, 9, 10, 11, 12, 13, 14, 15, 16, 17, 18, 19, 20, 21, 22, 23, 24, 25, 26] [0, 1, 2, 7, 9, 10, 55, 56, 59, 60, 61] (L' := [(0, .int .i64 a0), (1, .slice A1 l1.length c1), (2, .int .i64 a2), (7, .pointer (some ⟨b85, 0, none⟩)), (9, .int .i64 r73), (10, .int .i64 x56_l1), (55, .int .i64 (l1.length : Int)), (56, .int .i64 x56_l1), (59, .pointer (some ⟨b85, 0, none⟩)), (60, .pointer (some ⟨b85, 0, none⟩)), (61, .int .i64 x56_l1)]) (w' := w) (by kernel_rfl) ?_
      obtain ⟨r88, e89, H⟩ := bind_ex H
      refine WR.st (St.call (by kernel_rfl) (f := 12) (args := #[.pointer (some ⟨b85, 0, none⟩), .int .i64 x56_l1]) (by kernel_rfl) (sparse_Set_At.calls w (.pointer (some ⟨b85, 0, none⟩)) (some y82) (Sat.rdAny 0 hS rfl (fun _ h => O49.rd _ _ _ h)) x56_l1 r88 e89) ?_)
      rintro _ w95 ⟨rfl, hS96⟩
      have hS : Sat w95 (rf w0) [O49 b85 y82] := hS.ext hS96
      refine WR.runk [] [4, 5, 6, 7, 8, 9, 10, 11, 12, 13, 14, 15, 16, 17, 18, 19, 20, 21, 22, 23, 24, 25, 26] [0, 1, 2, 7, 9, 10, 55, 56, 59, 62] (L' := [(0, .int .i64 a0), (1, .slice A1 l1.length c1), (2, .int .i64 a2), (7, .pointer (some ⟨b85, 0, none⟩)), (9, .int .i64 r73), (10, .int .i64 x56_l1), (55, .int .i64 (l1.length : Int)), (56, .int .i64 x56_l1), (59, .pointer (some ⟨b85, 0, none⟩)), (62, .int .i64 r88)]) (w' := w95) (by kernel_rfl) ?_
      obtain ⟨r97, e98, H⟩ := bind_ex H
      refine WR.st (St.call (by kernel_rfl) (f := 13) (args := #[.pointer (some ⟨b85, 0, none⟩), .int .i64 r88]) (by kernel_rfl) (sparse_Set_Rank.calls w95 (.pointer (some ⟨b85, 0, none⟩)) (some y82) (Sat.rdAny 0 hS rfl (fun _ h => O49.rd _ _ _ h)) r88 r97 e98) ?_)
      rintro _ w104 ⟨rfl, hS105⟩
      have hS : Sat w104 (rf w0) [O49 b85 y82] := hS.ext hS105
      refine WR.runk [5, 6, 7] [8, 9, 10, 11, 12, 13, 14, 15, 16, 17, 18, 19, 20, 21, 22, 23, 24, 25, 26] [0, 1, 2, 7, 9, 10, 55, 56, 66] (L' := [(0, .int .i64 a0), (1, .slice A1 l1.length c1), (2, .int .i64 a2), (7, .pointer (some ⟨b85, 0, none⟩)), (9, .int .i64 r73), (10, .int .i64 x56_l1), (55, .int .i64 (l1.length : Int)), (56, .int .i64 x56_l1), (66, .bool (r97 != x56_l1))]) (w' := w104) (by kernel_rfl) ?_
      refine WR.split 66 (b := (r97 != x56_l1)) (by kernel_rfl) (fun hb106 => ?_) (fun hb106 => ?_)
      · replace H := ite_t H hb106
        refine WR.runk [8, 9, 10, 11, 12, 13, 14, 15, 16, 17, 18, 19, 20, 21, 22, 23, 24, 25, 26] [] [0, 1, 2, 7, 9, 55, 56, 67, 68, 69, 70, 71, 72, 73, 76, 77, 78, 79, 80, 81, 82, 83, 84, 85] (L' := [(0, .int .i64 a0), (1, .slice A1 l1.length c1), (2, .int .i64 a2), (7, .pointer (some ⟨b85, 0, none⟩)), (9, .int .i64 r73), (55, .int .i64 (l1.length : Int)), (56, .int .i64 x56_l1), (67, undef), (68, undef), (69, undef), (70, undef), (71, undef), (72, undef), (73, undef), (76, undef), (77, undef), (78, undef), (79, undef), (80, undef), (81, undef), (82, undef), (83, undef), (84, undef), (85, .bool true)]) (w' := w104) (by kernel_rfl) ?_
        refine WR.nil ?_
        refine At.go ?_
        refine WC.condT (by kernel_rfl) (by kernel_rfl) (by kernel_rfl) ?_
        refine WC.seq (by kernel_rfl) ?_
        refine WC.reg [0] (by kernel_rfl) (by kernel_rfl) ?_
        refine WR.runk [0] [] [6] (L' := [(6, .bool false)]) (w' := w104) (by kernel_rfl) ?_
        refine WR.nil ?_
        refine At.go ?_
        refine WC.ret (by kernel_rfl) ?_
        refine At.blockRet ?_
        refine At.thenRet ?_
        refine At.thenRet ?_
        obtain rfl := Option.some.inj H
        have hS : Sat w104 (rf w0) [O49 b85 y82] := hS.sel [0] (by kernel_rfl)
        refine At.weaken [6] (L' := [(6, .bool false)]) (by kernel_rfl) ?_
        exact hn0 false _ rfl hS
      · replace H := ite_f H hb106
        refine WR.runk [8, 9, 10] [11, 12, 13, 14, 15, 16, 17, 18, 19, 20, 21, 22, 23, 24, 25, 26] [0, 1, 2, 7, 9, 10, 55, 56, 66, 67, 68, 69] (L' := [(0, .int .i64 a0), (1, .slice A1 l1.length c1), (2, .int .i64 a2), (7, .pointer (some ⟨b85, 0, none⟩)), (9, .int .i64 r73), (10, .int .i64 x56_l1), (55, .int .i64 (l1.length : Int)), (56, .int .i64 x56_l1), (66, .bool false), (67, .pointer (some ⟨b85, 0, none⟩)), (68, .slice A1 l1.length c1), (69, .int .i64 x56_l1)]) (w' := w104) (by kernel_rfl) ?_
        obtain ⟨v107, e108, H⟩ := bind_ex H
        refine WR.st (St.ofP (PSt.idx (k := .i64) (.tmp 68) (.tmp 69) (by kernel_rfl) (by kernel_rfl) E22 (by kernel_rfl) (by kernel_rfl) (rdS.up R1 hS.sub0) e108 ?_))
        refine WR.runk [] [12, 13, 14, 15, 16, 17, 18, 19, 20, 21, 22, 23, 24, 25, 26] [0, 1, 2, 7, 9, 10, 55, 56, 66, 67, 68, 69, 70] (L' := [(0, .int .i64 a0), (1, .slice A1 l1.length c1), (2, .int .i64 a2), (7, .pointer (some ⟨b85, 0, none⟩)), (9, .int .i64 r73), (10, .int .i64 x56_l1), (55, .int .i64 (l1.length : Int)), (56, .int .i64 x56_l1), (66, .bool false), (67, .pointer (some ⟨b85, 0, none⟩)), (68, .slice A1 l1.length c1), (69, .int .i64 x56_l1), (70, .pointer (some (adr A1 x56_l1.toNat 1)))]) (w' := w104) (by kernel_rfl) ?_
        refine WR.st (St.ofR (RSt.loadInt (t := 3) (.tmp 70) (by kernel_rfl) (by kernel_rfl) (by kernel_rfl) (by kernel_rfl) (rdS.up R1 hS.sub0) e108 ?_))
        refine WR.runk [] [13, 14, 15, 16, 17, 18, 19, 20, 21, 22, 23, 24, 25, 26] [0, 1, 2, 7, 9, 10, 55, 56, 66, 67, 68, 69, 70, 71] (L' := [(0, .int .i64 a0), (1, .slice A1 l1.length c1), (2, .int .i64 a2), (7, .pointer (some ⟨b85, 0, none⟩)), (9, .int .i64 r73), (10, .int .i64 x56_l1), (55, .int .i64 (l1.length : Int)), (56, .int .i64 x56_l1), (66, .bool false), (67, .pointer (some ⟨b85, 0, none⟩)), (68, .slice A1 l1.length c1), (69, .int .i64 x56_l1), (70, .pointer (some (adr A1 x56_l1.toNat 1))), (71, .int .i64 v107)]) (w' := w104) (by kernel_rfl) ?_
        obtain ⟨r109, e110, H⟩ := bind_ex H
        refine WR.st (St.call (by kernel_rfl) (f := 14) (args := #[.pointer (some ⟨b85, 0, none⟩), .int .i64 v107]) (by kernel_rfl) (sparse_Set_Has.calls w104 (.pointer (some ⟨b85, 0, none⟩)) (some y82) (Sat.rdAny 0 hS rfl (fun _ h => O49.rd _ _ _ h)) v107 r109 e110) ?_)
        rintro _ w116 ⟨rfl, hS117⟩
        have hS : Sat w116 (rf w0) [O49 b85 y82] := hS.ext hS117
        refine WR.runk [14, 15, 16] [17, 18, 19, 20, 21, 22, 23, 24, 25, 26] [0, 1, 2, 7, 9, 10, 55, 56, 67, 68, 69, 70, 71, 72, 73, 75] (L' := [(0, .int .i64 a0), (1, .slice A1 l1.length c1), (2, .int .i64 a2), (7, .pointer (some ⟨b85, 0, none⟩)), (9, .int .i64 r73), (10, .int .i64 x56_l1), (55, .int .i64 (l1.length : Int)), (56, .int .i64 x56_l1), (67, .pointer (some ⟨b85, 0, none⟩)), (68, .slice A1 l1.length c1), (69, .int .i64 x56_l1), (70, .pointer (some (adr A1 x56_l1.toNat 1))), (71, .int .i64 v107), (72, .bool r109), (73, .bool (!r109)), (75, .bool (!r109))]) (w' := w116) (by kernel_rfl) ?_
        refine WR.split 75 (b := (!r109)) (by kernel_rfl) (fun hb118 => ?_) (fun hb118 => ?_)
        · replace H := ite_t H hb118
          refine WR.runk [17, 18, 19, 20, 21, 22, 23, 24, 25, 26] [] [0, 1, 2, 7, 9, 55, 56, 67, 68, 69, 70, 71, 72, 73, 76, 77, 78, 79, 80, 81, 82, 83, 84, 85] (L' := [(0, .int .i64 a0), (1, .slice A1 l1.length c1), (2, .int .i64 a2), (7, .pointer (some ⟨b85, 0, none⟩)), (9, .int .i64 r73), (55, .int .i64 (l1.length : Int)), (56, .int .i64 x56_l1), (67, .pointer (some ⟨b85, 0, none⟩)), (68, .slice A1 l1.length c1), (69, .int .i64 x56_l1), (70, .pointer (some (adr A1 x56_l1.toNat 1))), (71, .int .i64 v107), (72, .bool r109), (73, .bool (!r109)), (76, undef), (77, undef), (78, undef), (79, undef), (80, undef), (81, undef), (82, undef), (83, undef), (84, undef), (85, .bool true)]) (w' := w116) (by kernel_rfl) ?_
          refine WR.nil ?_
          refine At.go ?_
          refine WC.condT (by kernel_rfl) (by kernel_rfl) (by kernel_rfl) ?_
          refine WC.seq (by kernel_rfl) ?_
          refine WC.reg [0] (by kernel_rfl) (by kernel_rfl) ?_
          refine WR.runk [0] [] [6] (L' := [(6, .bool false)]) (w' := w116) (by kernel_rfl) ?_
          refine WR.nil ?_
          refine At.go ?_
          refine WC.ret (by kernel_rfl) ?_
          refine At.blockRet ?_
          refine At.thenRet ?_
          refine At.thenRet ?_
          obtain rfl := Option.some.inj H
          have hS : Sat w116 (rf w0) [O49 b85 y82] := hS.sel [0] (by kernel_rfl)
          refine At.weaken [6] (L' := [(6, .bool false)]) (by kernel_rfl) ?_
          exact hn0 false _ rfl hS
        · replace H := ite_f H hb118
          refine WR.runk [17, 18] [19, 20, 21, 22, 23, 24, 25, 26] [0, 1, 2, 7, 9, 10, 55, 56, 67, 68, 69, 70, 71, 72, 73, 75, 76, 77] (L' := [(0, .int .i64 a0), (1, .slice A1 l1.length c1), (2, .int .i64 a2), (7, .pointer (some ⟨b85, 0, none⟩)), (9, .int .i64 r73), (10, .int .i64 x56_l1), (55, .int .i64 (l1.length : Int)), (56, .int .i64 x56_l1), (67, .pointer (some ⟨b85, 0, none⟩)), (68, .slice A1 l1.length c1), (69, .int .i64 x56_l1), (70, .pointer (some (adr A1 x56_l1.toNat 1))), (71, .int .i64 v107), (72, .bool r109), (73, .bool (!r109)), (75, .bool false), (76, .pointer (some ⟨b85, 0, none⟩)), (77, .int .i64 x56_l1)]) (w' := w116) (by kernel_rfl) ?_
          obtain ⟨r119, e120, H⟩ := bind_ex H
          refine WR.st (St.call (by kernel_rfl) (f := 12) (args := #[.pointer (some ⟨b85, 0, none⟩), .int .i64 x56_l1]) (by kernel_rfl) (sparse_Set_At.calls w116 (.pointer (some ⟨b85, 0, none⟩)) (some y82) (Sat.rdAny 0 hS rfl (fun _ h => O49.rd _ _ _ h)) x56_l1 r119 e120) ?_)
          rintro _ w126 ⟨rfl, hS127⟩
          have hS : Sat w126 (rf w0) [O49 b85 y82] := hS.ext hS127
          refine WR.runk [20, 21, 22, 23, 24, 25, 26] [] [0, 1, 2, 7, 9, 55, 56, 67, 68, 69, 70, 71, 72, 73, 76, 77, 78, 79, 80, 81, 82, 83, 84, 85] (L' := [(0, .int .i64 a0), (1, .slice A1 l1.length c1), (2, .int .i64 a2), (7, .pointer (some ⟨b85, 0, none⟩)), (9, .int .i64 r73), (55, .int .i64 (l1.length : Int)), (56, .int .i64 x56_l1), (67, .pointer (some ⟨b85, 0, none⟩)), (68, .slice A1 l1.length c1), (69, .int .i64 x56_l1), (70, .pointer (some (adr A1 x56_l1.toNat 1))), (71, .int .i64 v107), (72, .bool r109), (73, .bool (!r109)), (76, .pointer (some ⟨b85, 0, none⟩)), (77, .int .i64 x56_l1), (78, .int .i64 r119), (79, .int .i64 a2), (80, .bool (decide (r119 < a2))), (81, .int .i64 x56_l1), (82, .int .i64 r73), (83, .bool (decide (x56_l1 < r73))), (84, .bool ((decide (r119 < a2)) != (decide (x56_l1 < r73)))), (85, .bool ((decide (r119 < a2)) != (decide (x56_l1 < r73))))]) (w' := w126) (by kernel_rfl) ?_
          refine WR.nil ?_
          refine At.go ?_
          refine WC.cond (by kernel_rfl) ((decide (r119 < a2)) != (decide (x56_l1 < r73))) (by kernel_rfl) (by kernel_rfl) (fun hb128 => ?_) (fun hb128 => ?_)
          · replace H := ite_t H hb128
            refine WC.seq (by kernel_rfl) ?_
            refine WC.reg [0] (by kernel_rfl) (by kernel_rfl) ?_
            refine WR.runk [0] [] [6] (L' := [(6, .bool false)]) (w' := w126) (by kernel_rfl) ?_
            refine WR.nil ?_
            refine At.go ?_
            refine WC.ret (by kernel_rfl) ?_
            refine At.blockRet ?_
            refine At.thenRet ?_
            refine At.thenRet ?_
            obtain rfl := Option.some.inj H
            have hS : Sat w126 (rf w0) [O49 b85 y82] := hS.sel [0] (by kernel_rfl)
            refine At.weaken [6] (L' := [(6, .bool false)]) (by kernel_rfl) ?_
            exact hn0 false _ rfl hS
          · replace H := ite_f H hb128
            refine WC.skip (by kernel_rfl) ?_
            refine At.blockNormal ?_
            refine At.go ?_
            refine WC.reg [0, 1] (by kernel_rfl) (by kernel_rfl) ?_
            refine WR.runk [0, 1] [] [0, 1, 2, 7, 9, 55, 56, 67, 68, 69, 70, 71, 72, 73, 76, 77, 78, 79, 80, 81, 82, 83] (L' := [(0, .int .i64 a0), (1, .slice A1 l1.length c1), (2, .int .i64 a2), (7, .pointer (some ⟨b85, 0, none⟩)), (9, .int .i64 r73), (55, .int .i64 (l1.length : Int)), (56, .int .i64 (wi (x56_l1 + 1))), (67, .pointer (some ⟨b85, 0, none⟩)), (68, .slice A1 l1.length c1), (69, .int .i64 x56_l1), (70, .pointer (some (adr A1 x56_l1.toNat 1))), (71, .int .i64 v107), (72, .bool r109), (73, .bool (!r109)), (76, .pointer (some ⟨b85, 0, none⟩)), (77, .int .i64 x56_l1), (78, .int .i64 r119), (79, .int .i64 a2), (80, .bool (decide (r119 < a2))), (81, .int .i64 x56_l1), (82, .int .i64 r73), (83, .bool (decide (x56_l1 < r73)))]) (w' := w126) (by kernel_rfl) ?_
            refine WR.nil ?_
            have hS : Sat w126 (rf w0) [O49 b85 y82] := hS.sel [0] (by kernel_rfl)
            refine At.again ?_
            refine WL.weaken [0, 1, 2, 7, 9, 55, 56] (L' := [(0, .int .i64 a0), (1, .slice A1 l1.length c1), (2, .int .i64 a2), (7, .pointer (some ⟨b85, 0, none⟩)), (9, .int .i64 r73), (55, .int .i64 (l1.length : Int)), (56, .int .i64 (wi (x56_l1 + 1)))]) (by kernel_rfl) ?_
            exact ih (wi (x56_l1 + 1)) _ hS H
    · replace H := ite_f H hb87
      refine WC.exit (by kernel_rfl) ?_
      refine At.thenExit ?_
      refine At.thenExit ?_
      obtain rfl := Option.some.inj H
      have hS : Sat w (rf w0) [O49 b85 y82] := hS.sel [0] (by kernel_rfl)
      refine At.weaken [0, 1, 7] (L' := [(0, .int .i64 a0), (1, .slice A1 l1.length c1), (7, .pointer (some ⟨b85, 0, none⟩))]) (by kernel_rfl) ?_
      exact hn1 () _ rfl hS
theorem colophonlaw03_SparseOrder.calls (w0 : World) (a0 : Int) (A1 : Option Addr) (c1 : Nat) (l1 : List Int) (R1 : rdS (r0 (.int .i64)) 1 (hp w0) A1 c1 l1) (a2 : Int) (r : Bool) (H : colophonlaw03_SparseOrder.f a0 l1 a2 = some r) :
    Calls Try.prog 5 #[.int .i64 a0, .slice A1 l1.length c1, .int .i64 a2] w0 (fun e w' => ∃ v, e = .returned v ∧ colophonlaw03_SparseOrder.post w0 r v w') := by
  have hS : Sat w0 (rf w0) [] := Sat.start w0
  unfold colophonlaw03_SparseOrder.f at H
  refine calls_of_WC (vs := [.int .i64 a0, .slice A1 l1.length c1, .int .i64 a2]) Try.func5 (c := C5) (n := 109) (by kernel_rfl) (by kernel_rfl) (by kernel_rfl) ?_
  refine WC.seq (by kernel_rfl) ?_
  refine WC.reg [0] (by kernel_rfl) (by kernel_rfl) ?_
  refine WR.runk [0] [] [0, 1, 2] (L' := [(0, .int .i64 a0), (1, .slice A1 l1.length c1), (2, .int .i64 a2)]) (w' := w0) (by kernel_rfl) ?_
  refine WR.nil ?_
  refine At.go ?_
  refine WC.seq (by kernel_rfl) ?_
  refine WC.seq (by kernel_rfl) ?_
  refine WC.reg [0, 1] (by kernel_rfl) (by kernel_rfl) ?_
  obtain ⟨r1, e2, H⟩ := bind_ex H
  refine WR.st (St.call (by kernel_rfl) (f := 8) (args := #[]) (by kernel_rfl) (colophonlaw03_first.calls w0  r1 e2) ?_)
  rintro _ w8 ⟨rfl, hS9⟩
  have hS : Sat w8 (rf w0) [] := hS.ext hS9
  refine WR.runk [1] [] [0, 1, 2, 12] (L' := [(0, .int .i64 a0), (1, .slice A1 l1.length c1), (2, .int .i64 a2), (12, .bool (!r1))]) (w' := w8) (by kernel_rfl) ?_
  refine WR.nil ?_
  refine At.go ?_
  refine WC.cond (by kernel_rfl) (!r1) (by kernel_rfl) (by kernel_rfl) (fun hb10 => ?_) (fun hb10 => ?_)
  · replace H := ite_t H hb10
    refine WC.seq (by kernel_rfl) ?_
    refine WC.reg [0] (by kernel_rfl) (by kernel_rfl) ?_
    refine WR.runk [0] [] [6] (L' := [(6, .bool false)]) (w' := w8) (by kernel_rfl) ?_
    refine WR.nil ?_
    refine At.go ?_
    refine WC.ret (by kernel_rfl) ?_
    refine At.thenRet ?_
    obtain rfl := Option.some.inj H
    have hS : Sat w8 (rf w0) [] := hS.sel [] (by kernel_rfl)
    exact At.body [.bool false] (by kernel_rfl) ⟨_, rfl, rfl, hS⟩
  · replace H := ite_f H hb10
    refine WC.skip (by kernel_rfl) ?_
    refine At.go ?_
    refine WC.seq (by kernel_rfl) ?_
    refine WC.seq (by kernel_rfl) ?_
    refine WC.reg [0, 1, 2, 3, 4, 5, 6] (by kernel_rfl) (by kernel_rfl) ?_
    refine WR.runk [0, 1, 2, 3] [4, 5, 6] [0, 1, 2, 16] (L' := [(0, .int .i64 a0), (1, .slice A1 l1.length c1), (2, .int .i64 a2), (16, .bool (decide ((l1.length : Int) > 1000)))]) (w' := w8) (by kernel_rfl) ?_
    refine WR.split 16 (b := decide ((l1.length : Int) > 1000)) (by kernel_rfl) (fun hb11 => ?_) (fun hb11 => ?_)
    · replace H := ite_t H hb11
      refine WR.runk [4, 5, 6] [] [0, 1, 2, 19] (L' := [(0, .int .i64 a0), (1, .slice A1 l1.length c1), (2, .int .i64 a2), (19, .bool true)]) (w' := w8) (by kernel_rfl) ?_
      refine WR.nil ?_
      refine At.go ?_
      refine WC.condT (by kernel_rfl) (by kernel_rfl) (by kernel_rfl) ?_
      refine WC.seq (by kernel_rfl) ?_
      refine WC.reg [0] (by kernel_rfl) (by kernel_rfl) ?_
      refine WR.runk [0] [] [6] (L' := [(6, .bool true)]) (w' := w8) (by kernel_rfl) ?_
      refine WR.nil ?_
      refine At.go ?_
      refine WC.ret (by kernel_rfl) ?_
      refine At.thenRet ?_
      obtain rfl := Option.some.inj H
      have hS : Sat w8 (rf w0) [] := hS.sel [] (by kernel_rfl)
      exact At.body [.bool true] (by kernel_rfl) ⟨_, rfl, rfl, hS⟩
    · replace H := ite_f H hb11
      refine WR.runk [4, 5, 6] [] [0, 1, 2, 19] (L' := [(0, .int .i64 a0), (1, .slice A1 l1.length c1), (2, .int .i64 a2), (19, .bool (decide (a0 > 50000)))]) (w' := w8) (by kernel_rfl) ?_
      refine WR.nil ?_
      refine At.go ?_
      refine WC.cond (by kernel_rfl) (decide (a0 > 50000)) (by kernel_rfl) (by kernel_rfl) (fun hb12 => ?_) (fun hb12 => ?_)
      · replace H := ite_t H hb12
        refine WC.seq (by kernel_rfl) ?_
        refine WC.reg [0] (by kernel_rfl) (by kernel_rfl) ?_
        refine WR.runk [0] [] [6] (L' := [(6, .bool true)]) (w' := w8) (by kernel_rfl) ?_
        refine WR.nil ?_
        refine At.go ?_
        refine WC.ret (by kernel_rfl) ?_
        refine At.thenRet ?_
        obtain rfl := Option.some.inj H
        have hS : Sat w8 (rf w0) [] := hS.sel [] (by kernel_rfl)
        exact At.body [.bool true] (by kernel_rfl) ⟨_, rfl, rfl, hS⟩
      · replace H := ite_f H hb12
        refine WC.skip (by kernel_rfl) ?_
        refine At.go ?_
        refine WC.seq (by kernel_rfl) ?_
        refine WC.reg [0, 1, 2, 3, 4, 5, 6, 7] (by kernel_rfl) (by kernel_rfl) ?_
        refine WR.runk [0, 1] [2, 3, 4, 5, 6, 7] [0, 1, 2, 21, 22] (L' := [(0, .int .i64 a0), (1, .slice A1 l1.length c1), (2, .int .i64 a2), (21, .int .i64 a0), (22, .slice A1 l1.length c1)]) (w' := w8) (by kernel_rfl) ?_
        obtain ⟨r13, e14, H⟩ := bind_ex H
        refine WR.st (St.call (by kernel_rfl) (f := 10) (args := #[.int .i64 a0, .slice A1 l1.length c1]) (by kernel_rfl) (sparse_New.calls w8 a0 A1 c1 l1 (rdS.up R1 hS.sub0) r13 e14) ?_)
        rintro _ w20 ⟨pv22, rfl, hS21⟩
        have hS : Sat w20 (rf w0) [optP O49 pv22 r13.1] := hS.ext hS21
        refine WR.runk [3, 4, 5, 6, 7] [] [0, 1, 2, 7, 8] (L' := [(0, .int .i64 a0), (1, .slice A1 l1.length c1), (2, .int .i64 a2), (7, pv22), (8, .int .i64 r13.2)]) (w' := w20) (by kernel_rfl) ?_
        refine WR.nil ?_
        refine At.go ?_
        refine WC.seq (by kernel_rfl) ?_
        refine WC.seq (by kernel_rfl) ?_
        refine WC.reg [0, 1] (by kernel_rfl) (by kernel_rfl) ?_
        refine WR.runk [0, 1] [] [0, 1, 2, 7, 27] (L' := [(0, .int .i64 a0), (1, .slice A1 l1.length c1), (2, .int .i64 a2), (7, pv22), (27, .bool (r13.2 != 0))]) (w' := w20) (by kernel_rfl) ?_
        refine WR.nil ?_
        refine At.go ?_
        refine WC.cond (by kernel_rfl) (r13.2 != 0) (by kernel_rfl) (by kernel_rfl) (fun hb23 => ?_) (fun hb23 => ?_)
        · replace H := ite_t H hb23
          refine WC.seq (by kernel_rfl) ?_
          refine WC.reg [0, 1, 2, 3, 4, 5, 6, 7, 8, 9, 10, 11, 12, 13, 14, 15, 16, 17, 18, 19, 20, 21, 22, 23] (by kernel_rfl) (by kernel_rfl) ?_
          refine WR.runk [0] [1, 2, 3, 4, 5, 6, 7, 8, 9, 10, 11, 12, 13, 14, 15, 16, 17, 18, 19, 20, 21, 22, 23] [7, 28] (L' := [(7, pv22), (28, pv22)]) (w' := w20) (by kernel_rfl) ?_
          obtain ⟨r24, e25, H⟩ := bind_ex H
          refine WR.st (St.call (by kernel_rfl) (f := 15) (args := #[pv22]) (by kernel_rfl) (sparse_Set_Len.calls w20 (pv22) r13.1 (Sat.rdAny 0 hS rfl (fun _ h => optP.rdd (t := 49) (κ := (.pair (.int .i64) (.pair (.int .i64) (.pair (.int .i64) (.pair (.ptr 68 (.pair (.int .i64) (.pair (.slice 43 (.int .u64)) (.pair (.slice 3 (.int .i64)) (.int .i64))))) (.pair (.ptr 66 (.pair (.int .i64) (.pair (.int .i64) (.slice 43 (.int .u64))))) (.ptr 66 (.pair (.int .i64) (.pair (.int .i64) (.slice 43 (.int .u64))))))))))) (O := O49) O49.rd h)) r24 e25) ?_)
          rintro _ w31 ⟨rfl, hS32⟩
          have hS : Sat w31 (rf w0) [optP O49 pv22 r13.1] := hS.ext hS32
          refine WR.runk [2, 3] [4, 5, 6, 7, 8, 9, 10, 11, 12, 13, 14, 15, 16, 17, 18, 19, 20, 21, 22, 23] [7, 31] (L' := [(7, pv22), (31, .bool (r24 == 0))]) (w' := w31) (by kernel_rfl) ?_
          refine WR.split 31 (b := (r24 == 0)) (by kernel_rfl) (fun hb33 => ?_) (fun hb33 => ?_)
          · replace H := ite_t H hb33
            refine WR.runk [4] [5, 6, 7, 8, 9, 10, 11, 12, 13, 14, 15, 16, 17, 18, 19, 20, 21, 22, 23] [7, 31, 32] (L' := [(7, pv22), (31, .bool true), (32, pv22)]) (w' := w31) (by kernel_rfl) ?_
            obtain ⟨r34, e35, H⟩ := bind_ex H
            refine WR.st (St.call (by kernel_rfl) (f := 11) (args := #[pv22]) (by kernel_rfl) (sparse_Set_Bound.calls w31 (pv22) r13.1 (Sat.rdAny 0 hS rfl (fun _ h => optP.rdd (t := 49) (κ := (.pair (.int .i64) (.pair (.int .i64) (.pair (.int .i64) (.pair (.ptr 68 (.pair (.int .i64) (.pair (.slice 43 (.int .u64)) (.pair (.slice 3 (.int .i64)) (.int .i64))))) (.pair (.ptr 66 (.pair (.int .i64) (.pair (.int .i64) (.slice 43 (.int .u64))))) (.ptr 66 (.pair (.int .i64) (.pair (.int .i64) (.slice 43 (.int .u64))))))))))) (O := O49) O49.rd h)) r34 e35) ?_)
            rintro _ w41 ⟨rfl, hS42⟩
            have hS : Sat w41 (rf w0) [optP O49 pv22 r13.1] := hS.ext hS42
            refine WR.runk [6, 7, 8] [9, 10, 11, 12, 13, 14, 15, 16, 17, 18, 19, 20, 21, 22, 23] [7, 36] (L' := [(7, pv22), (36, .bool (r34 == 0))]) (w' := w41) (by kernel_rfl) ?_
            refine WR.split 36 (b := (r34 == 0)) (by kernel_rfl) (fun hb43 => ?_) (fun hb43 => ?_)
            · replace H := ite_t H hb43
              refine WR.runk [9] [10, 11, 12, 13, 14, 15, 16, 17, 18, 19, 20, 21, 22, 23] [7, 36, 37] (L' := [(7, pv22), (36, .bool true), (37, pv22)]) (w' := w41) (by kernel_rfl) ?_
              obtain ⟨r44, e45, H⟩ := bind_ex H
              refine WR.st (St.call (by kernel_rfl) (f := 12) (args := #[pv22, .int .i64 0]) (by kernel_rfl) (sparse_Set_At.calls w41 (pv22) r13.1 (Sat.rdAny 0 hS rfl (fun _ h => optP.rdd (t := 49) (κ := (.pair (.int .i64) (.pair (.int .i64) (.pair (.int .i64) (.pair (.ptr 68 (.pair (.int .i64) (.pair (.slice 43 (.int .u64)) (.pair (.slice 3 (.int .i64)) (.int .i64))))) (.pair (.ptr 66 (.pair (.int .i64) (.pair (.int .i64) (.slice 43 (.int .u64))))) (.ptr 66 (.pair (.int .i64) (.pair (.int .i64) (.slice 43 (.int .u64))))))))))) (O := O49) O49.rd h)) 0 r44 e45) ?_)
              rintro _ w51 ⟨rfl, hS52⟩
              have hS : Sat w51 (rf w0) [optP O49 pv22 r13.1] := hS.ext hS52
              refine WR.runk [11, 12, 13] [14, 15, 16, 17, 18, 19, 20, 21, 22, 23] [7, 41] (L' := [(7, pv22), (41, .bool (r44 == (-1)))]) (w' := w51) (by kernel_rfl) ?_
              refine WR.split 41 (b := (r44 == (-1))) (by kernel_rfl) (fun hb53 => ?_) (fun hb53 => ?_)
              · replace H := ite_t H hb53
                refine WR.runk [14] [15, 16, 17, 18, 19, 20, 21, 22, 23] [7, 41, 42] (L' := [(7, pv22), (41, .bool true), (42, pv22)]) (w' := w51) (by kernel_rfl) ?_
                obtain ⟨r54, e55, H⟩ := bind_ex H
                refine WR.st (St.call (by kernel_rfl) (f := 13) (args := #[pv22, .int .i64 5]) (by kernel_rfl) (sparse_Set_Rank.calls w51 (pv22) r13.1 (Sat.rdAny 0 hS rfl (fun _ h => optP.rdd (t := 49) (κ := (.pair (.int .i64) (.pair (.int .i64) (.pair (.int .i64) (.pair (.ptr 68 (.pair (.int .i64) (.pair (.slice 43 (.int .u64)) (.pair (.slice 3 (.int .i64)) (.int .i64))))) (.pair (.ptr 66 (.pair (.int .i64) (.pair (.int .i64) (.slice 43 (.int .u64))))) (.ptr 66 (.pair (.int .i64) (.pair (.int .i64) (.slice 43 (.int .u64))))))))))) (O := O49) O49.rd h)) 5 r54 e55) ?_)
                rintro _ w61 ⟨rfl, hS62⟩
                have hS : Sat w61 (rf w0) [optP O49 pv22 r13.1] := hS.ext hS62
                refine WR.runk [16, 17, 18] [19, 20, 21, 22, 23] [7, 46] (L' := [(7, pv22), (46, .bool (r54 == 0))]) (w' := w61) (by kernel_rfl) ?_
                refine WR.split 46 (b := (r54 == 0)) (by kernel_rfl) (fun hb63 => ?_) (fun hb63 => ?_)
                · replace H := ite_t H hb63
                  refine WR.runk [19] [20, 21, 22, 23] [46, 47] (L' := [(46, .bool true), (47, pv22)]) (w' := w61) (by kernel_rfl) ?_
                  obtain ⟨r64, e65, H⟩ := bind_ex H
                  refine WR.st (St.call (by kernel_rfl) (f := 14) (args := #[pv22, .int .i64 0]) (by kernel_rfl) (sparse_Set_Has.calls w61 (pv22) r13.1 (Sat.rdAny 0 hS rfl (fun _ h => optP.rdd (t := 49) (κ := (.pair (.int .i64) (.pair (.int .i64) (.pair (.int .i64) (.pair (.ptr 68 (.pair (.int .i64) (.pair (.slice 43 (.int .u64)) (.pair (.slice 3 (.int .i64)) (.int .i64))))) (.pair (.ptr 66 (.pair (.int .i64) (.pair (.int .i64) (.slice 43 (.int .u64))))) (.ptr 66 (.pair (.int .i64) (.pair (.int .i64) (.slice 43 (.int .u64))))))))))) (O := O49) O49.rd h)) 0 r64 e65) ?_)
                  rintro _ w71 ⟨rfl, hS72⟩
                  have hS : Sat w71 (rf w0) [optP O49 pv22 r13.1] := hS.ext hS72
                  refine WR.runk [21, 22, 23] [] [6] (L' := [(6, .bool (!r64))]) (w' := w71) (by kernel_rfl) ?_
                  refine WR.nil ?_
                  refine At.go ?_
                  refine WC.ret (by kernel_rfl) ?_
                  refine At.thenRet ?_
                  obtain rfl := Option.some.inj H
                  have hS : Sat w71 (rf w0) [] := hS.sel [] (by kernel_rfl)
                  exact At.body [.bool (!r64)] (by kernel_rfl) ⟨_, rfl, rfl, hS⟩
                · replace H := ite_f H hb63
                  refine WR.runk [19, 20, 21, 22, 23] [] [6] (L' := [(6, .bool false)]) (w' := w61) (by kernel_rfl) ?_
                  refine WR.nil ?_
                  refine At.go ?_
                  refine WC.ret (by kernel_rfl) ?_
                  refine At.thenRet ?_
                  obtain rfl := Option.some.inj H
                  have hS : Sat w61 (rf w0) [] := hS.sel [] (by kernel_rfl)
                  exact At.body [.bool false] (by kernel_rfl) ⟨_, rfl, rfl, hS⟩
              · replace H := ite_f H hb53
                refine WR.runk [14, 15, 16, 17, 18, 19, 20, 21, 22, 23] [] [6] (L' := [(6, .bool false)]) (w' := w51) (by kernel_rfl) ?_
                refine WR.nil ?_
                refine At.go ?_
                refine WC.ret (by kernel_rfl) ?_
                refine At.thenRet ?_
                obtain rfl := Option.some.inj H
                have hS : Sat w51 (rf w0) [] := hS.sel [] (by kernel_rfl)
                exact At.body [.bool false] (by kernel_rfl) ⟨_, rfl, rfl, hS⟩
            · replace H := ite_f H hb43
              refine WR.runk [9, 10, 11, 12, 13, 14, 15, 16, 17, 18, 19, 20, 21, 22, 23] [] [6] (L' := [(6, .bool false)]) (w' := w41) (by kernel_rfl) ?_
              refine WR.nil ?_
              refine At.go ?_
              refine WC.ret (by kernel_rfl) ?_
              refine At.thenRet ?_
              obtain rfl := Option.some.inj H
              have hS : Sat w41 (rf w0) [] := hS.sel [] (by kernel_rfl)
              exact At.body [.bool false] (by kernel_rfl) ⟨_, rfl, rfl, hS⟩
          · replace H := ite_f H hb33
            refine WR.runk [4, 5, 6, 7, 8, 9, 10, 11, 12, 13, 14, 15, 16, 17, 18, 19, 20, 21, 22, 23] [] [6] (L' := [(6, .bool false)]) (w' := w31) (by kernel_rfl) ?_
            refine WR.nil ?_
            refine At.go ?_
            refine WC.ret (by kernel_rfl) ?_
            refine At.thenRet ?_
            obtain rfl := Option.some.inj H
            have hS : Sat w31 (rf w0) [] := hS.sel [] (by kernel_rfl)
            exact At.body [.bool false] (by kernel_rfl) ⟨_, rfl, rfl, hS⟩
        · replace H := ite_f H hb23
          refine WC.skip (by kernel_rfl) ?_
          refine At.go ?_
          refine WC.seq (by kernel_rfl) ?_
          refine WC.reg [0, 1, 2, 3] (by kernel_rfl) (by kernel_rfl) ?_
          refine WR.runk [0, 1] [2, 3] [0, 1, 2, 7, 51, 52] (L' := [(0, .int .i64 a0), (1, .slice A1 l1.length c1), (2, .int .i64 a2), (7, pv22), (51, pv22), (52, .int .i64 a2)]) (w' := w20) (by kernel_rfl) ?_
          obtain ⟨r73, e74, H⟩ := bind_ex H
          refine WR.st (St.call (by kernel_rfl) (f := 13) (args := #[pv22, .int .i64 a2]) (by kernel_rfl) (sparse_Set_Rank.calls w20 (pv22) r13.1 (Sat.rdAny 0 hS rfl (fun _ h => optP.rdd (t := 49) (κ := (.pair (.int .i64) (.pair (.int .i64) (.pair (.int .i64) (.pair (.ptr 68 (.pair (.int .i64) (.pair (.slice 43 (.int .u64)) (.pair (.slice 3 (.int .i64)) (.int .i64))))) (.pair (.ptr 66 (.pair (.int .i64) (.pair (.int .i64) (.slice 43 (.int .u64))))) (.ptr 66 (.pair (.int .i64) (.pair (.int .i64) (.slice 43 (.int .u64))))))))))) (O := O49) O49.rd h)) a2 r73 e74) ?_)
          rintro _ w80 ⟨rfl, hS81⟩
          have hS : Sat w80 (rf w0) [optP O49 pv22 r13.1] := hS.ext hS81
          refine WR.runk [3] [] [0, 1, 2, 7, 9] (L' := [(0, .int .i64 a0), (1, .slice A1 l1.length c1), (2, .int .i64 a2), (7, pv22), (9, .int .i64 r73)]) (w' := w80) (by kernel_rfl) ?_
          refine WR.nil ?_
          refine At.go ?_
          refine WC.seq (by kernel_rfl) ?_
          refine WC.seq (by kernel_rfl) ?_
          refine WC.reg [0, 1, 2] (by kernel_rfl) (by kernel_rfl) ?_
          refine WR.runk [0, 1, 2] [] [0, 1, 2, 7, 9, 55, 56] (L' := [(0, .int .i64 a0), (1, .slice A1 l1.length c1), (2, .int .i64 a2), (7, pv22), (9, .int .i64 r73), (55, .int .i64 (l1.length : Int)), (56, .int .i64 0)]) (w' := w80) (by kernel_rfl) ?_
          refine WR.nil ?_
          refine At.go ?_
          refine WC.block (by kernel_rfl) ?_
          obtain ⟨y82, hr83, H⟩ := bind_ex H
          obtain ⟨b85, hv84, hN178⟩ := optP.some hS hr83
          subst hv84
          have hS : Sat w80 (rf w0) [O49 b85 y82] := hN178
          have hS : Sat w80 (rf w0) [O49 b85 y82] := hS.sel [0] (by kernel_rfl)
          obtain ⟨o129, e130, H⟩ := bind_ex H
          refine WC.loop (by kernel_rfl) ?_
          refine WL.weaken [0, 1, 2, 7, 9, 55, 56] (L' := [(0, .int .i64 a0), (1, .slice A1 l1.length c1), (2, .int .i64 a2), (7, .pointer (some ⟨b85, 0, none⟩)), (9, .int .i64 r73), (55, .int .i64 (l1.length : Int)), (56, .int .i64 0)]) (by kernel_rfl) ?_
          refine colophonlaw03_SparseOrder.l1_ok w0 a0 A1 c1 l1 a2 r73 y82 b85 R1 o129 (fun o131 w133 ho134 hS => ?_) (fun o135 w137 ho138 hS => ?_) FU 0 _ hS e130
          · subst ho134
            dsimp only at H
            refine At.blockRet ?_
            refine At.thenRet ?_
            obtain rfl := Option.some.inj H
            have hS : Sat w133 (rf w0) [] := hS.sel [] (by kernel_rfl)
            exact At.body [.bool o131] (by kernel_rfl) ⟨_, rfl, rfl, hS⟩
          · subst ho138
            dsimp only at H
            refine At.hit ?_
            refine At.go ?_
            refine WC.seq (by kernel_rfl) ?_
            refine WC.reg [0, 1, 2, 3, 4, 5, 6, 7, 8, 9, 10, 11, 12, 13, 14, 15, 16, 17, 18, 19, 20, 21, 22] (by kernel_rfl) (by kernel_rfl) ?_
            refine WR.runk [0, 1] [2, 3, 4, 5, 6, 7, 8, 9, 10, 11, 12, 13, 14, 15, 16, 17, 18, 19, 20, 21, 22] [0, 1, 7, 87, 88] (L' := [(0, .int .i64 a0), (1, .slice A1 l1.length c1), (7, .pointer (some ⟨b85, 0, none⟩)), (87, .pointer (some ⟨b85, 0, none⟩)), (88, .int .i64 a0)]) (w' := w137) (by kernel_rfl) ?_
            obtain ⟨r139, e140, H⟩ := bind_ex H
            refine WR.st (St.call (by kernel_rfl) (f := 13) (args := #[.pointer (some ⟨b85, 0, none⟩), .int .i64 a0]) (by kernel_rfl) (sparse_Set_Rank.calls w137 (.pointer (some ⟨b85, 0, none⟩)) (some y82) (Sat.rdAny 0 hS rfl (fun _ h => O49.rd _ _ _ h)) a0 r139 e140) ?_)
            rintro _ w146 ⟨rfl, hS147⟩
            have hS : Sat w146 (rf w0) [O49 b85 y82] := hS.ext hS147
            refine WR.runk [3, 4, 5, 6] [7, 8, 9, 10, 11, 12, 13, 14, 15, 16, 17, 18, 19, 20, 21, 22] [0, 7, 93] (L' := [(0, .int .i64 a0), (7, .pointer (some ⟨b85, 0, none⟩)), (93, .bool (r139 == (l1.length : Int)))]) (w' := w146) (by kernel_rfl) ?_
            refine WR.split 93 (b := (r139 == (l1.length : Int))) (by kernel_rfl) (fun hb148 => ?_) (fun hb148 => ?_)
            · replace H := ite_t H hb148
              refine WR.runk [7] [8, 9, 10, 11, 12, 13, 14, 15, 16, 17, 18, 19, 20, 21, 22] [0, 7, 93, 94] (L' := [(0, .int .i64 a0), (7, .pointer (some ⟨b85, 0, none⟩)), (93, .bool true), (94, .pointer (some ⟨b85, 0, none⟩))]) (w' := w146) (by kernel_rfl) ?_
              obtain ⟨r149, e150, H⟩ := bind_ex H
              refine WR.st (St.call (by kernel_rfl) (f := 13) (args := #[.pointer (some ⟨b85, 0, none⟩), .int .i64 0]) (by kernel_rfl) (sparse_Set_Rank.calls w146 (.pointer (some ⟨b85, 0, none⟩)) (some y82) (Sat.rdAny 0 hS rfl (fun _ h => O49.rd _ _ _ h)) 0 r149 e150) ?_)
              rintro _ w156 ⟨rfl, hS157⟩
              have hS : Sat w156 (rf w0) [O49 b85 y82] := hS.ext hS157
              refine WR.runk [9, 10, 11] [12, 13, 14, 15, 16, 17, 18, 19, 20, 21, 22] [0, 7, 98] (L' := [(0, .int .i64 a0), (7, .pointer (some ⟨b85, 0, none⟩)), (98, .bool (r149 == 0))]) (w' := w156) (by kernel_rfl) ?_
              refine WR.split 98 (b := (r149 == 0)) (by kernel_rfl) (fun hb158 => ?_) (fun hb158 => ?_)
              · replace H := ite_t H hb158
                refine WR.runk [12] [13, 14, 15, 16, 17, 18, 19, 20, 21, 22] [0, 7, 98, 99] (L' := [(0, .int .i64 a0), (7, .pointer (some ⟨b85, 0, none⟩)), (98, .bool true), (99, .pointer (some ⟨b85, 0, none⟩))]) (w' := w156) (by kernel_rfl) ?_
                obtain ⟨r159, e160, H⟩ := bind_ex H
                refine WR.st (St.call (by kernel_rfl) (f := 14) (args := #[.pointer (some ⟨b85, 0, none⟩), .int .i64 (-1)]) (by kernel_rfl) (sparse_Set_Has.calls w156 (.pointer (some ⟨b85, 0, none⟩)) (some y82) (Sat.rdAny 0 hS rfl (fun _ h => O49.rd _ _ _ h)) (-1) r159 e160) ?_)
                rintro _ w166 ⟨rfl, hS167⟩
                have hS : Sat w166 (rf w0) [O49 b85 y82] := hS.ext hS167
                refine WR.runk [14, 15, 16] [17, 18, 19, 20, 21, 22] [0, 7, 103] (L' := [(0, .int .i64 a0), (7, .pointer (some ⟨b85, 0, none⟩)), (103, .bool (!r159))]) (w' := w166) (by kernel_rfl) ?_
                refine WR.split 103 (b := (!r159)) (by kernel_rfl) (fun hb168 => ?_) (fun hb168 => ?_)
                · replace H := ite_t H hb168
                  refine WR.runk [17, 18] [19, 20, 21, 22] [103, 104, 105] (L' := [(103, .bool true), (104, .pointer (some ⟨b85, 0, none⟩)), (105, .int .i64 a0)]) (w' := w166) (by kernel_rfl) ?_
                  obtain ⟨r169, e170, H⟩ := bind_ex H
                  refine WR.st (St.call (by kernel_rfl) (f := 14) (args := #[.pointer (some ⟨b85, 0, none⟩), .int .i64 a0]) (by kernel_rfl) (sparse_Set_Has.calls w166 (.pointer (some ⟨b85, 0, none⟩)) (some y82) (Sat.rdAny 0 hS rfl (fun _ h => O49.rd _ _ _ h)) a0 r169 e170) ?_)
                  rintro _ w176 ⟨rfl, hS177⟩
                  have hS : Sat w176 (rf w0) [O49 b85 y82] := hS.ext hS177
                  refine WR.runk [20, 21, 22] [] [6] (L' := [(6, .bool (!r169))]) (w' := w176) (by kernel_rfl) ?_
                  refine WR.nil ?_
                  refine At.go ?_
                  refine WC.ret (by kernel_rfl) ?_
                  obtain rfl := Option.some.inj H
                  have hS : Sat w176 (rf w0) [] := hS.sel [] (by kernel_rfl)
                  exact At.body [.bool (!r169)] (by kernel_rfl) ⟨_, rfl, rfl, hS⟩
                · replace H := ite_f H hb168
                  refine WR.runk [17, 18, 19, 20, 21, 22] [] [6] (L' := [(6, .bool false)]) (w' := w166) (by kernel_rfl) ?_
                  refine WR.nil ?_
                  refine At.go ?_
                  refine WC.ret (by kernel_rfl) ?_
                  obtain rfl := Option.some.inj H
                  have hS : Sat w166 (rf w0) [] := hS.sel [] (by kernel_rfl)
                  exact At.body [.bool false] (by kernel_rfl) ⟨_, rfl, rfl, hS⟩
              · replace H := ite_f H hb158
                refine WR.runk [12, 13, 14, 15, 16, 17, 18, 19, 20, 21, 22] [] [6] (L' := [(6, .bool false)]) (w' := w156) (by kernel_rfl) ?_
                refine WR.nil ?_
                refine At.go ?_
                refine WC.ret (by kernel_rfl) ?_
                obtain rfl := Option.some.inj H
                have hS : Sat w156 (rf w0) [] := hS.sel [] (by kernel_rfl)
                exact At.body [.bool false] (by kernel_rfl) ⟨_, rfl, rfl, hS⟩
            · replace H := ite_f H hb148
              refine WR.runk [7, 8, 9, 10, 11, 12, 13, 14, 15, 16, 17, 18, 19, 20, 21, 22] [] [6] (L' := [(6, .bool false)]) (w' := w146) (by kernel_rfl) ?_
              refine WR.nil ?_
              refine At.go ?_
              refine WC.ret (by kernel_rfl) ?_
              obtain rfl := Option.some.inj H
              have hS : Sat w146 (rf w0) [] := hS.sel [] (by kernel_rfl)
              exact At.body [.bool false] (by kernel_rfl) ⟨_, rfl, rfl, hS⟩
end Go.Proofs.Ytomeiphaohjeoaa
