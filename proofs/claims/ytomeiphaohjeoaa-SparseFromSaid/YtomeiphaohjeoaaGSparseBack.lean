/-
  Printed by gen.py (my own tool): for each Go function a plain Lean function and the proof that a call of it does what that function says.
-/
import Derived.Test.YtomeiphaohjeoaaGP1c
set_option linter.unusedVariables false
set_option linter.unusedSimpArgs false
set_option maxRecDepth 100000
namespace Go.Proofs.Ytomeiphaohjeoaa
open Go Go.Gol
/-! ### 6 colophon/colophonlaw03.SparseBack -/
def colophonlaw03_SparseBack.l1 (l1 : List Int) (y46 : Int × Int × Int × (Option (Int × (List Int) × (List Int) × Int)) × (Option (Int × Int × (List Int))) × (Option (Int × Int × (List Int)))) : Nat → Int → Option (Sum Bool Unit)
  | 0, _ => none
  | k + 1, x61_l1 => (if decide (x61_l1 < (l1.length : Int)) then ((at? l1 x61_l1).bind fun v65 => ((sparse_Set_At.f (some y46) x61_l1).bind fun r67 => (if (r67 != v65) then some (.inl false) else colophonlaw03_SparseBack.l1 l1 y46 k (wi (x61_l1 + 1))))) else some (.inr ()))
def colophonlaw03_SparseBack.l2 (l1 : List Int) (y112 : Int × Int × Int × (Option (Int × (List Int) × (List Int) × Int)) × (Option (Int × Int × (List Int))) × (Option (Int × Int × (List Int)))) : Nat → Int → Option (Sum Bool Unit)
  | 0, _ => none
  | k + 1, x110_l2 => (if decide (x110_l2 < (l1.length : Int)) then ((at? l1 x110_l2).bind fun v120 => ((sparse_Set_At.f (some y112) x110_l2).bind fun r122 => (if (r122 != v120) then some (.inl true) else colophonlaw03_SparseBack.l2 l1 y112 k (wi (x110_l2 + 1))))) else some (.inr ()))
def colophonlaw03_SparseBack.f (a0 : Int) (l1 : List Int) (a2 : Int) : Option Bool := (colophonlaw03_first.f.bind fun r1 => (if (!r1) then some false else (if decide ((l1.length : Int) > 500) then some true else (if decide (a0 > 20000) then some true else ((colophonref03_Right.f a0 l1).bind fun r13 => (if (!r13) then some true else ((colophonref03_Words.f a0 l1).bind fun r23 => ((sparse_From.f a0 (l1.length : Int) r23.1 r23.2).bind fun r36 => (match r36.1 with | none => some false | some y46 => (if (r36.2 != 0) then some false else ((sparse_Set_Len.f (some y46)).bind fun r52 => (if (r52 != (l1.length : Int)) then some false else ((colophonlaw03_SparseBack.l1 l1 y46 FU 0).bind fun o77 => (match o77 with | .inl o79 => some o79 | .inr o83 => (if ((r23.1.length : Int) == 0) then some true else ((chk? (decide ((IntKind.wrap .u64 (wi (64 * (r23.1.length : Int)))) ≠ 0))).bind fun _ => ((at? r23.1 (wi (Int.tdiv (wi (Int.tmod (IntKind.wrap .u64 a2) (IntKind.wrap .u64 (wi (64 * (r23.1.length : Int)))))) 64))).bind fun v89 => ((set? r23.1 (wi (Int.tdiv (wi (Int.tmod (IntKind.wrap .u64 a2) (IntKind.wrap .u64 (wi (64 * (r23.1.length : Int)))))) 64)) (ixor .u64 v89 (ishl .u64 1 (IntKind.wrap .u64 (Int.tmod (wi (Int.tmod (IntKind.wrap .u64 a2) (IntKind.wrap .u64 (wi (64 * (r23.1.length : Int)))))) 64))))).bind fun y91 => ((sparse_From.f a0 (l1.length : Int) y91 r23.2).bind fun r95 => (if (r95.2 != 0) then (match r95.1 with | none => some true | some y106 => some false) else (r95.1.bind fun y112 => ((colophonlaw03_SparseBack.l2 l1 y112 FU 0).bind fun o132 => (match o132 with | .inl o134 => some o134 | .inr o138 => some false)))))))))))))))))))))))
def colophonlaw03_SparseBack.post (w : World) (r : Bool) (v : Value) (w' : World) : Prop := v = (.bool r : Value) ∧ Sat w' (rf w) []
theorem colophonlaw03_SparseBack.l1_ok {Q} (w0 : World) (a0 : Int) (A1 : Option Addr) (c1 : Nat) (l1 : List Int) (a2 : Int) (r23 : (List Int) × (List Int)) (A32 : Option Addr) (c33 : Nat) (A34 : Option Addr) (c35 : Nat) (y46 : Int × Int × Int × (Option (Int × (List Int) × (List Int) × Int)) × (Option (Int × Int × (List Int))) × (Option (Int × Int × (List Int)))) (b49 : Nat) (R1 : rdS (r0 (.int .i64)) 1 (hp w0) A1 c1 l1) (out : Sum Bool Unit) (hn0 : ∀ (o0 : Bool) (w : World), out = (.inl o0) → Sat w (rf w0) [O49 b49 y46] → At Q .ret 122 [(6, .bool o0)] w) (hn1 : ∀ (o1 : Unit) (w : World), out = (.inr o1) → Sat w (rf w0) [osl 43 (r0 (.int .u64)) 1 A32 c33 r23.1, osl 43 (r0 (.int .u64)) 1 A34 c35 r23.2, O49 b49 y46] → At Q (.exit 0) 122 [(0, .int .i64 a0), (1, .slice A1 l1.length c1), (2, .int .i64 a2), (7, .slice A32 r23.1.length c33), (8, .slice A34 r23.2.length c35)] w) :
    ∀ (k : Nat) (x61_l1 : Int) (w : World), Sat w (rf w0) [osl 43 (r0 (.int .u64)) 1 A32 c33 r23.1, osl 43 (r0 (.int .u64)) 1 A34 c35 r23.2, O49 b49 y46] → colophonlaw03_SparseBack.l1 l1 y46 k x61_l1 = some out → WL Try.prog (cbody (cbody (cr (cl (cr (cr (cr (cr (cr (cr C6)))))))))) Q 122 [(0, .int .i64 a0), (1, .slice A1 l1.length c1), (2, .int .i64 a2), (7, .slice A32 r23.1.length c33), (8, .slice A34 r23.2.length c35), (9, .pointer (some ⟨b49, 0, none⟩)), (60, .int .i64 (l1.length : Int)), (61, .int .i64 x61_l1)] w := by
  intro k
  induction k with
  | zero => intro x61_l1 w hS H; exact absurd (show none = some out from H) (by simp)
  | succ k ih =>
    intro x61_l1 w hS H
    unfold colophonlaw03_SparseBack.l1 at H
    refine WL.round ?_
    refine WC.seq (by kernel_rfl) ?_
    refine WC.reg [0] (by kernel_rfl) (by kernel_rfl) ?_
    refine WR.runk [0] [] [0, 1, 2, 7, 8, 9, 60, 61, 62] (L' := [(0, .int .i64 a0), (1, .slice A1 l1.length c1), (2, .int .i64 a2), (7, .slice A32 r23.1.length c33), (8, .slice A34 r23.2.length c35), (9, .pointer (some ⟨b49, 0, none⟩)), (60, .int .i64 (l1.length : Int)), (61, .int .i64 x61_l1), (62, .bool (decide (x61_l1 < (l1.length : Int))))]) (w' := w) (by kernel_rfl) ?_
    refine WR.nil ?_
    refine At.go ?_
    refine WC.seq (by kernel_rfl) ?_
    refine WC.cond (by kernel_rfl) (decide (x61_l1 < (l1.length : Int))) (by kernel_rfl) (by kernel_rfl) (fun hb62 => ?_) (fun hb62 => ?_)
    · replace H := ite_t H hb62
      refine WC.skip (by kernel_rfl) ?_
      refine At.go ?_
      refine WC.seq (by kernel_rfl) ?_
      refine WC.block (by kernel_rfl) ?_
      refine WC.seq (by kernel_rfl) ?_
      refine WC.reg [0, 1] (by kernel_rfl) (by kernel_rfl) ?_
      refine WR.runk [0, 1] [] [0, 1, 2, 7, 8, 9, 11, 60, 61] (L' := [(0, .int .i64 a0), (1, .slice A1 l1.length c1), (2, .int .i64 a2), (7, .slice A32 r23.1.length c33), (8, .slice A34 r23.2.length c35), (9, .pointer (some ⟨b49, 0, none⟩)), (11, .int .i64 x61_l1), (60, .int .i64 (l1.length : Int)), (61, .int .i64 x61_l1)]) (w' := w) (by kernel_rfl) ?_
      refine WR.nil ?_
      refine At.go ?_
      refine WC.seq (by kernel_rfl) ?_
      refine WC.drawn (by kernel_rfl) (by kernel_rfl) 8 (by kernel_rfl) (fun w63 hw64 => ?_)
      have hS := hS.heap hw64.1 hw64.2
      refine WD.weaken [0, 1, 2, 7, 8, 9, 11, 60, 61] (L' := [(0, .int .i64 a0), (1, .slice A1 l1.length c1), (2, .int .i64 a2), (7, .slice A32 r23.1.length c33), (8, .slice A34 r23.2.length c35), (9, .pointer (some ⟨b49, 0, none⟩)), (11, .int .i64 x61_l1), (60, .int .i64 (l1.length : Int)), (61, .int .i64 x61_l1)]) (by kernel_rfl) ?_
      refine WD.pure (i := 0) (v := .pointer (some ⟨b49, 0, none⟩)) (by kernel_rfl) (by kernel_rfl) (fun _ => by kernel_rfl) ?_
      refine WD.weaken [0, 1, 2, 7, 8, 9, 11, 60, 61, 64] (L' := [(0, .int .i64 a0), (1, .slice A1 l1.length c1), (2, .int .i64 a2), (7, .slice A32 r23.1.length c33), (8, .slice A34 r23.2.length c35), (9, .pointer (some ⟨b49, 0, none⟩)), (11, .int .i64 x61_l1), (60, .int .i64 (l1.length : Int)), (61, .int .i64 x61_l1), (64, .pointer (some ⟨b49, 0, none⟩))]) (by kernel_rfl) ?_
      refine WD.pure (i := 1) (v := .int .i64 x61_l1) (by kernel_rfl) (by kernel_rfl) (fun _ => by kernel_rfl) ?_
      refine WD.weaken [0, 1, 2, 7, 8, 9, 11, 60, 61, 64, 65] (L' := [(0, .int .i64 a0), (1, .slice A1 l1.length c1), (2, .int .i64 a2), (7, .slice A32 r23.1.length c33), (8, .slice A34 r23.2.length c35), (9, .pointer (some ⟨b49, 0, none⟩)), (11, .int .i64 x61_l1), (60, .int .i64 (l1.length : Int)), (61, .int .i64 x61_l1), (64, .pointer (some ⟨b49, 0, none⟩)), (65, .int .i64 x61_l1)]) (by kernel_rfl) ?_
      refine WD.pure (i := 3) (v := .slice A1 l1.length c1) (by kernel_rfl) (by kernel_rfl) (fun _ => by kernel_rfl) ?_
      refine WD.weaken [0, 1, 2, 7, 8, 9, 11, 60, 61, 64, 65, 67] (L' := [(0, .int .i64 a0), (1, .slice A1 l1.length c1), (2, .int .i64 a2), (7, .slice A32 r23.1.length c33), (8, .slice A34 r23.2.length c35), (9, .pointer (some ⟨b49, 0, none⟩)), (11, .int .i64 x61_l1), (60, .int .i64 (l1.length : Int)), (61, .int .i64 x61_l1), (64, .pointer (some ⟨b49, 0, none⟩)), (65, .int .i64 x61_l1), (67, .slice A1 l1.length c1)]) (by kernel_rfl) ?_
      refine WD.pure (i := 4) (v := .int .i64 x61_l1) (by kernel_rfl) (by kernel_rfl) (fun _ => by kernel_rfl) ?_
      refine WD.weaken [0, 1, 2, 7, 8, 9, 60, 61, 64, 65, 67, 68] (L' := [(0, .int .i64 a0), (1, .slice A1 l1.length c1), (2, .int .i64 a2), (7, .slice A32 r23.1.length c33), (8, .slice A34 r23.2.length c35), (9, .pointer (some ⟨b49, 0, none⟩)), (60, .int .i64 (l1.length : Int)), (61, .int .i64 x61_l1), (64, .pointer (some ⟨b49, 0, none⟩)), (65, .int .i64 x61_l1), (67, .slice A1 l1.length c1), (68, .int .i64 x61_l1)]) (by kernel_rfl) ?_
      obtain ⟨v65, e66, H⟩ := bind_ex H
      refine WD.ofP (i := 5) (by kernel_rfl) (PSt.idx (k := .i64) (.tmp 67) (.tmp 68) (by kernel_rfl) (by kernel_rfl) E22 (by kernel_rfl) (by kernel_rfl) (rdS.up R1 hS.sub0) e66 ?_)
      refine WD.weaken [0, 1, 2, 7, 8, 9, 60, 61, 64, 65, 69] (L' := [(0, .int .i64 a0), (1, .slice A1 l1.length c1), (2, .int .i64 a2), (7, .slice A32 r23.1.length c33), (8, .slice A34 r23.2.length c35), (9, .pointer (some ⟨b49, 0, none⟩)), (60, .int .i64 (l1.length : Int)), (61, .int .i64 x61_l1), (64, .pointer (some ⟨b49, 0, none⟩)), (65, .int .i64 x61_l1), (69, .pointer (some (adr A1 x61_l1.toNat 1)))]) (by kernel_rfl) ?_
      refine WD.ofR (i := 6) (by kernel_rfl) (RSt.loadInt (t := 3) (.tmp 69) (by kernel_rfl) (by kernel_rfl) (by kernel_rfl) (by kernel_rfl) (rdS.up R1 hS.sub0) e66 ?_)
      refine WD.weaken [0, 1, 2, 7, 8, 9, 60, 61, 64, 65, 70] (L' := [(0, .int .i64 a0), (1, .slice A1 l1.length c1), (2, .int .i64 a2), (7, .slice A32 r23.1.length c33), (8, .slice A34 r23.2.length c35), (9, .pointer (some ⟨b49, 0, none⟩)), (60, .int .i64 (l1.length : Int)), (61, .int .i64 x61_l1), (64, .pointer (some ⟨b49, 0, none⟩)), (65, .int .i64 x61_l1), (70, .int .i64 v65)]) (by kernel_rfl) ?_
      obtain ⟨r67, e68, H⟩ := bind_ex H
      refine WD.act (i := 2) (by kernel_rfl) (St.call (by kernel_rfl) (f := 12) (args := #[.pointer (some ⟨b49, 0, none⟩), .int .i64 x61_l1]) (by kernel_rfl) (sparse_Set_At.calls w63 (.pointer (some ⟨b49, 0, none⟩)) (some y46) (Sat.rdAny 2 hS rfl (fun _ h => O49.rd _ _ _ h)) x61_l1 r67 e68) ?_)
      rintro _ w74 ⟨rfl, hS75⟩
      have hS : Sat w74 (rf w0) [osl 43 (r0 (.int .u64)) 1 A32 c33 r23.1, osl 43 (r0 (.int .u64)) 1 A34 c35 r23.2, O49 b49 y46] := hS.ext hS75
      refine ⟨(asked.cons (RSt.run (n := 122) (RSt.loadInt (t := 3) (.tmp 69) (by kernel_rfl) (by kernel_rfl) (by kernel_rfl) (by kernel_rfl) (rdS.up R1 hS.sub0) e66 rfl)) (asked.nil _ _)), ?_⟩
      refine WD.weaken [0, 1, 2, 7, 8, 9, 60, 61, 66, 70] (L' := [(0, .int .i64 a0), (1, .slice A1 l1.length c1), (2, .int .i64 a2), (7, .slice A32 r23.1.length c33), (8, .slice A34 r23.2.length c35), (9, .pointer (some ⟨b49, 0, none⟩)), (60, .int .i64 (l1.length : Int)), (61, .int .i64 x61_l1), (66, .int .i64 r67), (70, .int .i64 v65)]) (by kernel_rfl) ?_
      refine WD.pure (i := 7) (v := .bool (r67 != v65)) (by kernel_rfl) (by kernel_rfl) (fun _ => by kernel_rfl) ?_
      refine WD.weaken [0, 1, 2, 7, 8, 9, 60, 61, 71] (L' := [(0, .int .i64 a0), (1, .slice A1 l1.length c1), (2, .int .i64 a2), (7, .slice A32 r23.1.length c33), (8, .slice A34 r23.2.length c35), (9, .pointer (some ⟨b49, 0, none⟩)), (60, .int .i64 (l1.length : Int)), (61, .int .i64 x61_l1), (71, .bool (r67 != v65))]) (by kernel_rfl) ?_
      refine WD.nil (by kernel_rfl) ?_
      refine At.go ?_
      refine WC.cond (by kernel_rfl) (r67 != v65) (by kernel_rfl) (by kernel_rfl) (fun hb76 => ?_) (fun hb76 => ?_)
      · replace H := ite_t H hb76
        refine WC.seq (by kernel_rfl) ?_
        refine WC.reg [0] (by kernel_rfl) (by kernel_rfl) ?_
        refine WR.runk [0] [] [6] (L' := [(6, .bool false)]) (w' := w74) (by kernel_rfl) ?_
        refine WR.nil ?_
        refine At.go ?_
        refine WC.ret (by kernel_rfl) ?_
        refine At.blockRet ?_
        refine At.thenRet ?_
        refine At.thenRet ?_
        obtain rfl := Option.some.inj H
        have hS : Sat w74 (rf w0) [O49 b49 y46] := hS.sel [2] (by kernel_rfl)
        refine At.weaken [6] (L' := [(6, .bool false)]) (by kernel_rfl) ?_
        exact hn0 false _ rfl hS
      · replace H := ite_f H hb76
        refine WC.skip (by kernel_rfl) ?_
        refine At.blockNormal ?_
        refine At.go ?_
        refine WC.reg [0, 1] (by kernel_rfl) (by kernel_rfl) ?_
        refine WR.runk [0, 1] [] [0, 1, 2, 7, 8, 9, 60, 61] (L' := [(0, .int .i64 a0), (1, .slice A1 l1.length c1), (2, .int .i64 a2), (7, .slice A32 r23.1.length c33), (8, .slice A34 r23.2.length c35), (9, .pointer (some ⟨b49, 0, none⟩)), (60, .int .i64 (l1.length : Int)), (61, .int .i64 (wi (x61_l1 + 1)))]) (w' := w74) (by kernel_rfl) ?_
        refine WR.nil ?_
        have hS : Sat w74 (rf w0) [osl 43 (r0 (.int .u64)) 1 A32 c33 r23.1, osl 43 (r0 (.int .u64)) 1 A34 c35 r23.2, O49 b49 y46] := hS.sel [0, 1, 2] (by kernel_rfl)
        refine At.again ?_
        refine WL.weaken [0, 1, 2, 7, 8, 9, 60, 61] (L' := [(0, .int .i64 a0), (1, .slice A1 l1.length c1), (2, .int .i64 a2), (7, .slice A32 r23.1.length c33), (8, .slice A34 r23.2.length c35), (9, .pointer (some ⟨b49, 0, none⟩)), (60, .int .i64 (l1.length : Int)), (61, .int .i64 (wi (x61_l1 + 1)))]) (by kernel_rfl) ?_
        exact ih (wi (x61_l1 + 1)) _ hS H
    · replace H := ite_f H hb62
      refine WC.exit (by kernel_rfl) ?_
      refine At.thenExit ?_
      refine At.thenExit ?_
      obtain rfl := Option.some.inj H
      have hS : Sat w (rf w0) [osl 43 (r0 (.int .u64)) 1 A32 c33 r23.1, osl 43 (r0 (.int .u64)) 1 A34 c35 r23.2, O49 b49 y46] := hS.sel [0, 1, 2] (by kernel_rfl)
      refine At.weaken [0, 1, 2, 7, 8] (L' := [(0, .int .i64 a0), (1, .slice A1 l1.length c1), (2, .int .i64 a2), (7, .slice A32 r23.1.length c33), (8, .slice A34 r23.2.length c35)]) (by kernel_rfl) ?_
      exact hn1 () _ rfl hS
theorem colophonlaw03_SparseBack.l2_ok {Q} (w0 : World) (A1 : Option Addr) (c1 : Nat) (l1 : List Int) (y112 : Int × Int × Int × (Option (Int × (List Int) × (List Int) × Int)) × (Option (Int × Int × (List Int))) × (Option (Int × Int × (List Int)))) (b115 : Nat) (R1 : rdS (r0 (.int .i64)) 1 (hp w0) A1 c1 l1) (out : Sum Bool Unit) (hn0 : ∀ (o0 : Bool) (w : World), out = (.inl o0) → Sat w (rf w0) [O49 b115 y112] → At Q .ret 122 [(6, .bool o0)] w) (hn1 : ∀ (o1 : Unit) (w : World), out = (.inr o1) → Sat w (rf w0) [O49 b115 y112] → At Q (.exit 2) 122 [] w) :
    ∀ (k : Nat) (x110_l2 : Int) (w : World), Sat w (rf w0) [O49 b115 y112] → colophonlaw03_SparseBack.l2 l1 y112 k x110_l2 = some out → WL Try.prog (cbody (cbody (cr (cl (cr (cr (cr (cr (cr (cr (cr (cr (cr (cr (cr (cr C6)))))))))))))))) Q 122 [(1, .slice A1 l1.length c1), (13, .pointer (some ⟨b115, 0, none⟩)), (109, .int .i64 (l1.length : Int)), (110, .int .i64 x110_l2)] w := by
  intro k
  induction k with
  | zero => intro x110_l2 w hS H; exact absurd (show none = some out from H) (by simp)
  | succ k ih =>
    intro x110_l2 w hS H
    unfold colophonlaw03_SparseBack.l2 at H
    refine WL.round ?_
    refine WC.seq (by kernel_rfl) ?_
    refine WC.reg [0] (by kernel_rfl) (by kernel_rfl) ?_
    refine WR.runk [0] [] [1, 13, 109, 110, 111] (L' := [(1, .slice A1 l1.length c1), (13, .pointer (some ⟨b115, 0, none⟩)), (109, .int .i64 (l1.length : Int)), (110, .int .i64 x110_l2), (111, .bool (decide (x110_l2 < (l1.length : Int))))]) (w' := w) (by kernel_rfl) ?_
    refine WR.nil ?_
    refine At.go ?_
    refine WC.seq (by kernel_rfl) ?_
    refine WC.cond (by kernel_rfl) (decide (x110_l2 < (l1.length : Int))) (by kernel_rfl) (by kernel_rfl) (fun hb117 => ?_) (fun hb117 => ?_)
    · replace H := ite_t H hb117
      refine WC.skip (by kernel_rfl) ?_
      refine At.go ?_
      refine WC.seq (by kernel_rfl) ?_
      refine WC.block (by kernel_rfl) ?_
      refine WC.seq (by kernel_rfl) ?_
      refine WC.reg [0, 1] (by kernel_rfl) (by kernel_rfl) ?_
      refine WR.runk [0, 1] [] [1, 13, 15, 109, 110] (L' := [(1, .slice A1 l1.length c1), (13, .pointer (some ⟨b115, 0, none⟩)), (15, .int .i64 x110_l2), (109, .int .i64 (l1.length : Int)), (110, .int .i64 x110_l2)]) (w' := w) (by kernel_rfl) ?_
      refine WR.nil ?_
      refine At.go ?_
      refine WC.seq (by kernel_rfl) ?_
      refine WC.drawn (by kernel_rfl) (by kernel_rfl) 8 (by kernel_rfl) (fun w118 hw119 => ?_)
      have hS := hS.heap hw119.1 hw119.2
      refine WD.weaken [1, 13, 15, 109, 110] (L' := [(1, .slice A1 l1.length c1), (13, .pointer (some ⟨b115, 0, none⟩)), (15, .int .i64 x110_l2), (109, .int .i64 (l1.length : Int)), (110, .int .i64 x110_l2)]) (by kernel_rfl) ?_
      refine WD.pure (i := 0) (v := .pointer (some ⟨b115, 0, none⟩)) (by kernel_rfl) (by kernel_rfl) (fun _ => by kernel_rfl) ?_
      refine WD.weaken [1, 13, 15, 109, 110, 113] (L' := [(1, .slice A1 l1.length c1), (13, .pointer (some ⟨b115, 0, none⟩)), (15, .int .i64 x110_l2), (109, .int .i64 (l1.length : Int)), (110, .int .i64 x110_l2), (113, .pointer (some ⟨b115, 0, none⟩))]) (by kernel_rfl) ?_
      refine WD.pure (i := 1) (v := .int .i64 x110_l2) (by kernel_rfl) (by kernel_rfl) (fun _ => by kernel_rfl) ?_
      refine WD.weaken [1, 13, 15, 109, 110, 113, 114] (L' := [(1, .slice A1 l1.length c1), (13, .pointer (some ⟨b115, 0, none⟩)), (15, .int .i64 x110_l2), (109, .int .i64 (l1.length : Int)), (110, .int .i64 x110_l2), (113, .pointer (some ⟨b115, 0, none⟩)), (114, .int .i64 x110_l2)]) (by kernel_rfl) ?_
      refine WD.pure (i := 3) (v := .slice A1 l1.length c1) (by kernel_rfl) (by kernel_rfl) (fun _ => by kernel_rfl) ?_
      refine WD.weaken [1, 13, 15, 109, 110, 113, 114, 116] (L' := [(1, .slice A1 l1.length c1), (13, .pointer (some ⟨b115, 0, none⟩)), (15, .int .i64 x110_l2), (109, .int .i64 (l1.length : Int)), (110, .int .i64 x110_l2), (113, .pointer (some ⟨b115, 0, none⟩)), (114, .int .i64 x110_l2), (116, .slice A1 l1.length c1)]) (by kernel_rfl) ?_
      refine WD.pure (i := 4) (v := .int .i64 x110_l2) (by kernel_rfl) (by kernel_rfl) (fun _ => by kernel_rfl) ?_
      refine WD.weaken [1, 13, 109, 110, 113, 114, 116, 117] (L' := [(1, .slice A1 l1.length c1), (13, .pointer (some ⟨b115, 0, none⟩)), (109, .int .i64 (l1.length : Int)), (110, .int .i64 x110_l2), (113, .pointer (some ⟨b115, 0, none⟩)), (114, .int .i64 x110_l2), (116, .slice A1 l1.length c1), (117, .int .i64 x110_l2)]) (by kernel_rfl) ?_
      obtain ⟨v120, e121, H⟩ := bind_ex H
      refine WD.ofP (i := 5) (by kernel_rfl) (PSt.idx (k := .i64) (.tmp 116) (.tmp 117) (by kernel_rfl) (by kernel_rfl) E22 (by kernel_rfl) (by kernel_rfl) (rdS.up R1 hS.sub0) e121 ?_)
      refine WD.weaken [1, 13, 109, 110, 113, 114, 118] (L' := [(1, .slice A1 l1.length c1), (13, .pointer (some ⟨b115, 0, none⟩)), (109, .int .i64 (l1.length : Int)), (110, .int .i64 x110_l2), (113, .pointer (some ⟨b115, 0, none⟩)), (114, .int .i64 x110_l2), (118, .pointer (some (adr A1 x110_l2.toNat 1)))]) (by kernel_rfl) ?_
      refine WD.ofR (i := 6) (by kernel_rfl) (RSt.loadInt (t := 3) (.tmp 118) (by kernel_rfl) (by kernel_rfl) (by kernel_rfl) (by kernel_rfl) (rdS.up R1 hS.sub0) e121 ?_)
      refine WD.weaken [1, 13, 109, 110, 113, 114, 119] (L' := [(1, .slice A1 l1.length c1), (13, .pointer (some ⟨b115, 0, none⟩)), (109, .int .i64 (l1.length : Int)), (110, .int .i64 x110_l2), (113, .pointer (some ⟨b115, 0, none⟩)), (114, .int .i64 x110_l2), (119, .int .i64 v120)]) (by kernel_rfl) ?_
      obtain ⟨r122, e123, H⟩ := bind_ex H
      refine WD.act (i := 2) (by kernel_rfl) (St.call (by kernel_rfl) (f := 12) (args := #[.pointer (some ⟨b115, 0, none⟩), .int .i64 x110_l2]) (by kernel_rfl) (sparse_Set_At.calls w118 (.pointer (some ⟨b115, 0, none⟩)) (some y112) (Sat.rdAny 0 hS rfl (fun _ h => O49.rd _ _ _ h)) x110_l2 r122 e123) ?_)
      rintro _ w129 ⟨rfl, hS130⟩
      have hS : Sat w129 (rf w0) [O49 b115 y112] := hS.ext hS130
      refine ⟨(asked.cons (RSt.run (n := 122) (RSt.loadInt (t := 3) (.tmp 118) (by kernel_rfl) (by kernel_rfl) (by kernel_rfl) (by kernel_rfl) (rdS.up R1 hS.sub0) e121 rfl)) (asked.nil _ _)), ?_⟩
      refine WD.weaken [1, 13, 109, 110, 115, 119] (L' := [(1, .slice A1 l1.length c1), (13, .pointer (some ⟨b115, 0, none⟩)), (109, .int .i64 (l1.length : Int)), (110, .int .i64 x110_l2), (115, .int .i64 r122), (119, .int .i64 v120)]) (by kernel_rfl) ?_
      refine WD.pure (i := 7) (v := .bool (r122 != v120)) (by kernel_rfl) (by kernel_rfl) (fun _ => by kernel_rfl) ?_
      refine WD.weaken [1, 13, 109, 110, 120] (L' := [(1, .slice A1 l1.length c1), (13, .pointer (some ⟨b115, 0, none⟩)), (109, .int .i64 (l1.length : Int)), (110, .int .i64 x110_l2), (120, .bool (r122 != v120))]) (by kernel_rfl) ?_
      refine WD.nil (by kernel_rfl) ?_
      refine At.go ?_
      refine WC.cond (by kernel_rfl) (r122 != v120) (by kernel_rfl) (by kernel_rfl) (fun hb131 => ?_) (fun hb131 => ?_)
      · replace H := ite_t H hb131
        refine WC.seq (by kernel_rfl) ?_
        refine WC.reg [0] (by kernel_rfl) (by kernel_rfl) ?_
        refine WR.runk [0] [] [6] (L' := [(6, .bool true)]) (w' := w129) (by kernel_rfl) ?_
        refine WR.nil ?_
        refine At.go ?_
        refine WC.ret (by kernel_rfl) ?_
        refine At.blockRet ?_
        refine At.thenRet ?_
        refine At.thenRet ?_
        obtain rfl := Option.some.inj H
        have hS : Sat w129 (rf w0) [O49 b115 y112] := hS.sel [0] (by kernel_rfl)
        refine At.weaken [6] (L' := [(6, .bool true)]) (by kernel_rfl) ?_
        exact hn0 true _ rfl hS
      · replace H := ite_f H hb131
        refine WC.skip (by kernel_rfl) ?_
        refine At.blockNormal ?_
        refine At.go ?_
        refine WC.reg [0, 1] (by kernel_rfl) (by kernel_rfl) ?_
        refine WR.runk [0, 1] [] [1, 13, 109, 110] (L' := [(1, .slice A1 l1.length c1), (13, .pointer (some ⟨b115, 0, none⟩)), (109, .int .i64 (l1.length : Int)), (110, .int .i64 (wi (x110_l2 + 1)))]) (w' := w129) (by kernel_rfl) ?_
        refine WR.nil ?_
        have hS : Sat w129 (rf w0) [O49 b115 y112] := hS.sel [0] (by kernel_rfl)
        refine At.again ?_
        refine WL.weaken [1, 13, 109, 110] (L' := [(1, .slice A1 l1.length c1), (13, .pointer (some ⟨b115, 0, none⟩)), (109, .int .i64 (l1.length : Int)), (110, .int .i64 (wi (x110_l2 + 1)))]) (by kernel_rfl) ?_
        exact ih (wi (x110_l2 + 1)) _ hS H
    · replace H := ite_f H hb117
      refine WC.exit (by kernel_rfl) ?_
      refine At.thenExit ?_
      refine At.thenExit ?_
      obtain rfl := Option.some.inj H
      have hS : Sat w (rf w0) [O49 b115 y112] := hS.sel [0] (by kernel_rfl)
      refine At.weaken [] (L' := []) (by kernel_rfl) ?_
      exact hn1 () _ rfl hS
theorem colophonlaw03_SparseBack.calls (w0 : World) (a0 : Int) (A1 : Option Addr) (c1 : Nat) (l1 : List Int) (R1 : rdS (r0 (.int .i64)) 1 (hp w0) A1 c1 l1) (a2 : Int) (r : Bool) (H : colophonlaw03_SparseBack.f a0 l1 a2 = some r) :
    Calls Try.prog 6 #[.int .i64 a0, .slice A1 l1.length c1, .int .i64 a2] w0 (fun e w' => ∃ v, e = .returned v ∧ colophonlaw03_SparseBack.post w0 r v w') := by
  have hS : Sat w0 (rf w0) [] := Sat.start w0
  unfold colophonlaw03_SparseBack.f at H
  refine calls_of_WC (vs := [.int .i64 a0, .slice A1 l1.length c1, .int .i64 a2]) Try.func6 (c := C6) (n := 122) (by kernel_rfl) (by kernel_rfl) (by kernel_rfl) ?_
  refine WC.seq (by kernel_rfl) ?_
  refine WC.reg [0] (by kernel_rfl) (by kernel_rfl) ?_
  refine WR.runk [0] [] [0, 1, 2] (L' := [(0, .int .i64 a0), (1, .slice A1 l1.length c1), (2, .int .i64 a2)]) (w' := w0) (by kernel_rfl) ?_
  refine WR.nil ?_
  refine At.go ?_
  refine WC.seq (by kernel_rfl) ?_
  refine WC.seq (by kernel_rfl) ?_
  refine WC.reg [0, 1] (by kernel_rfl) (by kernel_rfl) ?_
  obtain ⟨r1, e2, H⟩ := bind_ex H
  refine WR.st (St.call (by kernel_rfl) (f := 8) (args := #[]) (by kernel_rfl) (colophonlaw03_first.calls w0  r1 e2) ?_)
  rintro _ w8 ⟨rfl, hS9⟩
  have hS : Sat w8 (rf w0) [] := hS.ext hS9
  refine WR.runk [1] [] [0, 1, 2, 17] (L' := [(0, .int .i64 a0), (1, .slice A1 l1.length c1), (2, .int .i64 a2), (17, .bool (!r1))]) (w' := w8) (by kernel_rfl) ?_
  refine WR.nil ?_
  refine At.go ?_
  refine WC.cond (by kernel_rfl) (!r1) (by kernel_rfl) (by kernel_rfl) (fun hb10 => ?_) (fun hb10 => ?_)
  · replace H := ite_t H hb10
    refine WC.seq (by kernel_rfl) ?_
    refine WC.reg [0] (by kernel_rfl) (by kernel_rfl) ?_
    refine WR.runk [0] [] [6] (L' := [(6, .bool false)]) (w' := w8) (by kernel_rfl) ?_
    refine WR.nil ?_
    refine At.go ?_
    refine WC.ret (by kernel_rfl) ?_
    refine At.thenRet ?_
    obtain rfl := Option.some.inj H
    have hS : Sat w8 (rf w0) [] := hS.sel [] (by kernel_rfl)
    exact At.body [.bool false] (by kernel_rfl) ⟨_, rfl, rfl, hS⟩
  · replace H := ite_f H hb10
    refine WC.skip (by kernel_rfl) ?_
    refine At.go ?_
    refine WC.seq (by kernel_rfl) ?_
    refine WC.seq (by kernel_rfl) ?_
    refine WC.reg [0, 1, 2, 3, 4, 5, 6, 7, 8, 9, 10, 11, 12] (by kernel_rfl) (by kernel_rfl) ?_
    refine WR.runk [0, 1, 2, 3] [4, 5, 6, 7, 8, 9, 10, 11, 12] [0, 1, 2, 21] (L' := [(0, .int .i64 a0), (1, .slice A1 l1.length c1), (2, .int .i64 a2), (21, .bool (decide ((l1.length : Int) > 500)))]) (w' := w8) (by kernel_rfl) ?_
    refine WR.split 21 (b := decide ((l1.length : Int) > 500)) (by kernel_rfl) (fun hb11 => ?_) (fun hb11 => ?_)
    · replace H := ite_t H hb11
      refine WR.runk [4, 5, 6, 7, 8, 9, 10, 11, 12] [] [0, 1, 2, 30] (L' := [(0, .int .i64 a0), (1, .slice A1 l1.length c1), (2, .int .i64 a2), (30, .bool true)]) (w' := w8) (by kernel_rfl) ?_
      refine WR.nil ?_
      refine At.go ?_
      refine WC.condT (by kernel_rfl) (by kernel_rfl) (by kernel_rfl) ?_
      refine WC.seq (by kernel_rfl) ?_
      refine WC.reg [0] (by kernel_rfl) (by kernel_rfl) ?_
      refine WR.runk [0] [] [6] (L' := [(6, .bool true)]) (w' := w8) (by kernel_rfl) ?_
      refine WR.nil ?_
      refine At.go ?_
      refine WC.ret (by kernel_rfl) ?_
      refine At.thenRet ?_
      obtain rfl := Option.some.inj H
      have hS : Sat w8 (rf w0) [] := hS.sel [] (by kernel_rfl)
      exact At.body [.bool true] (by kernel_rfl) ⟨_, rfl, rfl, hS⟩
    · replace H := ite_f H hb11
      refine WR.runk [4, 5, 6, 7] [8, 9, 10, 11, 12] [0, 1, 2, 25] (L' := [(0, .int .i64 a0), (1, .slice A1 l1.length c1), (2, .int .i64 a2), (25, .bool (decide (a0 > 20000)))]) (w' := w8) (by kernel_rfl) ?_
      refine WR.split 25 (b := decide (a0 > 20000)) (by kernel_rfl) (fun hb12 => ?_) (fun hb12 => ?_)
      · replace H := ite_t H hb12
        refine WR.runk [8, 9, 10, 11, 12] [] [0, 1, 2, 30] (L' := [(0, .int .i64 a0), (1, .slice A1 l1.length c1), (2, .int .i64 a2), (30, .bool true)]) (w' := w8) (by kernel_rfl) ?_
        refine WR.nil ?_
        refine At.go ?_
        refine WC.condT (by kernel_rfl) (by kernel_rfl) (by kernel_rfl) ?_
        refine WC.seq (by kernel_rfl) ?_
        refine WC.reg [0] (by kernel_rfl) (by kernel_rfl) ?_
        refine WR.runk [0] [] [6] (L' := [(6, .bool true)]) (w' := w8) (by kernel_rfl) ?_
        refine WR.nil ?_
        refine At.go ?_
        refine WC.ret (by kernel_rfl) ?_
        refine At.thenRet ?_
        obtain rfl := Option.some.inj H
        have hS : Sat w8 (rf w0) [] := hS.sel [] (by kernel_rfl)
        exact At.body [.bool true] (by kernel_rfl) ⟨_, rfl, rfl, hS⟩
      · replace H := ite_f H hb12
        refine WR.runk [8, 9] [10, 11, 12] [0, 1, 2, 25, 26, 27] (L' := [(0, .int .i64 a0), (1, .slice A1 l1.length c1), (2, .int .i64 a2), (25, .bool false), (26, .int .i64 a0), (27, .slice A1 l1.length c1)]) (w' := w8) (by kernel_rfl) ?_
        obtain ⟨r13, e14, H⟩ := bind_ex H
        refine WR.st (St.call (by kernel_rfl) (f := 9) (args := #[.int .i64 a0, .slice A1 l1.length c1]) (by kernel_rfl) (colophonref03_Right.calls w8 a0 A1 c1 l1 (rdS.up R1 hS.sub0) r13 e14) ?_)
        rintro _ w20 ⟨rfl, hS21⟩
        have hS : Sat w20 (rf w0) [] := hS.ext hS21
        refine WR.runk [11, 12] [] [0, 1, 2, 30] (L' := [(0, .int .i64 a0), (1, .slice A1 l1.length c1), (2, .int .i64 a2), (30, .bool (!r13))]) (w' := w20) (by kernel_rfl) ?_
        refine WR.nil ?_
        refine At.go ?_
        refine WC.cond (by kernel_rfl) (!r13) (by kernel_rfl) (by kernel_rfl) (fun hb22 => ?_) (fun hb22 => ?_)
        · replace H := ite_t H hb22
          refine WC.seq (by kernel_rfl) ?_
          refine WC.reg [0] (by kernel_rfl) (by kernel_rfl) ?_
          refine WR.runk [0] [] [6] (L' := [(6, .bool true)]) (w' := w20) (by kernel_rfl) ?_
          refine WR.nil ?_
          refine At.go ?_
          refine WC.ret (by kernel_rfl) ?_
          refine At.thenRet ?_
          obtain rfl := Option.some.inj H
          have hS : Sat w20 (rf w0) [] := hS.sel [] (by kernel_rfl)
          exact At.body [.bool true] (by kernel_rfl) ⟨_, rfl, rfl, hS⟩
        · replace H := ite_f H hb22
          refine WC.skip (by kernel_rfl) ?_
          refine At.go ?_
          refine WC.seq (by kernel_rfl) ?_
          refine WC.reg [0, 1, 2, 3, 4, 5, 6, 7] (by kernel_rfl) (by kernel_rfl) ?_
          refine WR.runk [0, 1] [2, 3, 4, 5, 6, 7] [0, 1, 2, 32, 33] (L' := [(0, .int .i64 a0), (1, .slice A1 l1.length c1), (2, .int .i64 a2), (32, .int .i64 a0), (33, .slice A1 l1.length c1)]) (w' := w20) (by kernel_rfl) ?_
          obtain ⟨r23, e24, H⟩ := bind_ex H
          refine WR.st (St.call (by kernel_rfl) (f := 18) (args := #[.int .i64 a0, .slice A1 l1.length c1]) (by kernel_rfl) (colophonref03_Words.calls w20 a0 A1 c1 l1 (rdS.up R1 hS.sub0) r23 e24) ?_)
          rintro _ w30 ⟨A32, c33, A34, c35, rfl, hS31⟩
          have hS : Sat w30 (rf w0) [osl 43 (r0 (.int .u64)) 1 A32 c33 r23.1, osl 43 (r0 (.int .u64)) 1 A34 c35 r23.2] := hS.ext hS31
          refine WR.runk [3, 4, 5, 6, 7] [] [0, 1, 2, 7, 8] (L' := [(0, .int .i64 a0), (1, .slice A1 l1.length c1), (2, .int .i64 a2), (7, .slice A32 r23.1.length c33), (8, .slice A34 r23.2.length c35)]) (w' := w30) (by kernel_rfl) ?_
          refine WR.nil ?_
          refine At.go ?_
          refine WC.seq (by kernel_rfl) ?_
          refine WC.reg [0, 1, 2, 3, 4, 5, 6, 7, 8, 9, 10] (by kernel_rfl) (by kernel_rfl) ?_
          refine WR.runk [0, 1, 2, 3, 4] [5, 6, 7, 8, 9, 10] [0, 1, 2, 7, 8, 38, 40, 41, 42] (L' := [(0, .int .i64 a0), (1, .slice A1 l1.length c1), (2, .int .i64 a2), (7, .slice A32 r23.1.length c33), (8, .slice A34 r23.2.length c35), (38, .int .i64 a0), (40, .int .i64 (l1.length : Int)), (41, .slice A32 r23.1.length c33), (42, .slice A34 r23.2.length c35)]) (w' := w30) (by kernel_rfl) ?_
          obtain ⟨r36, e37, H⟩ := bind_ex H
          refine WR.st (St.call (by kernel_rfl) (f := 20) (args := #[.int .i64 a0, .int .i64 (l1.length : Int), .slice A32 r23.1.length c33, .slice A34 r23.2.length c35]) (by kernel_rfl) (sparse_From.calls w30 a0 (l1.length : Int) A32 c33 r23.1 (Sat.rdAt 0 hS rfl) A34 c35 r23.2 (Sat.rdAt 1 hS rfl) r36 e37) ?_)
          rintro _ w43 ⟨pv45, rfl, hS44⟩
          have hS : Sat w43 (rf w0) [optP O49 pv45 r36.1, osl 43 (r0 (.int .u64)) 1 A32 c33 r23.1, osl 43 (r0 (.int .u64)) 1 A34 c35 r23.2] := hS.ext hS44
          refine WR.runk [6, 7, 8, 9, 10] [] [0, 1, 2, 7, 8, 9, 10] (L' := [(0, .int .i64 a0), (1, .slice A1 l1.length c1), (2, .int .i64 a2), (7, .slice A32 r23.1.length c33), (8, .slice A34 r23.2.length c35), (9, pv45), (10, .int .i64 r36.2)]) (w' := w43) (by kernel_rfl) ?_
          refine WR.nil ?_
          refine At.go ?_
          refine WC.seq (by kernel_rfl) ?_
          refine WC.seq (by kernel_rfl) ?_
          refine WC.reg [0, 1, 2, 3, 4, 5, 6, 7, 8, 9, 10, 11, 12] (by kernel_rfl) (by kernel_rfl) ?_
          refine WR.runk [0] [1, 2, 3, 4, 5, 6, 7, 8, 9, 10, 11, 12] [0, 1, 2, 7, 8, 9, 10, 46] (L' := [(0, .int .i64 a0), (1, .slice A1 l1.length c1), (2, .int .i64 a2), (7, .slice A32 r23.1.length c33), (8, .slice A34 r23.2.length c35), (9, pv45), (10, .int .i64 r36.2), (46, pv45)]) (w' := w43) (by kernel_rfl) ?_
          rcases hr47 : r36.1 with _ | y46
          · rw [hr47] at H
            dsimp only at H
            have hv48 := optP.none hS hr47
            subst hv48
            have hS : Sat w43 (rf w0) [osl 43 (r0 (.int .u64)) 1 A32 c33 r23.1, osl 43 (r0 (.int .u64)) 1 A34 c35 r23.2] := hS.sel [1, 2] (by kernel_rfl)
            refine WR.runk [1, 2, 3, 4, 5, 6, 7, 8, 9, 10, 11, 12] [] [0, 1, 2, 7, 8, 9, 58] (L' := [(0, .int .i64 a0), (1, .slice A1 l1.length c1), (2, .int .i64 a2), (7, .slice A32 r23.1.length c33), (8, .slice A34 r23.2.length c35), (9, .pointer none), (58, .bool true)]) (w' := w43) (by kernel_rfl) ?_
            refine WR.nil ?_
            refine At.go ?_
            refine WC.condT (by kernel_rfl) (by kernel_rfl) (by kernel_rfl) ?_
            refine WC.seq (by kernel_rfl) ?_
            refine WC.reg [0] (by kernel_rfl) (by kernel_rfl) ?_
            refine WR.runk [0] [] [6] (L' := [(6, .bool false)]) (w' := w43) (by kernel_rfl) ?_
            refine WR.nil ?_
            refine At.go ?_
            refine WC.ret (by kernel_rfl) ?_
            refine At.thenRet ?_
            obtain rfl := Option.some.inj H
            have hS : Sat w43 (rf w0) [] := hS.sel [] (by kernel_rfl)
            exact At.body [.bool false] (by kernel_rfl) ⟨_, rfl, rfl, hS⟩
          · rw [hr47] at H
            dsimp only at H
            obtain ⟨b49, hv48, hN143⟩ := optP.some hS hr47
            subst hv48
            have hS : Sat w43 (rf w0) [O49 b49 y46, osl 43 (r0 (.int .u64)) 1 A32 c33 r23.1, osl 43 (r0 (.int .u64)) 1 A34 c35 r23.2] := hN143
            refine WR.runk [1, 2, 3, 4, 5, 6] [7, 8, 9, 10, 11, 12] [0, 1, 2, 7, 8, 9, 52] (L' := [(0, .int .i64 a0), (1, .slice A1 l1.length c1), (2, .int .i64 a2), (7, .slice A32 r23.1.length c33), (8, .slice A34 r23.2.length c35), (9, .pointer (some ⟨b49, 0, none⟩)), (52, .bool (r36.2 != 0))]) (w' := w43) (by kernel_rfl) ?_
            refine WR.split 52 (b := (r36.2 != 0)) (by kernel_rfl) (fun hb51 => ?_) (fun hb51 => ?_)
            · replace H := ite_t H hb51
              refine WR.runk [7, 8, 9, 10, 11, 12] [] [0, 1, 2, 7, 8, 9, 58] (L' := [(0, .int .i64 a0), (1, .slice A1 l1.length c1), (2, .int .i64 a2), (7, .slice A32 r23.1.length c33), (8, .slice A34 r23.2.length c35), (9, .pointer (some ⟨b49, 0, none⟩)), (58, .bool true)]) (w' := w43) (by kernel_rfl) ?_
              refine WR.nil ?_
              refine At.go ?_
              refine WC.condT (by kernel_rfl) (by kernel_rfl) (by kernel_rfl) ?_
              refine WC.seq (by kernel_rfl) ?_
              refine WC.reg [0] (by kernel_rfl) (by kernel_rfl) ?_
              refine WR.runk [0] [] [6] (L' := [(6, .bool false)]) (w' := w43) (by kernel_rfl) ?_
              refine WR.nil ?_
              refine At.go ?_
              refine WC.ret (by kernel_rfl) ?_
              refine At.thenRet ?_
              obtain rfl := Option.some.inj H
              have hS : Sat w43 (rf w0) [] := hS.sel [] (by kernel_rfl)
              exact At.body [.bool false] (by kernel_rfl) ⟨_, rfl, rfl, hS⟩
            · replace H := ite_f H hb51
              refine WR.runk [7] [8, 9, 10, 11, 12] [0, 1, 2, 7, 8, 9, 52, 53] (L' := [(0, .int .i64 a0), (1, .slice A1 l1.length c1), (2, .int .i64 a2), (7, .slice A32 r23.1.length c33), (8, .slice A34 r23.2.length c35), (9, .pointer (some ⟨b49, 0, none⟩)), (52, .bool false), (53, .pointer (some ⟨b49, 0, none⟩))]) (w' := w43) (by kernel_rfl) ?_
              obtain ⟨r52, e53, H⟩ := bind_ex H
              refine WR.st (St.call (by kernel_rfl) (f := 15) (args := #[.pointer (some ⟨b49, 0, none⟩)]) (by kernel_rfl) (sparse_Set_Len.calls w43 (.pointer (some ⟨b49, 0, none⟩)) (some y46) (Sat.rdAny 0 hS rfl (fun _ h => O49.rd _ _ _ h)) r52 e53) ?_)
              rintro _ w59 ⟨rfl, hS60⟩
              have hS : Sat w59 (rf w0) [O49 b49 y46, osl 43 (r0 (.int .u64)) 1 A32 c33 r23.1, osl 43 (r0 (.int .u64)) 1 A34 c35 r23.2] := hS.ext hS60
              refine WR.runk [9, 10, 11, 12] [] [0, 1, 2, 7, 8, 9, 58] (L' := [(0, .int .i64 a0), (1, .slice A1 l1.length c1), (2, .int .i64 a2), (7, .slice A32 r23.1.length c33), (8, .slice A34 r23.2.length c35), (9, .pointer (some ⟨b49, 0, none⟩)), (58, .bool (r52 != (l1.length : Int)))]) (w' := w59) (by kernel_rfl) ?_
              refine WR.nil ?_
              refine At.go ?_
              refine WC.cond (by kernel_rfl) (r52 != (l1.length : Int)) (by kernel_rfl) (by kernel_rfl) (fun hb61 => ?_) (fun hb61 => ?_)
              · replace H := ite_t H hb61
                refine WC.seq (by kernel_rfl) ?_
                refine WC.reg [0] (by kernel_rfl) (by kernel_rfl) ?_
                refine WR.runk [0] [] [6] (L' := [(6, .bool false)]) (w' := w59) (by kernel_rfl) ?_
                refine WR.nil ?_
                refine At.go ?_
                refine WC.ret (by kernel_rfl) ?_
                refine At.thenRet ?_
                obtain rfl := Option.some.inj H
                have hS : Sat w59 (rf w0) [] := hS.sel [] (by kernel_rfl)
                exact At.body [.bool false] (by kernel_rfl) ⟨_, rfl, rfl, hS⟩
              · replace H := ite_f H hb61
                refine WC.skip (by kernel_rfl) ?_
                refine At.go ?_
                refine WC.seq (by kernel_rfl) ?_
                refine WC.seq (by kernel_rfl) ?_
                refine WC.reg [0, 1, 2] (by kernel_rfl) (by kernel_rfl) ?_
                refine WR.runk [0, 1, 2] [] [0, 1, 2, 7, 8, 9, 60, 61] (L' := [(0, .int .i64 a0), (1, .slice A1 l1.length c1), (2, .int .i64 a2), (7, .slice A32 r23.1.length c33), (8, .slice A34 r23.2.length c35), (9, .pointer (some ⟨b49, 0, none⟩)), (60, .int .i64 (l1.length : Int)), (61, .int .i64 0)]) (w' := w59) (by kernel_rfl) ?_
                refine WR.nil ?_
                refine At.go ?_
                refine WC.block (by kernel_rfl) ?_
                have hS : Sat w59 (rf w0) [osl 43 (r0 (.int .u64)) 1 A32 c33 r23.1, osl 43 (r0 (.int .u64)) 1 A34 c35 r23.2, O49 b49 y46] := hS.sel [1, 2, 0] (by kernel_rfl)
                obtain ⟨o77, e78, H⟩ := bind_ex H
                refine WC.loop (by kernel_rfl) ?_
                refine WL.weaken [0, 1, 2, 7, 8, 9, 60, 61] (L' := [(0, .int .i64 a0), (1, .slice A1 l1.length c1), (2, .int .i64 a2), (7, .slice A32 r23.1.length c33), (8, .slice A34 r23.2.length c35), (9, .pointer (some ⟨b49, 0, none⟩)), (60, .int .i64 (l1.length : Int)), (61, .int .i64 0)]) (by kernel_rfl) ?_
                refine colophonlaw03_SparseBack.l1_ok w0 a0 A1 c1 l1 a2 r23 A32 c33 A34 c35 y46 b49 R1 o77 (fun o79 w81 ho82 hS => ?_) (fun o83 w85 ho86 hS => ?_) FU 0 _ hS e78
                · subst ho82
                  dsimp only at H
                  refine At.blockRet ?_
                  refine At.thenRet ?_
                  obtain rfl := Option.some.inj H
                  have hS : Sat w81 (rf w0) [] := hS.sel [] (by kernel_rfl)
                  exact At.body [.bool o79] (by kernel_rfl) ⟨_, rfl, rfl, hS⟩
                · subst ho86
                  dsimp only at H
                  refine At.hit ?_
                  refine At.go ?_
                  refine WC.seq (by kernel_rfl) ?_
                  refine WC.seq (by kernel_rfl) ?_
                  refine WC.reg [0, 1, 2] (by kernel_rfl) (by kernel_rfl) ?_
                  refine WR.runk [0, 1, 2] [] [0, 1, 2, 7, 8, 75] (L' := [(0, .int .i64 a0), (1, .slice A1 l1.length c1), (2, .int .i64 a2), (7, .slice A32 r23.1.length c33), (8, .slice A34 r23.2.length c35), (75, .bool ((r23.1.length : Int) == 0))]) (w' := w85) (by kernel_rfl) ?_
                  refine WR.nil ?_
                  refine At.go ?_
                  refine WC.cond (by kernel_rfl) ((r23.1.length : Int) == 0) (by kernel_rfl) (by kernel_rfl) (fun hb87 => ?_) (fun hb87 => ?_)
                  · replace H := ite_t H hb87
                    refine WC.seq (by kernel_rfl) ?_
                    refine WC.reg [0] (by kernel_rfl) (by kernel_rfl) ?_
                    refine WR.runk [0] [] [6] (L' := [(6, .bool true)]) (w' := w85) (by kernel_rfl) ?_
                    refine WR.nil ?_
                    refine At.go ?_
                    refine WC.ret (by kernel_rfl) ?_
                    refine At.thenRet ?_
                    obtain rfl := Option.some.inj H
                    have hS : Sat w85 (rf w0) [] := hS.sel [] (by kernel_rfl)
                    exact At.body [.bool true] (by kernel_rfl) ⟨_, rfl, rfl, hS⟩
                  · replace H := ite_f H hb87
                    refine WC.skip (by kernel_rfl) ?_
                    refine At.go ?_
                    refine WC.seq (by kernel_rfl) ?_
                    refine WC.reg [0, 1, 2, 3, 4, 5, 6, 7, 8] (by kernel_rfl) (by kernel_rfl) ?_
                    refine WR.runk [0, 1, 2, 3, 4, 5] [6, 7, 8] [0, 1, 7, 8, 77, 81] (L' := [(0, .int .i64 a0), (1, .slice A1 l1.length c1), (7, .slice A32 r23.1.length c33), (8, .slice A34 r23.2.length c35), (77, .int .u64 (IntKind.wrap .u64 a2)), (81, .int .u64 (IntKind.wrap .u64 (wi (64 * (r23.1.length : Int)))))]) (w' := w85) (by kernel_rfl) ?_
                    obtain ⟨_, e88, H⟩ := bind_ex H
                    refine WR.st (St.ofP (PSt.div (k := .u64) (t := 42) (t2 := 42) (a := (IntKind.wrap .u64 a2)) (b := (IntKind.wrap .u64 (wi (64 * (r23.1.length : Int))))) .rem (by decide) (.tmp 77) (.tmp 81) (by kernel_rfl) (by kernel_rfl) (by kernel_rfl) (by kernel_rfl) (of_decide_eq_true (chk?_some e88)) ?_))
                    refine WR.runk [7, 8] [] [0, 1, 7, 8, 12] (L' := [(0, .int .i64 a0), (1, .slice A1 l1.length c1), (7, .slice A32 r23.1.length c33), (8, .slice A34 r23.2.length c35), (12, .int .i64 (wi (Int.tmod (IntKind.wrap .u64 a2) (IntKind.wrap .u64 (wi (64 * (r23.1.length : Int)))))))]) (w' := w85) (by kernel_rfl) ?_
                    refine WR.nil ?_
                    refine At.go ?_
                    refine WC.seq (by kernel_rfl) ?_
                    refine WC.reg [0, 1, 2, 3, 4, 5, 6, 7, 8, 9, 10, 11] (by kernel_rfl) (by kernel_rfl) ?_
                    refine WR.runk [0, 1, 2] [3, 4, 5, 6, 7, 8, 9, 10, 11] [0, 1, 7, 8, 12, 84, 86] (L' := [(0, .int .i64 a0), (1, .slice A1 l1.length c1), (7, .slice A32 r23.1.length c33), (8, .slice A34 r23.2.length c35), (12, .int .i64 (wi (Int.tmod (IntKind.wrap .u64 a2) (IntKind.wrap .u64 (wi (64 * (r23.1.length : Int))))))), (84, .slice A32 r23.1.length c33), (86, .int .i64 (wi (Int.tdiv (wi (Int.tmod (IntKind.wrap .u64 a2) (IntKind.wrap .u64 (wi (64 * (r23.1.length : Int)))))) 64)))]) (w' := w85) (by kernel_rfl) ?_
                    obtain ⟨v89, e90, H⟩ := bind_ex H
                    refine WR.st (St.ofP (PSt.idx (k := .i64) (.tmp 84) (.tmp 86) (by kernel_rfl) (by kernel_rfl) E35 (by kernel_rfl) (by kernel_rfl) (Sat.rdAt 0 hS rfl) e90 ?_))
                    refine WR.runk [] [4, 5, 6, 7, 8, 9, 10, 11] [0, 1, 7, 8, 12, 84, 86, 87] (L' := [(0, .int .i64 a0), (1, .slice A1 l1.length c1), (7, .slice A32 r23.1.length c33), (8, .slice A34 r23.2.length c35), (12, .int .i64 (wi (Int.tmod (IntKind.wrap .u64 a2) (IntKind.wrap .u64 (wi (64 * (r23.1.length : Int))))))), (84, .slice A32 r23.1.length c33), (86, .int .i64 (wi (Int.tdiv (wi (Int.tmod (IntKind.wrap .u64 a2) (IntKind.wrap .u64 (wi (64 * (r23.1.length : Int)))))) 64))), (87, .pointer (some (adr A32 (wi (Int.tdiv (wi (Int.tmod (IntKind.wrap .u64 a2) (IntKind.wrap .u64 (wi (64 * (r23.1.length : Int)))))) 64)).toNat 1)))]) (w' := w85) (by kernel_rfl) ?_
                    refine WR.st (St.ofR (RSt.loadInt (t := 43) (.tmp 87) (by kernel_rfl) (by kernel_rfl) (by kernel_rfl) (by kernel_rfl) (Sat.rdAt 0 hS rfl) e90 ?_))
                    refine WR.runk [5, 6, 7] [8, 9, 10, 11] [0, 1, 7, 8, 84, 86, 88, 91] (L' := [(0, .int .i64 a0), (1, .slice A1 l1.length c1), (7, .slice A32 r23.1.length c33), (8, .slice A34 r23.2.length c35), (84, .slice A32 r23.1.length c33), (86, .int .i64 (wi (Int.tdiv (wi (Int.tmod (IntKind.wrap .u64 a2) (IntKind.wrap .u64 (wi (64 * (r23.1.length : Int)))))) 64))), (88, .int .u64 v89), (91, .int .u64 (IntKind.wrap .u64 (Int.tmod (wi (Int.tmod (IntKind.wrap .u64 a2) (IntKind.wrap .u64 (wi (64 * (r23.1.length : Int)))))) 64)))]) (w' := w85) (by kernel_rfl) ?_
                    refine WR.st (St.ofP (PSt.shift (k := .u64) (k2 := .u64) (t := 43) (t2 := 42) (a := 1) (b := (IntKind.wrap .u64 (Int.tmod (wi (Int.tmod (IntKind.wrap .u64 a2) (IntKind.wrap .u64 (wi (64 * (r23.1.length : Int)))))) 64))) .shl (by decide) (.const (.int .u64 1)) (.tmp 91) (by kernel_rfl) (by kernel_rfl) (by kernel_rfl) (by kernel_rfl) (wrap_u64_nonneg _) ?_))
                    refine WR.runk [9] [10, 11] [0, 1, 7, 8, 84, 86, 93] (L' := [(0, .int .i64 a0), (1, .slice A1 l1.length c1), (7, .slice A32 r23.1.length c33), (8, .slice A34 r23.2.length c35), (84, .slice A32 r23.1.length c33), (86, .int .i64 (wi (Int.tdiv (wi (Int.tmod (IntKind.wrap .u64 a2) (IntKind.wrap .u64 (wi (64 * (r23.1.length : Int)))))) 64))), (93, .int .u64 (ixor .u64 v89 (ishl .u64 1 (IntKind.wrap .u64 (Int.tmod (wi (Int.tmod (IntKind.wrap .u64 a2) (IntKind.wrap .u64 (wi (64 * (r23.1.length : Int)))))) 64)))))]) (w' := w85) (by kernel_rfl) ?_
                    refine WR.st (St.ofP (PSt.idx (k := .i64) (.tmp 84) (.tmp 86) (by kernel_rfl) (by kernel_rfl) E35 (by kernel_rfl) (by kernel_rfl) (Sat.rdAt 0 hS rfl) e90 ?_))
                    refine WR.runk [] [11] [0, 1, 7, 8, 93, 94] (L' := [(0, .int .i64 a0), (1, .slice A1 l1.length c1), (7, .slice A32 r23.1.length c33), (8, .slice A34 r23.2.length c35), (93, .int .u64 (ixor .u64 v89 (ishl .u64 1 (IntKind.wrap .u64 (Int.tmod (wi (Int.tmod (IntKind.wrap .u64 a2) (IntKind.wrap .u64 (wi (64 * (r23.1.length : Int)))))) 64))))), (94, .pointer (some (adr A32 (wi (Int.tdiv (wi (Int.tmod (IntKind.wrap .u64 a2) (IntKind.wrap .u64 (wi (64 * (r23.1.length : Int)))))) 64)).toNat 1)))]) (w' := w85) (by kernel_rfl) ?_
                    obtain ⟨y91, e92, H⟩ := bind_ex H
                    refine WR.st (St.storeElem' (t := 43) (.tmp 94) (.tmp 93) (by kernel_rfl) (by kernel_rfl) (by kernel_rfl) hS (by kernel_rfl) (by kernel_rfl) rfl e92 rfl (fun w93 hS => ?_))
                    have hl94 := set?_len e92
                    refine WR.know 7 (.slice A32 y91.length c33) (.slice A32 r23.1.length c33) (by kernel_rfl) (by rw [hl94]) ?_
                    refine WR.runk [] [] [0, 1, 7, 8] (L' := [(0, .int .i64 a0), (1, .slice A1 l1.length c1), (7, .slice A32 y91.length c33), (8, .slice A34 r23.2.length c35)]) (w' := w93) (by kernel_rfl) ?_
                    refine WR.nil ?_
                    refine At.go ?_
                    refine WC.seq (by kernel_rfl) ?_
                    refine WC.reg [0, 1, 2, 3, 4, 5, 6, 7, 8, 9, 10] (by kernel_rfl) (by kernel_rfl) ?_
                    refine WR.runk [0, 1, 2, 3, 4] [5, 6, 7, 8, 9, 10] [1, 96, 98, 99, 100] (L' := [(1, .slice A1 l1.length c1), (96, .int .i64 a0), (98, .int .i64 (l1.length : Int)), (99, .slice A32 y91.length c33), (100, .slice A34 r23.2.length c35)]) (w' := w93) (by kernel_rfl) ?_
                    obtain ⟨r95, e96, H⟩ := bind_ex H
                    refine WR.st (St.call (by kernel_rfl) (f := 20) (args := #[.int .i64 a0, .int .i64 (l1.length : Int), .slice A32 y91.length c33, .slice A34 r23.2.length c35]) (by kernel_rfl) (sparse_From.calls w93 a0 (l1.length : Int) A32 c33 y91 (Sat.rdAt 0 hS rfl) A34 c35 r23.2 (Sat.rdAt 1 hS rfl) r95 e96) ?_)
                    rintro _ w102 ⟨pv104, rfl, hS103⟩
                    have hS : Sat w102 (rf w0) [optP O49 pv104 r95.1, osl 43 (r0 (.int .u64)) 1 A32 c33 y91, osl 43 (r0 (.int .u64)) 1 A34 c35 r23.2, O49 b49 y46] := hS.ext hS103
                    refine WR.runk [6, 7, 8, 9, 10] [] [1, 13, 14] (L' := [(1, .slice A1 l1.length c1), (13, pv104), (14, .int .i64 r95.2)]) (w' := w102) (by kernel_rfl) ?_
                    refine WR.nil ?_
                    refine At.go ?_
                    refine WC.seq (by kernel_rfl) ?_
                    refine WC.seq (by kernel_rfl) ?_
                    refine WC.reg [0, 1] (by kernel_rfl) (by kernel_rfl) ?_
                    refine WR.runk [0, 1] [] [1, 13, 105] (L' := [(1, .slice A1 l1.length c1), (13, pv104), (105, .bool (r95.2 != 0))]) (w' := w102) (by kernel_rfl) ?_
                    refine WR.nil ?_
                    refine At.go ?_
                    refine WC.cond (by kernel_rfl) (r95.2 != 0) (by kernel_rfl) (by kernel_rfl) (fun hb105 => ?_) (fun hb105 => ?_)
                    · replace H := ite_t H hb105
                      refine WC.seq (by kernel_rfl) ?_
                      refine WC.reg [0, 1, 2] (by kernel_rfl) (by kernel_rfl) ?_
                      refine WR.runk [0] [1, 2] [106] (L' := [(106, pv104)]) (w' := w102) (by kernel_rfl) ?_
                      rcases hr107 : r95.1 with _ | y106
                      · rw [hr107] at H
                        dsimp only at H
                        have hv108 := optP.none hS hr107
                        subst hv108
                        have hS : Sat w102 (rf w0) [osl 43 (r0 (.int .u64)) 1 A32 c33 y91, osl 43 (r0 (.int .u64)) 1 A34 c35 r23.2, O49 b49 y46] := hS.sel [1, 2, 3] (by kernel_rfl)
                        refine WR.runk [1, 2] [] [6] (L' := [(6, .bool true)]) (w' := w102) (by kernel_rfl) ?_
                        refine WR.nil ?_
                        refine At.go ?_
                        refine WC.ret (by kernel_rfl) ?_
                        refine At.thenRet ?_
                        obtain rfl := Option.some.inj H
                        have hS : Sat w102 (rf w0) [] := hS.sel [] (by kernel_rfl)
                        exact At.body [.bool true] (by kernel_rfl) ⟨_, rfl, rfl, hS⟩
                      · rw [hr107] at H
                        dsimp only at H
                        obtain ⟨b109, hv108, hN111⟩ := optP.some hS hr107
                        subst hv108
                        have hS : Sat w102 (rf w0) [O49 b109 y106, osl 43 (r0 (.int .u64)) 1 A32 c33 y91, osl 43 (r0 (.int .u64)) 1 A34 c35 r23.2, O49 b49 y46] := hN111
                        refine WR.runk [1, 2] [] [6] (L' := [(6, .bool false)]) (w' := w102) (by kernel_rfl) ?_
                        refine WR.nil ?_
                        refine At.go ?_
                        refine WC.ret (by kernel_rfl) ?_
                        refine At.thenRet ?_
                        obtain rfl := Option.some.inj H
                        have hS : Sat w102 (rf w0) [] := hS.sel [] (by kernel_rfl)
                        exact At.body [.bool false] (by kernel_rfl) ⟨_, rfl, rfl, hS⟩
                    · replace H := ite_f H hb105
                      refine WC.skip (by kernel_rfl) ?_
                      refine At.go ?_
                      refine WC.seq (by kernel_rfl) ?_
                      refine WC.seq (by kernel_rfl) ?_
                      refine WC.reg [0, 1, 2] (by kernel_rfl) (by kernel_rfl) ?_
                      refine WR.runk [0, 1, 2] [] [1, 13, 109, 110] (L' := [(1, .slice A1 l1.length c1), (13, pv104), (109, .int .i64 (l1.length : Int)), (110, .int .i64 0)]) (w' := w102) (by kernel_rfl) ?_
                      refine WR.nil ?_
                      refine At.go ?_
                      refine WC.block (by kernel_rfl) ?_
                      obtain ⟨y112, hr113, H⟩ := bind_ex H
                      obtain ⟨b115, hv114, hN142⟩ := optP.some hS hr113
                      subst hv114
                      have hS : Sat w102 (rf w0) [O49 b115 y112, osl 43 (r0 (.int .u64)) 1 A32 c33 y91, osl 43 (r0 (.int .u64)) 1 A34 c35 r23.2, O49 b49 y46] := hN142
                      have hS : Sat w102 (rf w0) [O49 b115 y112] := hS.sel [0] (by kernel_rfl)
                      obtain ⟨o132, e133, H⟩ := bind_ex H
                      refine WC.loop (by kernel_rfl) ?_
                      refine WL.weaken [1, 13, 109, 110] (L' := [(1, .slice A1 l1.length c1), (13, .pointer (some ⟨b115, 0, none⟩)), (109, .int .i64 (l1.length : Int)), (110, .int .i64 0)]) (by kernel_rfl) ?_
                      refine colophonlaw03_SparseBack.l2_ok w0 A1 c1 l1 y112 b115 R1 o132 (fun o134 w136 ho137 hS => ?_) (fun o138 w140 ho141 hS => ?_) FU 0 _ hS e133
                      · subst ho137
                        dsimp only at H
                        refine At.blockRet ?_
                        refine At.thenRet ?_
                        obtain rfl := Option.some.inj H
                        have hS : Sat w136 (rf w0) [] := hS.sel [] (by kernel_rfl)
                        exact At.body [.bool o134] (by kernel_rfl) ⟨_, rfl, rfl, hS⟩
                      · subst ho141
                        dsimp only at H
                        refine At.hit ?_
                        refine At.go ?_
                        refine WC.seq (by kernel_rfl) ?_
                        refine WC.reg [0] (by kernel_rfl) (by kernel_rfl) ?_
                        refine WR.runk [0] [] [6] (L' := [(6, .bool false)]) (w' := w140) (by kernel_rfl) ?_
                        refine WR.nil ?_
                        refine At.go ?_
                        refine WC.ret (by kernel_rfl) ?_
                        obtain rfl := Option.some.inj H
                        have hS : Sat w140 (rf w0) [] := hS.sel [] (by kernel_rfl)
                        exact At.body [.bool false] (by kernel_rfl) ⟨_, rfl, rfl, hS⟩
end Go.Proofs.Ytomeiphaohjeoaa
