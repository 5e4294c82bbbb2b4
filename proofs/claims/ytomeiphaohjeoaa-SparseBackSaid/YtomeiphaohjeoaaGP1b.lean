/-
  Printed by gen.py (my own tool): for each Go function a plain Lean function and the proof that a call of it does what that function says.
-/
import Derived.Test.YtomeiphaohjeoaaGP1
set_option linter.unusedVariables false
set_option linter.unusedSimpArgs false
set_option maxRecDepth 100000
namespace Go.Proofs.Ytomeiphaohjeoaa
open Go Go.Gol
/-! ### 10 colophon/sparse.New -/
def sparse_New.l1 (a0 : Int) (l1 : List Int) : Nat → Int → Option (Sum Int Unit)
  | 0, _ => none
  | k + 1, x27_l1 => (if decide (x27_l1 < (l1.length : Int)) then ((at? l1 x27_l1).bind fun v5 => (if decide (v5 < 0) then some (.inl 2) else (if decide (v5 ≥ a0) then some (.inl 2) else (if decide (x27_l1 > 0) then ((at? l1 (wi (x27_l1 - 1))).bind fun v10 => (if decide (v5 ≤ v10) then some (.inl 2) else sparse_New.l1 a0 l1 k (wi (x27_l1 + 1)))) else sparse_New.l1 a0 l1 k (wi (x27_l1 + 1)))))) else some (.inr ()))
def sparse_New.l2 (l1 : List Int) (r26 : Int × Int) : Nat → Int → (Int × Int × Int × (Option (Int × (List Int) × (List Int) × Int)) × (Option (Int × Int × (List Int))) × (Option (Int × Int × (List Int)))) → Option (Int × Int × Int × (Option (Int × (List Int) × (List Int) × Int)) × (Option (Int × Int × (List Int))) × (Option (Int × Int × (List Int))))
  | 0, _, _ => none
  | k + 1, x94_l2, q25_l2 => (if decide (x94_l2 < (l1.length : Int)) then ((at? l1 x94_l2).bind fun v59 => ((chk? (decide (0 ≤ r26.1))).bind fun _ => (q25_l2.2.2.2.2.1.bind fun y67 => ((pack_Ints_Set.f y67 (wi ((ishr .i64 v59 r26.1) + x94_l2)) 1).bind fun r72 => ((chk? (decide (0 ≤ r26.1))).bind fun _ => (q25_l2.2.2.2.2.2.bind fun y84 => ((pack_Ints_Set.f y84 x94_l2 (iand .u64 (IntKind.wrap .u64 v59) (IntKind.wrap .u64 ((ishl .u64 1 r26.1) - 1)))).bind fun r89 => sparse_New.l2 l1 r26 k (wi (x94_l2 + 1)) (q25_l2.1, q25_l2.2.1, q25_l2.2.2.1, q25_l2.2.2.2.1, (some r72.2), (some r89.2))))))))) else some q25_l2)
def sparse_New.f (a0 : Int) (l1 : List Int) : Option ((Option (Int × Int × Int × (Option (Int × (List Int) × (List Int) × Int)) × (Option (Int × Int × (List Int))) × (Option (Int × Int × (List Int))))) × Int) := (if decide (a0 < 0) then some (none, 2) else (if decide (a0 > 4194304) then some (none, 2) else (if decide ((l1.length : Int) > a0) then some (none, 2) else ((sparse_New.l1 a0 l1 FU 0).bind fun o13 => (match o13 with | .inl o15 => some (none, o15) | .inr o19 => ((sparse_shape.f a0 (l1.length : Int)).bind fun r26 => ((pack_New.f 1 r26.2).bind fun r36 => ((pack_New.f (imax 1 r26.1) (l1.length : Int)).bind fun r47 => ((sparse_New.l2 l1 r26 FU 0 (a0, (l1.length : Int), r26.1, none, r36.1, r47.1)).bind fun o100 => ((rank_New.f o100.2.2.2.2.1).bind fun r108 => some (some (o100.1, o100.2.1, o100.2.2.1, r108.1, o100.2.2.2.2.1, o100.2.2.2.2.2), 0)))))))))))
def sparse_New.post (w : World) (r : (Option (Int × Int × Int × (Option (Int × (List Int) × (List Int) × Int)) × (Option (Int × Int × (List Int))) × (Option (Int × Int × (List Int))))) × Int) (v : Value) (w' : World) : Prop := ∃ (v0 : Value), v = .tuple #[v0, .int .i64 r.2] ∧ Sat w' (rf w) [optP O49 v0 r.1]
theorem sparse_New.l1_ok {Q} (w0 : World) (a0 : Int) (A1 : Option Addr) (c1 : Nat) (l1 : List Int) (R1 : rdS (r0 (.int .i64)) 1 (hp w0) A1 c1 l1) (out : Sum Int Unit) (hn0 : ∀ (o0 : Int) (w : World), out = (.inl o0) → Sat w (rf w0) [] → At Q .ret 134 [(4, .pointer none), (5, .int .i64 o0)] w) (hn1 : ∀ (o1 : Unit) (w : World), out = (.inr o1) → Sat w (rf w0) [] → At Q (.exit 0) 134 [(0, .int .i64 a0), (1, .slice A1 l1.length c1)] w) :
    ∀ (k : Nat) (x27_l1 : Int) (w : World), Sat w (rf w0) [] → sparse_New.l1 a0 l1 k x27_l1 = some out → WL Try.prog (cbody (cbody (cr (cl (cr (cr C10)))))) Q 134 [(0, .int .i64 a0), (1, .slice A1 l1.length c1), (25, .slice A1 l1.length c1), (26, .int .i64 (l1.length : Int)), (27, .int .i64 x27_l1)] w := by
  intro k
  induction k with
  | zero => intro x27_l1 w hS H; exact absurd (show none = some out from H) (by simp)
  | succ k ih =>
    intro x27_l1 w hS H
    unfold sparse_New.l1 at H
    refine WL.round ?_
    refine WC.seq (by kernel_rfl) ?_
    refine WC.reg [0] (by kernel_rfl) (by kernel_rfl) ?_
    refine WR.runk [0] [] [0, 1, 25, 26, 27, 28] (L' := [(0, .int .i64 a0), (1, .slice A1 l1.length c1), (25, .slice A1 l1.length c1), (26, .int .i64 (l1.length : Int)), (27, .int .i64 x27_l1), (28, .bool (decide (x27_l1 < (l1.length : Int))))]) (w' := w) (by kernel_rfl) ?_
    refine WR.nil ?_
    refine At.go ?_
    refine WC.seq (by kernel_rfl) ?_
    refine WC.cond (by kernel_rfl) (decide (x27_l1 < (l1.length : Int))) (by kernel_rfl) (by kernel_rfl) (fun hb4 => ?_) (fun hb4 => ?_)
    · replace H := ite_t H hb4
      refine WC.skip (by kernel_rfl) ?_
      refine At.go ?_
      refine WC.seq (by kernel_rfl) ?_
      refine WC.block (by kernel_rfl) ?_
      refine WC.seq (by kernel_rfl) ?_
      refine WC.reg [0, 1, 2, 3, 4] (by kernel_rfl) (by kernel_rfl) ?_
      refine WR.runk [0] [1, 2, 3, 4] [0, 1, 25, 26, 27, 29] (L' := [(0, .int .i64 a0), (1, .slice A1 l1.length c1), (25, .slice A1 l1.length c1), (26, .int .i64 (l1.length : Int)), (27, .int .i64 x27_l1), (29, .int .i64 x27_l1)]) (w' := w) (by kernel_rfl) ?_
      obtain ⟨v5, e6, H⟩ := bind_ex H
      refine WR.st (St.ofP (PSt.idx (k := .i64) (.tmp 25) (.tmp 27) (by kernel_rfl) (by kernel_rfl) E22 (by kernel_rfl) (by kernel_rfl) (rdS.up R1 hS.sub0) e6 ?_))
      refine WR.runk [] [2, 3, 4] [0, 1, 25, 26, 27, 29, 30] (L' := [(0, .int .i64 a0), (1, .slice A1 l1.length c1), (25, .slice A1 l1.length c1), (26, .int .i64 (l1.length : Int)), (27, .int .i64 x27_l1), (29, .int .i64 x27_l1), (30, .pointer (some (adr A1 x27_l1.toNat 1)))]) (w' := w) (by kernel_rfl) ?_
      refine WR.st (St.ofR (RSt.loadInt (t := 3) (.tmp 30) (by kernel_rfl) (by kernel_rfl) (by kernel_rfl) (by kernel_rfl) (rdS.up R1 hS.sub0) e6 ?_))
      refine WR.runk [3, 4] [] [0, 1, 6, 7, 25, 26, 27] (L' := [(0, .int .i64 a0), (1, .slice A1 l1.length c1), (6, .int .i64 x27_l1), (7, .int .i64 v5), (25, .slice A1 l1.length c1), (26, .int .i64 (l1.length : Int)), (27, .int .i64 x27_l1)]) (w' := w) (by kernel_rfl) ?_
      refine WR.nil ?_
      refine At.go ?_
      refine WC.seq (by kernel_rfl) ?_
      refine WC.reg [0, 1, 2, 3, 4, 5, 6, 7, 8, 9, 10, 11, 12, 13, 14, 15, 16, 17, 18, 19] (by kernel_rfl) (by kernel_rfl) ?_
      refine WR.runk [0, 1, 2] [3, 4, 5, 6, 7, 8, 9, 10, 11, 12, 13, 14, 15, 16, 17, 18, 19] [0, 1, 6, 7, 25, 26, 27, 34] (L' := [(0, .int .i64 a0), (1, .slice A1 l1.length c1), (6, .int .i64 x27_l1), (7, .int .i64 v5), (25, .slice A1 l1.length c1), (26, .int .i64 (l1.length : Int)), (27, .int .i64 x27_l1), (34, .bool (decide (v5 < 0)))]) (w' := w) (by kernel_rfl) ?_
      refine WR.split 34 (b := decide (v5 < 0)) (by kernel_rfl) (fun hb7 => ?_) (fun hb7 => ?_)
      · replace H := ite_t H hb7
        refine WR.runk [3, 4, 5, 6, 7, 8, 9, 10, 11, 12, 13, 14, 15, 16, 17, 18, 19] [] [0, 1, 25, 26, 27, 35, 36, 37, 40, 41, 42, 43, 44, 45, 46, 47, 48, 49, 50, 51] (L' := [(0, .int .i64 a0), (1, .slice A1 l1.length c1), (25, .slice A1 l1.length c1), (26, .int .i64 (l1.length : Int)), (27, .int .i64 x27_l1), (35, undef), (36, undef), (37, undef), (40, undef), (41, undef), (42, undef), (43, undef), (44, undef), (45, undef), (46, undef), (47, undef), (48, undef), (49, undef), (50, undef), (51, .bool true)]) (w' := w) (by kernel_rfl) ?_
        refine WR.nil ?_
        refine At.go ?_
        refine WC.condT (by kernel_rfl) (by kernel_rfl) (by kernel_rfl) ?_
        refine WC.seq (by kernel_rfl) ?_
        refine WC.reg [0, 1] (by kernel_rfl) (by kernel_rfl) ?_
        refine WR.runk [0, 1] [] [4, 5] (L' := [(4, .pointer none), (5, .int .i64 2)]) (w' := w) (by kernel_rfl) ?_
        refine WR.nil ?_
        refine At.go ?_
        refine WC.ret (by kernel_rfl) ?_
        refine At.blockRet ?_
        refine At.thenRet ?_
        refine At.thenRet ?_
        obtain rfl := Option.some.inj H
        have hS : Sat w (rf w0) [] := hS.sel [] (by kernel_rfl)
        refine At.weaken [4, 5] (L' := [(4, .pointer none), (5, .int .i64 2)]) (by kernel_rfl) ?_
        exact hn0 2 _ rfl hS
      · replace H := ite_f H hb7
        refine WR.runk [3, 4, 5, 6, 7] [8, 9, 10, 11, 12, 13, 14, 15, 16, 17, 18, 19] [0, 1, 6, 7, 25, 26, 27, 35, 36, 37, 39] (L' := [(0, .int .i64 a0), (1, .slice A1 l1.length c1), (6, .int .i64 x27_l1), (7, .int .i64 v5), (25, .slice A1 l1.length c1), (26, .int .i64 (l1.length : Int)), (27, .int .i64 x27_l1), (35, .int .i64 v5), (36, .int .i64 a0), (37, .bool (decide (v5 ≥ a0))), (39, .bool (decide (v5 ≥ a0)))]) (w' := w) (by kernel_rfl) ?_
        refine WR.split 39 (b := decide (v5 ≥ a0)) (by kernel_rfl) (fun hb8 => ?_) (fun hb8 => ?_)
        · replace H := ite_t H hb8
          refine WR.runk [8, 9, 10, 11, 12, 13, 14, 15, 16, 17, 18, 19] [] [0, 1, 25, 26, 27, 35, 36, 37, 40, 41, 42, 43, 44, 45, 46, 47, 48, 49, 50, 51] (L' := [(0, .int .i64 a0), (1, .slice A1 l1.length c1), (25, .slice A1 l1.length c1), (26, .int .i64 (l1.length : Int)), (27, .int .i64 x27_l1), (35, .int .i64 v5), (36, .int .i64 a0), (37, .bool (decide (v5 ≥ a0))), (40, undef), (41, undef), (42, undef), (43, undef), (44, undef), (45, undef), (46, undef), (47, undef), (48, undef), (49, undef), (50, undef), (51, .bool true)]) (w' := w) (by kernel_rfl) ?_
          refine WR.nil ?_
          refine At.go ?_
          refine WC.condT (by kernel_rfl) (by kernel_rfl) (by kernel_rfl) ?_
          refine WC.seq (by kernel_rfl) ?_
          refine WC.reg [0, 1] (by kernel_rfl) (by kernel_rfl) ?_
          refine WR.runk [0, 1] [] [4, 5] (L' := [(4, .pointer none), (5, .int .i64 2)]) (w' := w) (by kernel_rfl) ?_
          refine WR.nil ?_
          refine At.go ?_
          refine WC.ret (by kernel_rfl) ?_
          refine At.blockRet ?_
          refine At.thenRet ?_
          refine At.thenRet ?_
          obtain rfl := Option.some.inj H
          have hS : Sat w (rf w0) [] := hS.sel [] (by kernel_rfl)
          refine At.weaken [4, 5] (L' := [(4, .pointer none), (5, .int .i64 2)]) (by kernel_rfl) ?_
          exact hn0 2 _ rfl hS
        · replace H := ite_f H hb8
          refine WR.runk [8, 9, 10] [11, 12, 13, 14, 15, 16, 17, 18, 19] [0, 1, 6, 7, 25, 26, 27, 35, 36, 37, 39, 40, 41, 42] (L' := [(0, .int .i64 a0), (1, .slice A1 l1.length c1), (6, .int .i64 x27_l1), (7, .int .i64 v5), (25, .slice A1 l1.length c1), (26, .int .i64 (l1.length : Int)), (27, .int .i64 x27_l1), (35, .int .i64 v5), (36, .int .i64 a0), (37, .bool (decide (v5 ≥ a0))), (39, .bool false), (40, .int .i64 x27_l1), (41, .bool (decide (x27_l1 > 0))), (42, .bool (decide (x27_l1 > 0)))]) (w' := w) (by kernel_rfl) ?_
          refine WR.split 42 (b := decide (x27_l1 > 0)) (by kernel_rfl) (fun hb9 => ?_) (fun hb9 => ?_)
          · replace H := ite_t H hb9
            refine WR.runk [11, 12, 13, 14] [15, 16, 17, 18, 19] [0, 1, 25, 26, 27, 35, 36, 37, 39, 40, 41, 42, 43, 44, 45, 46] (L' := [(0, .int .i64 a0), (1, .slice A1 l1.length c1), (25, .slice A1 l1.length c1), (26, .int .i64 (l1.length : Int)), (27, .int .i64 x27_l1), (35, .int .i64 v5), (36, .int .i64 a0), (37, .bool (decide (v5 ≥ a0))), (39, .bool false), (40, .int .i64 x27_l1), (41, .bool (decide (x27_l1 > 0))), (42, .bool true), (43, .int .i64 v5), (44, .slice A1 l1.length c1), (45, .int .i64 x27_l1), (46, .int .i64 (wi (x27_l1 - 1)))]) (w' := w) (by kernel_rfl) ?_
            obtain ⟨v10, e11, H⟩ := bind_ex H
            refine WR.st (St.ofP (PSt.idx (k := .i64) (.tmp 44) (.tmp 46) (by kernel_rfl) (by kernel_rfl) E22 (by kernel_rfl) (by kernel_rfl) (rdS.up R1 hS.sub0) e11 ?_))
            refine WR.runk [] [16, 17, 18, 19] [0, 1, 25, 26, 27, 35, 36, 37, 39, 40, 41, 42, 43, 44, 45, 46, 47] (L' := [(0, .int .i64 a0), (1, .slice A1 l1.length c1), (25, .slice A1 l1.length c1), (26, .int .i64 (l1.length : Int)), (27, .int .i64 x27_l1), (35, .int .i64 v5), (36, .int .i64 a0), (37, .bool (decide (v5 ≥ a0))), (39, .bool false), (40, .int .i64 x27_l1), (41, .bool (decide (x27_l1 > 0))), (42, .bool true), (43, .int .i64 v5), (44, .slice A1 l1.length c1), (45, .int .i64 x27_l1), (46, .int .i64 (wi (x27_l1 - 1))), (47, .pointer (some (adr A1 (wi (x27_l1 - 1)).toNat 1)))]) (w' := w) (by kernel_rfl) ?_
            refine WR.st (St.ofR (RSt.loadInt (t := 3) (.tmp 47) (by kernel_rfl) (by kernel_rfl) (by kernel_rfl) (by kernel_rfl) (rdS.up R1 hS.sub0) e11 ?_))
            refine WR.runk [17, 18, 19] [] [0, 1, 25, 26, 27, 35, 36, 37, 40, 41, 42, 43, 44, 45, 46, 47, 48, 49, 50, 51] (L' := [(0, .int .i64 a0), (1, .slice A1 l1.length c1), (25, .slice A1 l1.length c1), (26, .int .i64 (l1.length : Int)), (27, .int .i64 x27_l1), (35, .int .i64 v5), (36, .int .i64 a0), (37, .bool (decide (v5 ≥ a0))), (40, .int .i64 x27_l1), (41, .bool (decide (x27_l1 > 0))), (42, .bool true), (43, .int .i64 v5), (44, .slice A1 l1.length c1), (45, .int .i64 x27_l1), (46, .int .i64 (wi (x27_l1 - 1))), (47, .pointer (some (adr A1 (wi (x27_l1 - 1)).toNat 1))), (48, .int .i64 v10), (49, .bool (decide (v5 ≤ v10))), (50, .bool (decide (v5 ≤ v10))), (51, .bool (decide (v5 ≤ v10)))]) (w' := w) (by kernel_rfl) ?_
            refine WR.nil ?_
            refine At.go ?_
            refine WC.cond (by kernel_rfl) (decide (v5 ≤ v10)) (by kernel_rfl) (by kernel_rfl) (fun hb12 => ?_) (fun hb12 => ?_)
            · replace H := ite_t H hb12
              refine WC.seq (by kernel_rfl) ?_
              refine WC.reg [0, 1] (by kernel_rfl) (by kernel_rfl) ?_
              refine WR.runk [0, 1] [] [4, 5] (L' := [(4, .pointer none), (5, .int .i64 2)]) (w' := w) (by kernel_rfl) ?_
              refine WR.nil ?_
              refine At.go ?_
              refine WC.ret (by kernel_rfl) ?_
              refine At.blockRet ?_
              refine At.thenRet ?_
              refine At.thenRet ?_
              obtain rfl := Option.some.inj H
              have hS : Sat w (rf w0) [] := hS.sel [] (by kernel_rfl)
              refine At.weaken [4, 5] (L' := [(4, .pointer none), (5, .int .i64 2)]) (by kernel_rfl) ?_
              exact hn0 2 _ rfl hS
            · replace H := ite_f H hb12
              refine WC.skip (by kernel_rfl) ?_
              refine At.blockNormal ?_
              refine At.go ?_
              refine WC.reg [0, 1] (by kernel_rfl) (by kernel_rfl) ?_
              refine WR.runk [0, 1] [] [0, 1, 25, 26, 27, 35, 36, 37, 40, 41, 42, 43, 44, 45, 46, 47, 48] (L' := [(0, .int .i64 a0), (1, .slice A1 l1.length c1), (25, .slice A1 l1.length c1), (26, .int .i64 (l1.length : Int)), (27, .int .i64 (wi (x27_l1 + 1))), (35, .int .i64 v5), (36, .int .i64 a0), (37, .bool (decide (v5 ≥ a0))), (40, .int .i64 x27_l1), (41, .bool (decide (x27_l1 > 0))), (42, .bool true), (43, .int .i64 v5), (44, .slice A1 l1.length c1), (45, .int .i64 x27_l1), (46, .int .i64 (wi (x27_l1 - 1))), (47, .pointer (some (adr A1 (wi (x27_l1 - 1)).toNat 1))), (48, .int .i64 v10)]) (w' := w) (by kernel_rfl) ?_
              refine WR.nil ?_
              have hS : Sat w (rf w0) [] := hS.sel [] (by kernel_rfl)
              refine At.again ?_
              refine WL.weaken [0, 1, 25, 26, 27] (L' := [(0, .int .i64 a0), (1, .slice A1 l1.length c1), (25, .slice A1 l1.length c1), (26, .int .i64 (l1.length : Int)), (27, .int .i64 (wi (x27_l1 + 1)))]) (by kernel_rfl) ?_
              exact ih (wi (x27_l1 + 1)) _ hS H
          · replace H := ite_f H hb9
            refine WR.runk [11, 12, 13, 14, 15, 16, 17, 18, 19] [] [0, 1, 25, 26, 27, 35, 36, 37, 40, 41, 42, 43, 44, 45, 46, 47, 48, 49, 50, 51] (L' := [(0, .int .i64 a0), (1, .slice A1 l1.length c1), (25, .slice A1 l1.length c1), (26, .int .i64 (l1.length : Int)), (27, .int .i64 x27_l1), (35, .int .i64 v5), (36, .int .i64 a0), (37, .bool (decide (v5 ≥ a0))), (40, .int .i64 x27_l1), (41, .bool (decide (x27_l1 > 0))), (42, .bool false), (43, undef), (44, undef), (45, undef), (46, undef), (47, undef), (48, undef), (49, undef), (50, .bool false), (51, .bool false)]) (w' := w) (by kernel_rfl) ?_
            refine WR.nil ?_
            refine At.go ?_
            refine WC.condF (by kernel_rfl) (by kernel_rfl) (by kernel_rfl) ?_
            refine WC.skip (by kernel_rfl) ?_
            refine At.blockNormal ?_
            refine At.go ?_
            refine WC.reg [0, 1] (by kernel_rfl) (by kernel_rfl) ?_
            refine WR.runk [0, 1] [] [0, 1, 25, 26, 27, 35, 36, 37, 40, 41, 42, 43, 44, 45, 46, 47, 48, 49, 50] (L' := [(0, .int .i64 a0), (1, .slice A1 l1.length c1), (25, .slice A1 l1.length c1), (26, .int .i64 (l1.length : Int)), (27, .int .i64 (wi (x27_l1 + 1))), (35, .int .i64 v5), (36, .int .i64 a0), (37, .bool (decide (v5 ≥ a0))), (40, .int .i64 x27_l1), (41, .bool (decide (x27_l1 > 0))), (42, .bool false), (43, undef), (44, undef), (45, undef), (46, undef), (47, undef), (48, undef), (49, undef), (50, .bool false)]) (w' := w) (by kernel_rfl) ?_
            refine WR.nil ?_
            have hS : Sat w (rf w0) [] := hS.sel [] (by kernel_rfl)
            refine At.again ?_
            refine WL.weaken [0, 1, 25, 26, 27] (L' := [(0, .int .i64 a0), (1, .slice A1 l1.length c1), (25, .slice A1 l1.length c1), (26, .int .i64 (l1.length : Int)), (27, .int .i64 (wi (x27_l1 + 1)))]) (by kernel_rfl) ?_
            exact ih (wi (x27_l1 + 1)) _ hS H
    · replace H := ite_f H hb4
      refine WC.exit (by kernel_rfl) ?_
      refine At.thenExit ?_
      refine At.thenExit ?_
      obtain rfl := Option.some.inj H
      have hS : Sat w (rf w0) [] := hS.sel [] (by kernel_rfl)
      refine At.weaken [0, 1] (L' := [(0, .int .i64 a0), (1, .slice A1 l1.length c1)]) (by kernel_rfl) ?_
      exact hn1 () _ rfl hS
theorem sparse_New.l2_ok {Q} (w0 : World) (A1 : Option Addr) (c1 : Nat) (l1 : List Int) (b23 : Nat) (r26 : Int × Int) (R1 : rdS (r0 (.int .i64)) 1 (hp w0) A1 c1 l1) (out : (Int × Int × Int × (Option (Int × (List Int) × (List Int) × Int)) × (Option (Int × Int × (List Int))) × (Option (Int × Int × (List Int))))) (hn0 : ∀ (w : World), Sat w (rf w0) [O49 b23 out] → At Q (.exit 2) 134 [(8, .pointer (some ⟨b23, 0, none⟩))] w) :
    ∀ (k : Nat) (x94_l2 : Int) (q25_l2 : Int × Int × Int × (Option (Int × (List Int) × (List Int) × Int)) × (Option (Int × Int × (List Int))) × (Option (Int × Int × (List Int)))) (w : World), Sat w (rf w0) [O49 b23 q25_l2] → sparse_New.l2 l1 r26 k x94_l2 q25_l2 = some out → WL Try.prog (cbody (cbody (cr (cl (cr (cr (cr (cr (cr (cr (cr (cr C10)))))))))))) Q 134 [(8, .pointer (some ⟨b23, 0, none⟩)), (9, .int .i64 r26.1), (92, .slice A1 l1.length c1), (93, .int .i64 (l1.length : Int)), (94, .int .i64 x94_l2)] w := by
  intro k
  induction k with
  | zero => intro x94_l2 q25_l2 w hS H; exact absurd (show none = some out from H) (by simp)
  | succ k ih =>
    intro x94_l2 q25_l2 w hS H
    unfold sparse_New.l2 at H
    refine WL.round ?_
    refine WC.seq (by kernel_rfl) ?_
    refine WC.reg [0] (by kernel_rfl) (by kernel_rfl) ?_
    refine WR.runk [0] [] [8, 9, 92, 93, 94, 95] (L' := [(8, .pointer (some ⟨b23, 0, none⟩)), (9, .int .i64 r26.1), (92, .slice A1 l1.length c1), (93, .int .i64 (l1.length : Int)), (94, .int .i64 x94_l2), (95, .bool (decide (x94_l2 < (l1.length : Int))))]) (w' := w) (by kernel_rfl) ?_
    refine WR.nil ?_
    refine At.go ?_
    refine WC.seq (by kernel_rfl) ?_
    refine WC.cond (by kernel_rfl) (decide (x94_l2 < (l1.length : Int))) (by kernel_rfl) (by kernel_rfl) (fun hb58 => ?_) (fun hb58 => ?_)
    · replace H := ite_t H hb58
      refine WC.skip (by kernel_rfl) ?_
      refine At.go ?_
      refine WC.seq (by kernel_rfl) ?_
      refine WC.block (by kernel_rfl) ?_
      refine WC.seq (by kernel_rfl) ?_
      refine WC.reg [0, 1, 2, 3, 4] (by kernel_rfl) (by kernel_rfl) ?_
      refine WR.runk [0] [1, 2, 3, 4] [8, 9, 92, 93, 94, 96] (L' := [(8, .pointer (some ⟨b23, 0, none⟩)), (9, .int .i64 r26.1), (92, .slice A1 l1.length c1), (93, .int .i64 (l1.length : Int)), (94, .int .i64 x94_l2), (96, .int .i64 x94_l2)]) (w' := w) (by kernel_rfl) ?_
      obtain ⟨v59, e60, H⟩ := bind_ex H
      refine WR.st (St.ofP (PSt.idx (k := .i64) (.tmp 92) (.tmp 94) (by kernel_rfl) (by kernel_rfl) E22 (by kernel_rfl) (by kernel_rfl) (rdS.up R1 hS.sub0) e60 ?_))
      refine WR.runk [] [2, 3, 4] [8, 9, 92, 93, 94, 96, 97] (L' := [(8, .pointer (some ⟨b23, 0, none⟩)), (9, .int .i64 r26.1), (92, .slice A1 l1.length c1), (93, .int .i64 (l1.length : Int)), (94, .int .i64 x94_l2), (96, .int .i64 x94_l2), (97, .pointer (some (adr A1 x94_l2.toNat 1)))]) (w' := w) (by kernel_rfl) ?_
      refine WR.st (St.ofR (RSt.loadInt (t := 3) (.tmp 97) (by kernel_rfl) (by kernel_rfl) (by kernel_rfl) (by kernel_rfl) (rdS.up R1 hS.sub0) e60 ?_))
      refine WR.runk [3, 4] [] [8, 9, 11, 12, 92, 93, 94] (L' := [(8, .pointer (some ⟨b23, 0, none⟩)), (9, .int .i64 r26.1), (11, .int .i64 x94_l2), (12, .int .i64 v59), (92, .slice A1 l1.length c1), (93, .int .i64 (l1.length : Int)), (94, .int .i64 x94_l2)]) (w' := w) (by kernel_rfl) ?_
      refine WR.nil ?_
      refine At.go ?_
      refine WC.seq (by kernel_rfl) ?_
      refine WC.drawn (by kernel_rfl) (by kernel_rfl) 10 (by kernel_rfl) (fun w61 hw62 => ?_)
      have hS := hS.heap hw62.1 hw62.2
      refine WD.weaken [8, 9, 11, 12, 92, 93, 94] (L' := [(8, .pointer (some ⟨b23, 0, none⟩)), (9, .int .i64 r26.1), (11, .int .i64 x94_l2), (12, .int .i64 v59), (92, .slice A1 l1.length c1), (93, .int .i64 (l1.length : Int)), (94, .int .i64 x94_l2)]) (by kernel_rfl) ?_
      refine WD.pure (i := 0) (v := .pointer (some ⟨b23, 0, none⟩)) (by kernel_rfl) (by kernel_rfl) (fun _ => by kernel_rfl) ?_
      refine WD.weaken [8, 9, 11, 12, 92, 93, 94, 99] (L' := [(8, .pointer (some ⟨b23, 0, none⟩)), (9, .int .i64 r26.1), (11, .int .i64 x94_l2), (12, .int .i64 v59), (92, .slice A1 l1.length c1), (93, .int .i64 (l1.length : Int)), (94, .int .i64 x94_l2), (99, .pointer (some ⟨b23, 0, none⟩))]) (by kernel_rfl) ?_
      refine WD.pure (i := 1) (v := .pointer (some ⟨b23, 0, none⟩)) (by kernel_rfl) (by kernel_rfl) (fun _ => by kernel_rfl) ?_
      refine WD.weaken [8, 9, 11, 12, 92, 93, 94, 100] (L' := [(8, .pointer (some ⟨b23, 0, none⟩)), (9, .int .i64 r26.1), (11, .int .i64 x94_l2), (12, .int .i64 v59), (92, .slice A1 l1.length c1), (93, .int .i64 (l1.length : Int)), (94, .int .i64 x94_l2), (100, .pointer (some ⟨b23, 0, none⟩))]) (by kernel_rfl) ?_
      refine WD.pure (i := 2) (v := .pointer (some ⟨b23, 4, none⟩)) (by kernel_rfl) (by kernel_rfl) (fun _ => by kernel_rfl) ?_
      refine WD.weaken [8, 9, 11, 12, 92, 93, 94, 101] (L' := [(8, .pointer (some ⟨b23, 0, none⟩)), (9, .int .i64 r26.1), (11, .int .i64 x94_l2), (12, .int .i64 v59), (92, .slice A1 l1.length c1), (93, .int .i64 (l1.length : Int)), (94, .int .i64 x94_l2), (101, .pointer (some ⟨b23, 4, none⟩))]) (by kernel_rfl) ?_
      obtain ⟨pv63, pv64, pv65, hS⟩ := O49.open hS
      have hS : Sat w61 (rf w0) [pts b23 (.cells #[.int .i64 q25_l2.1, .int .i64 q25_l2.2.1, .int .i64 q25_l2.2.2.1, pv63, pv64, pv65] 49 (0, 0)), optP O68 pv63 q25_l2.2.2.2.1, optP O66 pv64 q25_l2.2.2.2.2.1, optP O66 pv65 q25_l2.2.2.2.2.2] := hS
      refine WD.ofR (i := 3) (by kernel_rfl) (RSt.loadObj (t := 47) (k := 4) (v := pv64) (.tmp 101) (by kernel_rfl) (by kernel_rfl) (by kernel_rfl) 0 hS rfl (by kernel_rfl) rfl ?_)
      refine WD.weaken [8, 9, 11, 12, 92, 93, 94, 102] (L' := [(8, .pointer (some ⟨b23, 0, none⟩)), (9, .int .i64 r26.1), (11, .int .i64 x94_l2), (12, .int .i64 v59), (92, .slice A1 l1.length c1), (93, .int .i64 (l1.length : Int)), (94, .int .i64 x94_l2), (102, pv64)]) (by kernel_rfl) ?_
      refine WD.pure (i := 4) (v := .int .i64 v59) (by kernel_rfl) (by kernel_rfl) (fun _ => by kernel_rfl) ?_
      refine WD.weaken [8, 9, 11, 12, 92, 93, 94, 102, 103] (L' := [(8, .pointer (some ⟨b23, 0, none⟩)), (9, .int .i64 r26.1), (11, .int .i64 x94_l2), (12, .int .i64 v59), (92, .slice A1 l1.length c1), (93, .int .i64 (l1.length : Int)), (94, .int .i64 x94_l2), (102, pv64), (103, .int .i64 v59)]) (by kernel_rfl) ?_
      refine WD.pure (i := 5) (v := .int .i64 r26.1) (by kernel_rfl) (by kernel_rfl) (fun _ => by kernel_rfl) ?_
      refine WD.weaken [8, 9, 11, 12, 92, 93, 94, 102, 103, 104] (L' := [(8, .pointer (some ⟨b23, 0, none⟩)), (9, .int .i64 r26.1), (11, .int .i64 x94_l2), (12, .int .i64 v59), (92, .slice A1 l1.length c1), (93, .int .i64 (l1.length : Int)), (94, .int .i64 x94_l2), (102, pv64), (103, .int .i64 v59), (104, .int .i64 r26.1)]) (by kernel_rfl) ?_
      obtain ⟨_, e66, H⟩ := bind_ex H
      refine WD.ofP (i := 6) (by kernel_rfl) (PSt.shift (k := .i64) (k2 := .i64) (t := 3) (t2 := 3) (a := v59) (b := r26.1) .shr (by decide) (.tmp 103) (.tmp 104) (by kernel_rfl) (by kernel_rfl) (by kernel_rfl) (by kernel_rfl) (of_decide_eq_true (chk?_some e66)) ?_)
      refine WD.weaken [8, 9, 11, 12, 92, 93, 94, 102, 105] (L' := [(8, .pointer (some ⟨b23, 0, none⟩)), (9, .int .i64 r26.1), (11, .int .i64 x94_l2), (12, .int .i64 v59), (92, .slice A1 l1.length c1), (93, .int .i64 (l1.length : Int)), (94, .int .i64 x94_l2), (102, pv64), (105, .int .i64 (ishr .i64 v59 r26.1))]) (by kernel_rfl) ?_
      refine WD.pure (i := 7) (v := .int .i64 x94_l2) (by kernel_rfl) (by kernel_rfl) (fun _ => by kernel_rfl) ?_
      refine WD.weaken [8, 9, 11, 12, 92, 93, 94, 102, 105, 106] (L' := [(8, .pointer (some ⟨b23, 0, none⟩)), (9, .int .i64 r26.1), (11, .int .i64 x94_l2), (12, .int .i64 v59), (92, .slice A1 l1.length c1), (93, .int .i64 (l1.length : Int)), (94, .int .i64 x94_l2), (102, pv64), (105, .int .i64 (ishr .i64 v59 r26.1)), (106, .int .i64 x94_l2)]) (by kernel_rfl) ?_
      refine WD.pure (i := 8) (v := .int .i64 (wi ((ishr .i64 v59 r26.1) + x94_l2))) (by kernel_rfl) (by kernel_rfl) (fun _ => by kernel_rfl) ?_
      refine WD.weaken [8, 9, 11, 12, 92, 93, 94, 102, 107] (L' := [(8, .pointer (some ⟨b23, 0, none⟩)), (9, .int .i64 r26.1), (11, .int .i64 x94_l2), (12, .int .i64 v59), (92, .slice A1 l1.length c1), (93, .int .i64 (l1.length : Int)), (94, .int .i64 x94_l2), (102, pv64), (107, .int .i64 (wi ((ishr .i64 v59 r26.1) + x94_l2)))]) (by kernel_rfl) ?_
      have hS : Sat w61 (rf w0) [optP O66 pv64 q25_l2.2.2.2.2.1, pts b23 (.cells #[.int .i64 q25_l2.1, .int .i64 q25_l2.2.1, .int .i64 q25_l2.2.2.1, pv63, pv64, pv65] 49 (0, 0)), optP O68 pv63 q25_l2.2.2.2.1, optP O66 pv65 q25_l2.2.2.2.2.2] := hS.sel [2, 0, 1, 3] (by kernel_rfl)
      obtain ⟨y67, hr68, H⟩ := bind_ex H
      obtain ⟨b70, hv69, hN99⟩ := optP.some hS hr68
      subst hv69
      have hS : Sat w61 (rf w0) [O66 b70 y67, pts b23 (.cells #[.int .i64 q25_l2.1, .int .i64 q25_l2.2.1, .int .i64 q25_l2.2.2.1, pv63, .pointer (some ⟨b70, 0, none⟩), pv65] 49 (0, 0)), optP O68 pv63 q25_l2.2.2.2.1, optP O66 pv65 q25_l2.2.2.2.2.2] := hN99
      refine WD.weaken [8, 9, 11, 12, 92, 93, 94, 102, 107] (L' := [(8, .pointer (some ⟨b23, 0, none⟩)), (9, .int .i64 r26.1), (11, .int .i64 x94_l2), (12, .int .i64 v59), (92, .slice A1 l1.length c1), (93, .int .i64 (l1.length : Int)), (94, .int .i64 x94_l2), (102, .pointer (some ⟨b70, 0, none⟩)), (107, .int .i64 (wi ((ishr .i64 v59 r26.1) + x94_l2)))]) (by kernel_rfl) ?_
      obtain ⟨r72, e73, H⟩ := bind_ex H
      obtain ⟨B78, hso77, hsub75, hcs76, hb74⟩ := Sat.lend [O66 b70 y67] (cs := [pts b23 (.cells #[.int .i64 q25_l2.1, .int .i64 q25_l2.2.1, .int .i64 q25_l2.2.2.1, pv63, .pointer (some ⟨b70, 0, none⟩), pv65] 49 (0, 0)), optP O68 pv63 q25_l2.2.2.2.1, optP O66 pv65 q25_l2.2.2.2.2.2]) hS
      refine WD.act (i := 9) (by kernel_rfl) (St.call (by kernel_rfl) (f := 23) (args := #[.pointer (some ⟨b70, 0, none⟩), .int .i64 (wi ((ishr .i64 v59 r26.1) + x94_l2)), .int .u64 1]) (by kernel_rfl) (pack_Ints_Set.calls B78 w61 b70 y67 hso77 (wi ((ishr .i64 v59 r26.1) + x94_l2)) 1 r72 e73) ?_)
      rintro _ w79 ⟨rfl, hS80⟩
      have hS : Sat w79 (rf w0) [O66 b70 r72.2, pts b23 (.cells #[.int .i64 q25_l2.1, .int .i64 q25_l2.2.1, .int .i64 q25_l2.2.2.1, pv63, .pointer (some ⟨b70, 0, none⟩), pv65] 49 (0, 0)), optP O68 pv63 q25_l2.2.2.2.1, optP O66 pv65 q25_l2.2.2.2.2.2] := hb74 _ _ hS80
      refine ⟨(asked.anc (by kernel_rfl) (asked.nil _ _)), ?_⟩
      refine WD.weaken [8, 9, 11, 12, 92, 93, 94] (L' := [(8, .pointer (some ⟨b23, 0, none⟩)), (9, .int .i64 r26.1), (11, .int .i64 x94_l2), (12, .int .i64 v59), (92, .slice A1 l1.length c1), (93, .int .i64 (l1.length : Int)), (94, .int .i64 x94_l2)]) (by kernel_rfl) ?_
      refine WD.nil (by kernel_rfl) ?_
      refine At.go ?_
      refine WC.drawn (by kernel_rfl) (by kernel_rfl) 12 (by kernel_rfl) (fun w81 hw82 => ?_)
      have hS := hS.heap hw82.1 hw82.2
      refine WD.weaken [8, 9, 11, 12, 92, 93, 94] (L' := [(8, .pointer (some ⟨b23, 0, none⟩)), (9, .int .i64 r26.1), (11, .int .i64 x94_l2), (12, .int .i64 v59), (92, .slice A1 l1.length c1), (93, .int .i64 (l1.length : Int)), (94, .int .i64 x94_l2)]) (by kernel_rfl) ?_
      refine WD.pure (i := 0) (v := .pointer (some ⟨b23, 0, none⟩)) (by kernel_rfl) (by kernel_rfl) (fun _ => by kernel_rfl) ?_
      refine WD.weaken [8, 9, 11, 12, 92, 93, 94, 109] (L' := [(8, .pointer (some ⟨b23, 0, none⟩)), (9, .int .i64 r26.1), (11, .int .i64 x94_l2), (12, .int .i64 v59), (92, .slice A1 l1.length c1), (93, .int .i64 (l1.length : Int)), (94, .int .i64 x94_l2), (109, .pointer (some ⟨b23, 0, none⟩))]) (by kernel_rfl) ?_
      refine WD.pure (i := 1) (v := .pointer (some ⟨b23, 0, none⟩)) (by kernel_rfl) (by kernel_rfl) (fun _ => by kernel_rfl) ?_
      refine WD.weaken [8, 9, 11, 12, 92, 93, 94, 110] (L' := [(8, .pointer (some ⟨b23, 0, none⟩)), (9, .int .i64 r26.1), (11, .int .i64 x94_l2), (12, .int .i64 v59), (92, .slice A1 l1.length c1), (93, .int .i64 (l1.length : Int)), (94, .int .i64 x94_l2), (110, .pointer (some ⟨b23, 0, none⟩))]) (by kernel_rfl) ?_
      refine WD.pure (i := 2) (v := .pointer (some ⟨b23, 5, none⟩)) (by kernel_rfl) (by kernel_rfl) (fun _ => by kernel_rfl) ?_
      refine WD.weaken [8, 9, 11, 12, 92, 93, 94, 111] (L' := [(8, .pointer (some ⟨b23, 0, none⟩)), (9, .int .i64 r26.1), (11, .int .i64 x94_l2), (12, .int .i64 v59), (92, .slice A1 l1.length c1), (93, .int .i64 (l1.length : Int)), (94, .int .i64 x94_l2), (111, .pointer (some ⟨b23, 5, none⟩))]) (by kernel_rfl) ?_
      refine WD.ofR (i := 3) (by kernel_rfl) (RSt.loadObj (t := 47) (k := 5) (v := pv65) (.tmp 111) (by kernel_rfl) (by kernel_rfl) (by kernel_rfl) 1 hS rfl (by kernel_rfl) rfl ?_)
      refine WD.weaken [8, 9, 11, 12, 92, 93, 94, 112] (L' := [(8, .pointer (some ⟨b23, 0, none⟩)), (9, .int .i64 r26.1), (11, .int .i64 x94_l2), (12, .int .i64 v59), (92, .slice A1 l1.length c1), (93, .int .i64 (l1.length : Int)), (94, .int .i64 x94_l2), (112, pv65)]) (by kernel_rfl) ?_
      refine WD.pure (i := 4) (v := .int .i64 x94_l2) (by kernel_rfl) (by kernel_rfl) (fun _ => by kernel_rfl) ?_
      refine WD.weaken [8, 9, 12, 92, 93, 94, 112, 113] (L' := [(8, .pointer (some ⟨b23, 0, none⟩)), (9, .int .i64 r26.1), (12, .int .i64 v59), (92, .slice A1 l1.length c1), (93, .int .i64 (l1.length : Int)), (94, .int .i64 x94_l2), (112, pv65), (113, .int .i64 x94_l2)]) (by kernel_rfl) ?_
      refine WD.pure (i := 5) (v := .int .i64 v59) (by kernel_rfl) (by kernel_rfl) (fun _ => by kernel_rfl) ?_
      refine WD.weaken [8, 9, 92, 93, 94, 112, 113, 114] (L' := [(8, .pointer (some ⟨b23, 0, none⟩)), (9, .int .i64 r26.1), (92, .slice A1 l1.length c1), (93, .int .i64 (l1.length : Int)), (94, .int .i64 x94_l2), (112, pv65), (113, .int .i64 x94_l2), (114, .int .i64 v59)]) (by kernel_rfl) ?_
      refine WD.pure (i := 6) (v := .int .u64 (IntKind.wrap .u64 v59)) (by kernel_rfl) (by kernel_rfl) (fun _ => by kernel_rfl) ?_
      refine WD.weaken [8, 9, 92, 93, 94, 112, 113, 115] (L' := [(8, .pointer (some ⟨b23, 0, none⟩)), (9, .int .i64 r26.1), (92, .slice A1 l1.length c1), (93, .int .i64 (l1.length : Int)), (94, .int .i64 x94_l2), (112, pv65), (113, .int .i64 x94_l2), (115, .int .u64 (IntKind.wrap .u64 v59))]) (by kernel_rfl) ?_
      refine WD.pure (i := 7) (v := .int .i64 r26.1) (by kernel_rfl) (by kernel_rfl) (fun _ => by kernel_rfl) ?_
      refine WD.weaken [8, 9, 92, 93, 94, 112, 113, 115, 116] (L' := [(8, .pointer (some ⟨b23, 0, none⟩)), (9, .int .i64 r26.1), (92, .slice A1 l1.length c1), (93, .int .i64 (l1.length : Int)), (94, .int .i64 x94_l2), (112, pv65), (113, .int .i64 x94_l2), (115, .int .u64 (IntKind.wrap .u64 v59)), (116, .int .i64 r26.1)]) (by kernel_rfl) ?_
      obtain ⟨_, e83, H⟩ := bind_ex H
      refine WD.ofP (i := 8) (by kernel_rfl) (PSt.shift (k := .u64) (k2 := .i64) (t := 43) (t2 := 3) (a := 1) (b := r26.1) .shl (by decide) (.const (.int .u64 1)) (.tmp 116) (by kernel_rfl) (by kernel_rfl) (by kernel_rfl) (by kernel_rfl) (of_decide_eq_true (chk?_some e83)) ?_)
      refine WD.weaken [8, 9, 92, 93, 94, 112, 113, 115, 117] (L' := [(8, .pointer (some ⟨b23, 0, none⟩)), (9, .int .i64 r26.1), (92, .slice A1 l1.length c1), (93, .int .i64 (l1.length : Int)), (94, .int .i64 x94_l2), (112, pv65), (113, .int .i64 x94_l2), (115, .int .u64 (IntKind.wrap .u64 v59)), (117, .int .u64 (ishl .u64 1 r26.1))]) (by kernel_rfl) ?_
      refine WD.pure (i := 9) (v := .int .u64 (IntKind.wrap .u64 ((ishl .u64 1 r26.1) - 1))) (by kernel_rfl) (by kernel_rfl) (fun _ => by kernel_rfl) ?_
      refine WD.weaken [8, 9, 92, 93, 94, 112, 113, 115, 118] (L' := [(8, .pointer (some ⟨b23, 0, none⟩)), (9, .int .i64 r26.1), (92, .slice A1 l1.length c1), (93, .int .i64 (l1.length : Int)), (94, .int .i64 x94_l2), (112, pv65), (113, .int .i64 x94_l2), (115, .int .u64 (IntKind.wrap .u64 v59)), (118, .int .u64 (IntKind.wrap .u64 ((ishl .u64 1 r26.1) - 1)))]) (by kernel_rfl) ?_
      refine WD.pure (i := 10) (v := .int .u64 (iand .u64 (IntKind.wrap .u64 v59) (IntKind.wrap .u64 ((ishl .u64 1 r26.1) - 1)))) (by kernel_rfl) (by kernel_rfl) (fun _ => by kernel_rfl) ?_
      refine WD.weaken [8, 9, 92, 93, 94, 112, 113, 119] (L' := [(8, .pointer (some ⟨b23, 0, none⟩)), (9, .int .i64 r26.1), (92, .slice A1 l1.length c1), (93, .int .i64 (l1.length : Int)), (94, .int .i64 x94_l2), (112, pv65), (113, .int .i64 x94_l2), (119, .int .u64 (iand .u64 (IntKind.wrap .u64 v59) (IntKind.wrap .u64 ((ishl .u64 1 r26.1) - 1))))]) (by kernel_rfl) ?_
      have hS : Sat w81 (rf w0) [optP O66 pv65 q25_l2.2.2.2.2.2, O66 b70 r72.2, pts b23 (.cells #[.int .i64 q25_l2.1, .int .i64 q25_l2.2.1, .int .i64 q25_l2.2.2.1, pv63, .pointer (some ⟨b70, 0, none⟩), pv65] 49 (0, 0)), optP O68 pv63 q25_l2.2.2.2.1] := hS.sel [3, 0, 1, 2] (by kernel_rfl)
      obtain ⟨y84, hr85, H⟩ := bind_ex H
      obtain ⟨b87, hv86, hN98⟩ := optP.some hS hr85
      subst hv86
      have hS : Sat w81 (rf w0) [O66 b87 y84, O66 b70 r72.2, pts b23 (.cells #[.int .i64 q25_l2.1, .int .i64 q25_l2.2.1, .int .i64 q25_l2.2.2.1, pv63, .pointer (some ⟨b70, 0, none⟩), .pointer (some ⟨b87, 0, none⟩)] 49 (0, 0)), optP O68 pv63 q25_l2.2.2.2.1] := hN98
      refine WD.weaken [8, 9, 92, 93, 94, 112, 113, 119] (L' := [(8, .pointer (some ⟨b23, 0, none⟩)), (9, .int .i64 r26.1), (92, .slice A1 l1.length c1), (93, .int .i64 (l1.length : Int)), (94, .int .i64 x94_l2), (112, .pointer (some ⟨b87, 0, none⟩)), (113, .int .i64 x94_l2), (119, .int .u64 (iand .u64 (IntKind.wrap .u64 v59) (IntKind.wrap .u64 ((ishl .u64 1 r26.1) - 1))))]) (by kernel_rfl) ?_
      obtain ⟨r89, e90, H⟩ := bind_ex H
      obtain ⟨B95, hso94, hsub92, hcs93, hb91⟩ := Sat.lend [O66 b87 y84] (cs := [O66 b70 r72.2, pts b23 (.cells #[.int .i64 q25_l2.1, .int .i64 q25_l2.2.1, .int .i64 q25_l2.2.2.1, pv63, .pointer (some ⟨b70, 0, none⟩), .pointer (some ⟨b87, 0, none⟩)] 49 (0, 0)), optP O68 pv63 q25_l2.2.2.2.1]) hS
      refine WD.act (i := 11) (by kernel_rfl) (St.call (by kernel_rfl) (f := 23) (args := #[.pointer (some ⟨b87, 0, none⟩), .int .i64 x94_l2, .int .u64 (iand .u64 (IntKind.wrap .u64 v59) (IntKind.wrap .u64 ((ishl .u64 1 r26.1) - 1)))]) (by kernel_rfl) (pack_Ints_Set.calls B95 w81 b87 y84 hso94 x94_l2 (iand .u64 (IntKind.wrap .u64 v59) (IntKind.wrap .u64 ((ishl .u64 1 r26.1) - 1))) r89 e90) ?_)
      rintro _ w96 ⟨rfl, hS97⟩
      have hS : Sat w96 (rf w0) [O66 b87 r89.2, O66 b70 r72.2, pts b23 (.cells #[.int .i64 q25_l2.1, .int .i64 q25_l2.2.1, .int .i64 q25_l2.2.2.1, pv63, .pointer (some ⟨b70, 0, none⟩), .pointer (some ⟨b87, 0, none⟩)] 49 (0, 0)), optP O68 pv63 q25_l2.2.2.2.1] := hb91 _ _ hS97
      refine ⟨(asked.anc (by kernel_rfl) (asked.nil _ _)), ?_⟩
      refine WD.weaken [8, 9, 92, 93, 94] (L' := [(8, .pointer (some ⟨b23, 0, none⟩)), (9, .int .i64 r26.1), (92, .slice A1 l1.length c1), (93, .int .i64 (l1.length : Int)), (94, .int .i64 x94_l2)]) (by kernel_rfl) ?_
      refine WD.nil (by kernel_rfl) ?_
      refine At.blockNormal ?_
      refine At.go ?_
      refine WC.reg [0, 1] (by kernel_rfl) (by kernel_rfl) ?_
      refine WR.runk [0, 1] [] [8, 9, 92, 93, 94] (L' := [(8, .pointer (some ⟨b23, 0, none⟩)), (9, .int .i64 r26.1), (92, .slice A1 l1.length c1), (93, .int .i64 (l1.length : Int)), (94, .int .i64 (wi (x94_l2 + 1)))]) (w' := w96) (by kernel_rfl) ?_
      refine WR.nil ?_
      have hS : Sat w96 (rf w0) [O66 b70 r72.2, O66 b87 r89.2, pts b23 (.cells #[.int .i64 q25_l2.1, .int .i64 q25_l2.2.1, .int .i64 q25_l2.2.2.1, pv63, .pointer (some ⟨b70, 0, none⟩), .pointer (some ⟨b87, 0, none⟩)] 49 (0, 0)), optP O68 pv63 q25_l2.2.2.2.1] := hS.sel [1, 0, 2, 3] (by kernel_rfl)
      have hS : Sat w96 (rf w0) [optP O66 (.pointer (some ⟨b70, 0, none⟩)) (some r72.2), O66 b87 r89.2, pts b23 (.cells #[.int .i64 q25_l2.1, .int .i64 q25_l2.2.1, .int .i64 q25_l2.2.2.1, pv63, .pointer (some ⟨b70, 0, none⟩), .pointer (some ⟨b87, 0, none⟩)] 49 (0, 0)), optP O68 pv63 q25_l2.2.2.2.1] := optP.mk hS
      have hS : Sat w96 (rf w0) [O66 b87 r89.2, optP O66 (.pointer (some ⟨b70, 0, none⟩)) (some r72.2), pts b23 (.cells #[.int .i64 q25_l2.1, .int .i64 q25_l2.2.1, .int .i64 q25_l2.2.2.1, pv63, .pointer (some ⟨b70, 0, none⟩), .pointer (some ⟨b87, 0, none⟩)] 49 (0, 0)), optP O68 pv63 q25_l2.2.2.2.1] := hS.sel [1, 0, 2, 3] (by kernel_rfl)
      have hS : Sat w96 (rf w0) [optP O66 (.pointer (some ⟨b87, 0, none⟩)) (some r89.2), optP O66 (.pointer (some ⟨b70, 0, none⟩)) (some r72.2), pts b23 (.cells #[.int .i64 q25_l2.1, .int .i64 q25_l2.2.1, .int .i64 q25_l2.2.2.1, pv63, .pointer (some ⟨b70, 0, none⟩), .pointer (some ⟨b87, 0, none⟩)] 49 (0, 0)), optP O68 pv63 q25_l2.2.2.2.1] := optP.mk hS
      have hS : Sat w96 (rf w0) [pts b23 (.cells #[.int .i64 q25_l2.1, .int .i64 q25_l2.2.1, .int .i64 q25_l2.2.2.1, pv63, .pointer (some ⟨b70, 0, none⟩), .pointer (some ⟨b87, 0, none⟩)] 49 (0, 0)), optP O68 pv63 q25_l2.2.2.2.1, optP O66 (.pointer (some ⟨b70, 0, none⟩)) (some r72.2), optP O66 (.pointer (some ⟨b87, 0, none⟩)) (some r89.2)] := hS.sel [2, 3, 1, 0] (by kernel_rfl)
      have hS : Sat w96 (rf w0) [O49 b23 (q25_l2.1, q25_l2.2.1, q25_l2.2.2.1, q25_l2.2.2.2.1, (some r72.2), (some r89.2))] := O49.close (q25_l2.1, q25_l2.2.1, q25_l2.2.2.1, q25_l2.2.2.2.1, (some r72.2), (some r89.2)) pv63 (.pointer (some ⟨b70, 0, none⟩)) (.pointer (some ⟨b87, 0, none⟩)) hS
      have hS : Sat w96 (rf w0) [O49 b23 (q25_l2.1, q25_l2.2.1, q25_l2.2.2.1, q25_l2.2.2.2.1, (some r72.2), (some r89.2))] := hS.sel [0] (by kernel_rfl)
      refine At.again ?_
      refine WL.weaken [8, 9, 92, 93, 94] (L' := [(8, .pointer (some ⟨b23, 0, none⟩)), (9, .int .i64 r26.1), (92, .slice A1 l1.length c1), (93, .int .i64 (l1.length : Int)), (94, .int .i64 (wi (x94_l2 + 1)))]) (by kernel_rfl) ?_
      exact ih (wi (x94_l2 + 1)) (q25_l2.1, q25_l2.2.1, q25_l2.2.2.1, q25_l2.2.2.2.1, (some r72.2), (some r89.2)) _ hS H
    · replace H := ite_f H hb58
      refine WC.exit (by kernel_rfl) ?_
      refine At.thenExit ?_
      refine At.thenExit ?_
      obtain rfl := Option.some.inj H
      have hS : Sat w (rf w0) [O49 b23 q25_l2] := hS.sel [0] (by kernel_rfl)
      refine At.weaken [8] (L' := [(8, .pointer (some ⟨b23, 0, none⟩))]) (by kernel_rfl) ?_
      exact hn0 _ hS
theorem sparse_New.calls (w0 : World) (a0 : Int) (A1 : Option Addr) (c1 : Nat) (l1 : List Int) (R1 : rdS (r0 (.int .i64)) 1 (hp w0) A1 c1 l1) (r : (Option (Int × Int × Int × (Option (Int × (List Int) × (List Int) × Int)) × (Option (Int × Int × (List Int))) × (Option (Int × Int × (List Int))))) × Int) (H : sparse_New.f a0 l1 = some r) :
    Calls Try.prog 10 #[.int .i64 a0, .slice A1 l1.length c1] w0 (fun e w' => ∃ v, e = .returned v ∧ sparse_New.post w0 r v w') := by
  have hS : Sat w0 (rf w0) [] := Sat.start w0
  unfold sparse_New.f at H
  refine calls_of_WC (vs := [.int .i64 a0, .slice A1 l1.length c1]) Try.func10 (c := C10) (n := 134) (by kernel_rfl) (by kernel_rfl) (by kernel_rfl) ?_
  refine WC.seq (by kernel_rfl) ?_
  refine WC.reg [0, 1] (by kernel_rfl) (by kernel_rfl) ?_
  refine WR.runk [0, 1] [] [0, 1] (L' := [(0, .int .i64 a0), (1, .slice A1 l1.length c1)]) (w' := w0) (by kernel_rfl) ?_
  refine WR.nil ?_
  refine At.go ?_
  refine WC.seq (by kernel_rfl) ?_
  refine WC.seq (by kernel_rfl) ?_
  refine WC.reg [0, 1, 2, 3, 4, 5, 6, 7, 8, 9, 10, 11] (by kernel_rfl) (by kernel_rfl) ?_
  refine WR.runk [0, 1, 2] [3, 4, 5, 6, 7, 8, 9, 10, 11] [0, 1, 15] (L' := [(0, .int .i64 a0), (1, .slice A1 l1.length c1), (15, .bool (decide (a0 < 0)))]) (w' := w0) (by kernel_rfl) ?_
  refine WR.split 15 (b := decide (a0 < 0)) (by kernel_rfl) (fun hb1 => ?_) (fun hb1 => ?_)
  · replace H := ite_t H hb1
    refine WR.runk [3, 4, 5, 6, 7, 8, 9, 10, 11] [] [0, 1, 24] (L' := [(0, .int .i64 a0), (1, .slice A1 l1.length c1), (24, .bool true)]) (w' := w0) (by kernel_rfl) ?_
    refine WR.nil ?_
    refine At.go ?_
    refine WC.condT (by kernel_rfl) (by kernel_rfl) (by kernel_rfl) ?_
    refine WC.seq (by kernel_rfl) ?_
    refine WC.reg [0, 1] (by kernel_rfl) (by kernel_rfl) ?_
    refine WR.runk [0, 1] [] [4, 5] (L' := [(4, .pointer none), (5, .int .i64 2)]) (w' := w0) (by kernel_rfl) ?_
    refine WR.nil ?_
    refine At.go ?_
    refine WC.ret (by kernel_rfl) ?_
    refine At.thenRet ?_
    obtain rfl := Option.some.inj H
    have hS := optP.nil (O := O49) hS
    have hS : Sat w0 (rf w0) [optP O49 (.pointer none) none] := hS.sel [0] (by kernel_rfl)
    exact At.body [.pointer none, .int .i64 2] (by kernel_rfl) ⟨_, rfl, _, rfl, hS⟩
  · replace H := ite_f H hb1
    refine WR.runk [3, 4, 5, 6] [7, 8, 9, 10, 11] [0, 1, 19] (L' := [(0, .int .i64 a0), (1, .slice A1 l1.length c1), (19, .bool (decide (a0 > 4194304)))]) (w' := w0) (by kernel_rfl) ?_
    refine WR.split 19 (b := decide (a0 > 4194304)) (by kernel_rfl) (fun hb2 => ?_) (fun hb2 => ?_)
    · replace H := ite_t H hb2
      refine WR.runk [7, 8, 9, 10, 11] [] [0, 1, 24] (L' := [(0, .int .i64 a0), (1, .slice A1 l1.length c1), (24, .bool true)]) (w' := w0) (by kernel_rfl) ?_
      refine WR.nil ?_
      refine At.go ?_
      refine WC.condT (by kernel_rfl) (by kernel_rfl) (by kernel_rfl) ?_
      refine WC.seq (by kernel_rfl) ?_
      refine WC.reg [0, 1] (by kernel_rfl) (by kernel_rfl) ?_
      refine WR.runk [0, 1] [] [4, 5] (L' := [(4, .pointer none), (5, .int .i64 2)]) (w' := w0) (by kernel_rfl) ?_
      refine WR.nil ?_
      refine At.go ?_
      refine WC.ret (by kernel_rfl) ?_
      refine At.thenRet ?_
      obtain rfl := Option.some.inj H
      have hS := optP.nil (O := O49) hS
      have hS : Sat w0 (rf w0) [optP O49 (.pointer none) none] := hS.sel [0] (by kernel_rfl)
      exact At.body [.pointer none, .int .i64 2] (by kernel_rfl) ⟨_, rfl, _, rfl, hS⟩
    · replace H := ite_f H hb2
      refine WR.runk [7, 8, 9, 10, 11] [] [0, 1, 24] (L' := [(0, .int .i64 a0), (1, .slice A1 l1.length c1), (24, .bool (decide ((l1.length : Int) > a0)))]) (w' := w0) (by kernel_rfl) ?_
      refine WR.nil ?_
      refine At.go ?_
      refine WC.cond (by kernel_rfl) (decide ((l1.length : Int) > a0)) (by kernel_rfl) (by kernel_rfl) (fun hb3 => ?_) (fun hb3 => ?_)
      · replace H := ite_t H hb3
        refine WC.seq (by kernel_rfl) ?_
        refine WC.reg [0, 1] (by kernel_rfl) (by kernel_rfl) ?_
        refine WR.runk [0, 1] [] [4, 5] (L' := [(4, .pointer none), (5, .int .i64 2)]) (w' := w0) (by kernel_rfl) ?_
        refine WR.nil ?_
        refine At.go ?_
        refine WC.ret (by kernel_rfl) ?_
        refine At.thenRet ?_
        obtain rfl := Option.some.inj H
        have hS := optP.nil (O := O49) hS
        have hS : Sat w0 (rf w0) [optP O49 (.pointer none) none] := hS.sel [0] (by kernel_rfl)
        exact At.body [.pointer none, .int .i64 2] (by kernel_rfl) ⟨_, rfl, _, rfl, hS⟩
      · replace H := ite_f H hb3
        refine WC.skip (by kernel_rfl) ?_
        refine At.go ?_
        refine WC.seq (by kernel_rfl) ?_
        refine WC.seq (by kernel_rfl) ?_
        refine WC.reg [0, 1, 2] (by kernel_rfl) (by kernel_rfl) ?_
        refine WR.runk [0, 1, 2] [] [0, 1, 25, 26, 27] (L' := [(0, .int .i64 a0), (1, .slice A1 l1.length c1), (25, .slice A1 l1.length c1), (26, .int .i64 (l1.length : Int)), (27, .int .i64 0)]) (w' := w0) (by kernel_rfl) ?_
        refine WR.nil ?_
        refine At.go ?_
        refine WC.block (by kernel_rfl) ?_
        have hS : Sat w0 (rf w0) [] := hS.sel [] (by kernel_rfl)
        obtain ⟨o13, e14, H⟩ := bind_ex H
        refine WC.loop (by kernel_rfl) ?_
        refine WL.weaken [0, 1, 25, 26, 27] (L' := [(0, .int .i64 a0), (1, .slice A1 l1.length c1), (25, .slice A1 l1.length c1), (26, .int .i64 (l1.length : Int)), (27, .int .i64 0)]) (by kernel_rfl) ?_
        refine sparse_New.l1_ok w0 a0 A1 c1 l1 R1 o13 (fun o15 w17 ho18 hS => ?_) (fun o19 w21 ho22 hS => ?_) FU 0 _ hS e14
        · subst ho18
          dsimp only at H
          refine At.blockRet ?_
          refine At.thenRet ?_
          obtain rfl := Option.some.inj H
          have hS := optP.nil (O := O49) hS
          have hS : Sat w17 (rf w0) [optP O49 (.pointer none) none] := hS.sel [0] (by kernel_rfl)
          exact At.body [.pointer none, .int .i64 o15] (by kernel_rfl) ⟨_, rfl, _, rfl, hS⟩
        · subst ho22
          dsimp only at H
          refine At.hit ?_
          refine At.go ?_
          refine WC.seq (by kernel_rfl) ?_
          refine WC.reg [0, 1, 2, 3, 4, 5] (by kernel_rfl) (by kernel_rfl) ?_
          refine WR.runk [0, 1, 2, 3] [4, 5] [0, 1, 56] (L' := [(0, .int .i64 a0), (1, .slice A1 l1.length c1), (56, .agg #[.int .i64 a0, .int .i64 (l1.length : Int), .int .i64 0, .pointer none, .pointer none, .pointer none])]) (w' := w21) (by kernel_rfl) ?_
          refine WR.st (St.box hS (by kernel_rfl) (.cells #[.int .i64 a0, .int .i64 (l1.length : Int), .int .i64 0, .pointer none, .pointer none, .pointer none] 49) (fun b23 => .pointer (some ⟨b23, 0, none⟩)) (fun _ => by kernel_rfl) (fun b23 w24 hS => ?_))
          refine WR.runk [5] [] [0, 1, 8] (L' := [(0, .int .i64 a0), (1, .slice A1 l1.length c1), (8, .pointer (some ⟨b23, 0, none⟩))]) (w' := w24) (by kernel_rfl) ?_
          refine WR.nil ?_
          refine At.go ?_
          refine WC.seq (by kernel_rfl) ?_
          refine WC.reg [0, 1, 2, 3, 4, 5, 6, 7, 8, 9, 10] (by kernel_rfl) (by kernel_rfl) ?_
          refine WR.runk [0, 1, 2, 3] [4, 5, 6, 7, 8, 9, 10] [1, 8, 59, 62] (L' := [(1, .slice A1 l1.length c1), (8, .pointer (some ⟨b23, 0, none⟩)), (59, .int .i64 a0), (62, .pointer (some ⟨b23, 1, none⟩))]) (w' := w24) (by kernel_rfl) ?_
          refine WR.st (St.ofR (RSt.loadObj (t := 3) (k := 1) (v := .int .i64 (l1.length : Int)) (.tmp 62) (by kernel_rfl) (by kernel_rfl) (by kernel_rfl) 0 hS rfl (by kernel_rfl) rfl ?_))
          refine WR.runk [] [5, 6, 7, 8, 9, 10] [1, 8, 59, 63] (L' := [(1, .slice A1 l1.length c1), (8, .pointer (some ⟨b23, 0, none⟩)), (59, .int .i64 a0), (63, .int .i64 (l1.length : Int))]) (w' := w24) (by kernel_rfl) ?_
          obtain ⟨r26, e27, H⟩ := bind_ex H
          refine WR.st (St.call (by kernel_rfl) (f := 21) (args := #[.int .i64 a0, .int .i64 (l1.length : Int)]) (by kernel_rfl) (sparse_shape.calls w24 a0 (l1.length : Int) r26 e27) ?_)
          rintro _ w33 ⟨rfl, hS34⟩
          have hS : Sat w33 (rf w0) [pts b23 (.cells #[.int .i64 a0, .int .i64 (l1.length : Int), .int .i64 0, .pointer none, .pointer none, .pointer none] 49 (0, 0))] := hS.ext hS34
          refine WR.runk [6, 7, 8, 9, 10] [] [1, 8, 9, 10] (L' := [(1, .slice A1 l1.length c1), (8, .pointer (some ⟨b23, 0, none⟩)), (9, .int .i64 r26.1), (10, .int .i64 r26.2)]) (w' := w33) (by kernel_rfl) ?_
          refine WR.nil ?_
          refine At.go ?_
          refine WC.seq (by kernel_rfl) ?_
          refine WC.reg [0, 1, 2, 3, 4] (by kernel_rfl) (by kernel_rfl) ?_
          refine WR.runk [0, 1, 2, 3] [4] [1, 8, 9, 10, 68, 70] (L' := [(1, .slice A1 l1.length c1), (8, .pointer (some ⟨b23, 0, none⟩)), (9, .int .i64 r26.1), (10, .int .i64 r26.2), (68, .int .i64 r26.1), (70, .pointer (some ⟨b23, 2, none⟩))]) (w' := w33) (by kernel_rfl) ?_
          refine WR.st (St.storeObj (t := 3) (k := 2) (cur' := #[.int .i64 a0, .int .i64 (l1.length : Int), .int .i64 r26.1, .pointer none, .pointer none, .pointer none]) (.tmp 70) (.tmp 68) (by kernel_rfl) (by kernel_rfl) (by kernel_rfl) hS (by kernel_rfl) (by kernel_rfl) (by kernel_rfl) rfl rfl (fun w35 hS => ?_))
          refine WR.runk [] [] [1, 8, 9, 10] (L' := [(1, .slice A1 l1.length c1), (8, .pointer (some ⟨b23, 0, none⟩)), (9, .int .i64 r26.1), (10, .int .i64 r26.2)]) (w' := w35) (by kernel_rfl) ?_
          refine WR.nil ?_
          refine At.go ?_
          refine WC.seq (by kernel_rfl) ?_
          refine WC.reg [0, 1, 2, 3, 4, 5, 6, 7, 8] (by kernel_rfl) (by kernel_rfl) ?_
          refine WR.runk [0, 1] [2, 3, 4, 5, 6, 7, 8] [1, 8, 9, 72, 73] (L' := [(1, .slice A1 l1.length c1), (8, .pointer (some ⟨b23, 0, none⟩)), (9, .int .i64 r26.1), (72, .pointer (some ⟨b23, 0, none⟩)), (73, .int .i64 r26.2)]) (w' := w35) (by kernel_rfl) ?_
          obtain ⟨r36, e37, H⟩ := bind_ex H
          refine WR.st (St.call (by kernel_rfl) (f := 22) (args := #[.int .i64 1, .int .i64 r26.2]) (by kernel_rfl) (pack_New.calls w35 1 r26.2 r36 e37) ?_)
          rintro _ w43 ⟨pv45, rfl, hS44⟩
          have hS : Sat w43 (rf w0) [optP O66 pv45 r36.1, pts b23 (.cells #[.int .i64 a0, .int .i64 (l1.length : Int), .int .i64 r26.1, .pointer none, .pointer none, .pointer none] 49 (0, 0))] := hS.ext hS44
          refine WR.runk [3, 4, 5, 6, 7] [8] [1, 8, 9, 75, 78] (L' := [(1, .slice A1 l1.length c1), (8, .pointer (some ⟨b23, 0, none⟩)), (9, .int .i64 r26.1), (75, pv45), (78, .pointer (some ⟨b23, 4, none⟩))]) (w' := w43) (by kernel_rfl) ?_
          have hS : Sat w43 (rf w0) [pts b23 (.cells #[.int .i64 a0, .int .i64 (l1.length : Int), .int .i64 r26.1, .pointer none, .pointer none, .pointer none] 49 (0, 0)), optP O66 pv45 r36.1] := hS.sel [1, 0] (by kernel_rfl)
          refine WR.st (St.storeObj (t := 47) (k := 4) (cur' := #[.int .i64 a0, .int .i64 (l1.length : Int), .int .i64 r26.1, .pointer none, pv45, .pointer none]) (.tmp 78) (.tmp 75) (by kernel_rfl) (by kernel_rfl) (by kernel_rfl) hS (by kernel_rfl) (by kernel_rfl) (Sat.optOne 1 hS rfl) rfl rfl (fun w46 hS => ?_))
          refine WR.runk [] [] [1, 8, 9] (L' := [(1, .slice A1 l1.length c1), (8, .pointer (some ⟨b23, 0, none⟩)), (9, .int .i64 r26.1)]) (w' := w46) (by kernel_rfl) ?_
          refine WR.nil ?_
          refine At.go ?_
          refine WC.seq (by kernel_rfl) ?_
          refine WC.reg [0, 1, 2, 3, 4, 5, 6, 7, 8, 9, 10, 11, 12, 13] (by kernel_rfl) (by kernel_rfl) ?_
          refine WR.runk [0, 1, 2, 3, 4, 5] [6, 7, 8, 9, 10, 11, 12, 13] [1, 8, 9, 80, 82, 85] (L' := [(1, .slice A1 l1.length c1), (8, .pointer (some ⟨b23, 0, none⟩)), (9, .int .i64 r26.1), (80, .pointer (some ⟨b23, 0, none⟩)), (82, .int .i64 (imax 1 r26.1)), (85, .pointer (some ⟨b23, 1, none⟩))]) (w' := w46) (by kernel_rfl) ?_
          refine WR.st (St.ofR (RSt.loadObj (t := 3) (k := 1) (v := .int .i64 (l1.length : Int)) (.tmp 85) (by kernel_rfl) (by kernel_rfl) (by kernel_rfl) 0 hS rfl (by kernel_rfl) rfl ?_))
          refine WR.runk [] [7, 8, 9, 10, 11, 12, 13] [1, 8, 9, 80, 82, 86] (L' := [(1, .slice A1 l1.length c1), (8, .pointer (some ⟨b23, 0, none⟩)), (9, .int .i64 r26.1), (80, .pointer (some ⟨b23, 0, none⟩)), (82, .int .i64 (imax 1 r26.1)), (86, .int .i64 (l1.length : Int))]) (w' := w46) (by kernel_rfl) ?_
          obtain ⟨r47, e48, H⟩ := bind_ex H
          refine WR.st (St.call (by kernel_rfl) (f := 22) (args := #[.int .i64 (imax 1 r26.1), .int .i64 (l1.length : Int)]) (by kernel_rfl) (pack_New.calls w46 (imax 1 r26.1) (l1.length : Int) r47 e48) ?_)
          rintro _ w54 ⟨pv56, rfl, hS55⟩
          have hS : Sat w54 (rf w0) [optP O66 pv56 r47.1, pts b23 (.cells #[.int .i64 a0, .int .i64 (l1.length : Int), .int .i64 r26.1, .pointer none, pv45, .pointer none] 49 (0, 0)), optP O66 pv45 r36.1] := hS.ext hS55
          refine WR.runk [8, 9, 10, 11, 12] [13] [1, 8, 9, 88, 91] (L' := [(1, .slice A1 l1.length c1), (8, .pointer (some ⟨b23, 0, none⟩)), (9, .int .i64 r26.1), (88, pv56), (91, .pointer (some ⟨b23, 5, none⟩))]) (w' := w54) (by kernel_rfl) ?_
          have hS : Sat w54 (rf w0) [pts b23 (.cells #[.int .i64 a0, .int .i64 (l1.length : Int), .int .i64 r26.1, .pointer none, pv45, .pointer none] 49 (0, 0)), optP O66 pv56 r47.1, optP O66 pv45 r36.1] := hS.sel [1, 0, 2] (by kernel_rfl)
          refine WR.st (St.storeObj (t := 47) (k := 5) (cur' := #[.int .i64 a0, .int .i64 (l1.length : Int), .int .i64 r26.1, .pointer none, pv45, pv56]) (.tmp 91) (.tmp 88) (by kernel_rfl) (by kernel_rfl) (by kernel_rfl) hS (by kernel_rfl) (by kernel_rfl) (Sat.optOne 1 hS rfl) rfl rfl (fun w57 hS => ?_))
          refine WR.runk [] [] [1, 8, 9] (L' := [(1, .slice A1 l1.length c1), (8, .pointer (some ⟨b23, 0, none⟩)), (9, .int .i64 r26.1)]) (w' := w57) (by kernel_rfl) ?_
          refine WR.nil ?_
          refine At.go ?_
          refine WC.seq (by kernel_rfl) ?_
          refine WC.seq (by kernel_rfl) ?_
          refine WC.reg [0, 1, 2] (by kernel_rfl) (by kernel_rfl) ?_
          refine WR.runk [0, 1, 2] [] [8, 9, 92, 93, 94] (L' := [(8, .pointer (some ⟨b23, 0, none⟩)), (9, .int .i64 r26.1), (92, .slice A1 l1.length c1), (93, .int .i64 (l1.length : Int)), (94, .int .i64 0)]) (w' := w57) (by kernel_rfl) ?_
          refine WR.nil ?_
          refine At.go ?_
          refine WC.block (by kernel_rfl) ?_
          have hS := optP.nil (O := O68) hS
          have hS : Sat w57 (rf w0) [pts b23 (.cells #[.int .i64 a0, .int .i64 (l1.length : Int), .int .i64 r26.1, .pointer none, pv45, pv56] 49 (0, 0)), optP O68 (.pointer none) none, optP O66 pv45 r36.1, optP O66 pv56 r47.1] := hS.sel [1, 0, 3, 2] (by kernel_rfl)
          have hS : Sat w57 (rf w0) [O49 b23 (a0, (l1.length : Int), r26.1, none, r36.1, r47.1)] := O49.close (a0, (l1.length : Int), r26.1, none, r36.1, r47.1) (.pointer none) pv45 pv56 hS
          have hS : Sat w57 (rf w0) [O49 b23 (a0, (l1.length : Int), r26.1, none, r36.1, r47.1)] := hS.sel [0] (by kernel_rfl)
          obtain ⟨o100, e101, H⟩ := bind_ex H
          refine WC.loop (by kernel_rfl) ?_
          refine WL.weaken [8, 9, 92, 93, 94] (L' := [(8, .pointer (some ⟨b23, 0, none⟩)), (9, .int .i64 r26.1), (92, .slice A1 l1.length c1), (93, .int .i64 (l1.length : Int)), (94, .int .i64 0)]) (by kernel_rfl) ?_
          refine sparse_New.l2_ok w0 A1 c1 l1 b23 r26 R1 o100 (fun w103 hS => ?_) FU 0 (a0, (l1.length : Int), r26.1, none, r36.1, r47.1) _ hS e101
          refine At.hit ?_
          refine At.go ?_
          refine WC.seq (by kernel_rfl) ?_
          refine WC.reg [0, 1, 2, 3, 4, 5, 6, 7, 8, 9, 10, 11] (by kernel_rfl) (by kernel_rfl) ?_
          refine WR.runk [0, 1, 2, 3] [4, 5, 6, 7, 8, 9, 10, 11] [8, 123, 126] (L' := [(8, .pointer (some ⟨b23, 0, none⟩)), (123, .pointer (some ⟨b23, 0, none⟩)), (126, .pointer (some ⟨b23, 4, none⟩))]) (w' := w103) (by kernel_rfl) ?_
          obtain ⟨pv105, pv106, pv107, hS⟩ := O49.open hS
          have hS : Sat w103 (rf w0) [pts b23 (.cells #[.int .i64 o100.1, .int .i64 o100.2.1, .int .i64 o100.2.2.1, pv105, pv106, pv107] 49 (0, 0)), optP O68 pv105 o100.2.2.2.1, optP O66 pv106 o100.2.2.2.2.1, optP O66 pv107 o100.2.2.2.2.2] := hS
          refine WR.st (St.ofR (RSt.loadObj (t := 47) (k := 4) (v := pv106) (.tmp 126) (by kernel_rfl) (by kernel_rfl) (by kernel_rfl) 0 hS rfl (by kernel_rfl) rfl ?_))
          refine WR.runk [] [5, 6, 7, 8, 9, 10, 11] [8, 123, 127] (L' := [(8, .pointer (some ⟨b23, 0, none⟩)), (123, .pointer (some ⟨b23, 0, none⟩)), (127, pv106)]) (w' := w103) (by kernel_rfl) ?_
          obtain ⟨r108, e109, H⟩ := bind_ex H
          refine WR.st (St.call (by kernel_rfl) (f := 24) (args := #[pv106]) (by kernel_rfl) (rank_New.calls w103 (pv106) o100.2.2.2.2.1 (Sat.rdAny 2 hS rfl (fun _ h => optP.rdd (t := 66) (κ := (.pair (.int .i64) (.pair (.int .i64) (.slice 43 (.int .u64))))) (O := O66) O66.rd h)) r108 e109) ?_)
          rintro _ w115 ⟨pv117, rfl, hS116⟩
          have hS : Sat w115 (rf w0) [optP O68 pv117 r108.1, pts b23 (.cells #[.int .i64 o100.1, .int .i64 o100.2.1, .int .i64 o100.2.2.1, pv105, pv106, pv107] 49 (0, 0)), optP O68 pv105 o100.2.2.2.1, optP O66 pv106 o100.2.2.2.2.1, optP O66 pv107 o100.2.2.2.2.2] := hS.ext hS116
          refine WR.runk [6, 7, 8, 9, 10] [11] [8, 129, 132] (L' := [(8, .pointer (some ⟨b23, 0, none⟩)), (129, pv117), (132, .pointer (some ⟨b23, 3, none⟩))]) (w' := w115) (by kernel_rfl) ?_
          have hS : Sat w115 (rf w0) [pts b23 (.cells #[.int .i64 o100.1, .int .i64 o100.2.1, .int .i64 o100.2.2.1, pv105, pv106, pv107] 49 (0, 0)), optP O68 pv117 r108.1, optP O68 pv105 o100.2.2.2.1, optP O66 pv106 o100.2.2.2.2.1, optP O66 pv107 o100.2.2.2.2.2] := hS.sel [1, 0, 2, 3, 4] (by kernel_rfl)
          refine WR.st (St.storeObj (t := 46) (k := 3) (cur' := #[.int .i64 o100.1, .int .i64 o100.2.1, .int .i64 o100.2.2.1, pv117, pv106, pv107]) (.tmp 132) (.tmp 129) (by kernel_rfl) (by kernel_rfl) (by kernel_rfl) hS (by kernel_rfl) (by kernel_rfl) (Sat.optOne 1 hS rfl) rfl rfl (fun w118 hS => ?_))
          refine WR.runk [] [] [8] (L' := [(8, .pointer (some ⟨b23, 0, none⟩))]) (w' := w118) (by kernel_rfl) ?_
          refine WR.nil ?_
          refine At.go ?_
          refine WC.seq (by kernel_rfl) ?_
          refine WC.reg [0, 1, 2] (by kernel_rfl) (by kernel_rfl) ?_
          refine WR.runk [0, 1, 2] [] [4, 5] (L' := [(4, .pointer (some ⟨b23, 0, none⟩)), (5, .int .i64 0)]) (w' := w118) (by kernel_rfl) ?_
          refine WR.nil ?_
          refine At.go ?_
          refine WC.ret (by kernel_rfl) ?_
          obtain rfl := Option.some.inj H
          have hS : Sat w118 (rf w0) [pts b23 (.cells #[.int .i64 o100.1, .int .i64 o100.2.1, .int .i64 o100.2.2.1, pv117, pv106, pv107] 49 (0, 0)), optP O68 pv117 r108.1, optP O66 pv106 o100.2.2.2.2.1, optP O66 pv107 o100.2.2.2.2.2, optP O68 pv105 o100.2.2.2.1] := hS.sel [0, 1, 3, 4, 2] (by kernel_rfl)
          have hS : Sat w118 (rf w0) [O49 b23 (o100.1, o100.2.1, o100.2.2.1, r108.1, o100.2.2.2.2.1, o100.2.2.2.2.2), optP O68 pv105 o100.2.2.2.1] := O49.close (o100.1, o100.2.1, o100.2.2.1, r108.1, o100.2.2.2.2.1, o100.2.2.2.2.2) pv117 pv106 pv107 hS
          have hS : Sat w118 (rf w0) [optP O49 (.pointer (some ⟨b23, 0, none⟩)) (some (o100.1, o100.2.1, o100.2.2.1, r108.1, o100.2.2.2.2.1, o100.2.2.2.2.2)), optP O68 pv105 o100.2.2.2.1] := optP.mk hS
          have hS : Sat w118 (rf w0) [optP O49 (.pointer (some ⟨b23, 0, none⟩)) (some (o100.1, o100.2.1, o100.2.2.1, r108.1, o100.2.2.2.2.1, o100.2.2.2.2.2))] := hS.sel [0] (by kernel_rfl)
          exact At.body [.pointer (some ⟨b23, 0, none⟩), .int .i64 0] (by kernel_rfl) ⟨_, rfl, _, rfl, hS⟩
/-! ### 17 (*colophon/sparse.Set).Words -/
def sparse_Set_Words.f (p0 : Option (Int × Int × Int × (Option (Int × (List Int) × (List Int) × Int)) × (Option (Int × Int × (List Int))) × (Option (Int × Int × (List Int))))) : Option ((List Int) × (List Int)) := (match p0 with | none => some (([] : List Int), ([] : List Int)) | some y3 => ((pack_Ints_Words.f y3.2.2.2.2.1).bind fun r17 => ((pack_Ints_Words.f y3.2.2.2.2.2).bind fun r28 => some (r17, r28))))
def sparse_Set_Words.post (w : World) (r : (List Int) × (List Int)) (v : Value) (w' : World) : Prop := ∃ (A0' : Option Addr) (c0' : Nat), ∃ (A1' : Option Addr) (c1' : Nat), v = .tuple #[.slice A0' r.1.length c0', .slice A1' r.2.length c1'] ∧ Sat w' (rf w) [osl 43 (r0 (.int .u64)) 1 A0' c0' r.1, osl 43 (r0 (.int .u64)) 1 A1' c1' r.2]
theorem sparse_Set_Words.calls (w0 : World) (v0 : Value) (p0 : Option (Int × Int × Int × (Option (Int × (List Int) × (List Int) × Int)) × (Option (Int × Int × (List Int))) × (Option (Int × Int × (List Int))))) (R0 : rd (hp w0) (.ptr 49 (.pair (.int .i64) (.pair (.int .i64) (.pair (.int .i64) (.pair (.ptr 68 (.pair (.int .i64) (.pair (.slice 43 (.int .u64)) (.pair (.slice 3 (.int .i64)) (.int .i64))))) (.pair (.ptr 66 (.pair (.int .i64) (.pair (.int .i64) (.slice 43 (.int .u64))))) (.ptr 66 (.pair (.int .i64) (.pair (.int .i64) (.slice 43 (.int .u64))))))))))) [v0] p0) (r : (List Int) × (List Int)) (H : sparse_Set_Words.f p0 = some r) :
    Calls Try.prog 17 #[v0] w0 (fun e w' => ∃ v, e = .returned v ∧ sparse_Set_Words.post w0 r v w') := by
  have hS : Sat w0 (rf w0) [] := Sat.start w0
  unfold sparse_Set_Words.f at H
  refine calls_of_WC (vs := [v0]) Try.func17 (c := C17) (n := 16) (by kernel_rfl) (by kernel_rfl) (by kernel_rfl) ?_
  refine WC.seq (by kernel_rfl) ?_
  refine WC.reg [0, 1] (by kernel_rfl) (by kernel_rfl) ?_
  refine WR.runk [0, 1] [] [0] (L' := [(0, v0)]) (w' := w0) (by kernel_rfl) ?_
  refine WR.nil ?_
  refine At.go ?_
  refine WC.seq (by kernel_rfl) ?_
  refine WC.seq (by kernel_rfl) ?_
  refine WC.reg [0, 1] (by kernel_rfl) (by kernel_rfl) ?_
  refine WR.runk [0] [1] [0, 4] (L' := [(0, v0), (4, v0)]) (w' := w0) (by kernel_rfl) ?_
  rcases opt_cases p0 with hr1 | ⟨y3, hr1⟩
  · rw [hr1] at H
    dsimp only at H
    have hx2 := rd_ptr_none R0 hr1
    try subst hx2
    refine WR.runk [1] [] [0, 5] (L' := [(0, .pointer none), (5, .bool true)]) (w' := w0) (by kernel_rfl) ?_
    refine WR.nil ?_
    refine At.go ?_
    refine WC.condT (by kernel_rfl) (by kernel_rfl) (by kernel_rfl) ?_
    refine WC.seq (by kernel_rfl) ?_
    refine WC.reg [0, 1] (by kernel_rfl) (by kernel_rfl) ?_
    refine WR.runk [0, 1] [] [2, 3] (L' := [(2, .slice none 0 0), (3, .slice none 0 0)]) (w' := w0) (by kernel_rfl) ?_
    refine WR.nil ?_
    refine At.go ?_
    refine WC.ret (by kernel_rfl) ?_
    refine At.thenRet ?_
    obtain rfl := Option.some.inj H
    have hS := hS.addNil (α := Int) 43 (r0 (.int .u64)) 1
    have hS := hS.addNil (α := Int) 43 (r0 (.int .u64)) 1
    have hS : Sat w0 (rf w0) [osl 43 (r0 (.int .u64)) 1 none 0 ([] : List Int), osl 43 (r0 (.int .u64)) 1 none 0 ([] : List Int)] := hS.sel [1, 0] (by kernel_rfl)
    exact At.body [.slice none 0 0, .slice none 0 0] (by kernel_rfl) ⟨_, rfl, _, _, _, _, rfl, hS⟩
  · rw [hr1] at H
    dsimp only at H
    obtain ⟨b4, fr5, u9, u11, u13, hv6, hb7, R10, R12, R14⟩ := P49.open R0 hr1
    have R8 := R0
    rw [hv6, hr1] at R8
    try subst hv6
    replace R10 : rd (hp w0) (.ptr 68 (.pair (.int .i64) (.pair (.slice 43 (.int .u64)) (.pair (.slice 3 (.int .i64)) (.int .i64))))) [u9] y3.2.2.2.1 := R10
    replace R12 : rd (hp w0) (.ptr 66 (.pair (.int .i64) (.pair (.int .i64) (.slice 43 (.int .u64))))) [u11] y3.2.2.2.2.1 := R12
    replace R14 : rd (hp w0) (.ptr 66 (.pair (.int .i64) (.pair (.int .i64) (.slice 43 (.int .u64))))) [u13] y3.2.2.2.2.2 := R14
    refine WR.runk [1] [] [0, 5] (L' := [(0, .pointer (some ⟨b4, 0, none⟩)), (5, .bool false)]) (w' := w0) (by kernel_rfl) ?_
    refine WR.nil ?_
    refine At.go ?_
    refine WC.condF (by kernel_rfl) (by kernel_rfl) (by kernel_rfl) ?_
    refine WC.skip (by kernel_rfl) ?_
    refine At.go ?_
    refine WC.seq (by kernel_rfl) ?_
    refine WC.drawn (by kernel_rfl) (by kernel_rfl) 12 (by kernel_rfl) (fun w15 hw16 => ?_)
    have hS := hS.heap hw16.1 hw16.2
    refine WD.weaken [0] (L' := [(0, .pointer (some ⟨b4, 0, none⟩))]) (by kernel_rfl) ?_
    refine WD.pure (i := 0) (v := .pointer (some ⟨b4, 0, none⟩)) (by kernel_rfl) (by kernel_rfl) (fun _ => by kernel_rfl) ?_
    refine WD.weaken [0, 6] (L' := [(0, .pointer (some ⟨b4, 0, none⟩)), (6, .pointer (some ⟨b4, 0, none⟩))]) (by kernel_rfl) ?_
    refine WD.pure (i := 1) (v := .pointer (some ⟨b4, 0, none⟩)) (by kernel_rfl) (by kernel_rfl) (fun _ => by kernel_rfl) ?_
    refine WD.weaken [0, 7] (L' := [(0, .pointer (some ⟨b4, 0, none⟩)), (7, .pointer (some ⟨b4, 0, none⟩))]) (by kernel_rfl) ?_
    refine WD.pure (i := 2) (v := .pointer (some ⟨b4, 4, none⟩)) (by kernel_rfl) (by kernel_rfl) (fun _ => by kernel_rfl) ?_
    refine WD.weaken [0, 8] (L' := [(0, .pointer (some ⟨b4, 0, none⟩)), (8, .pointer (some ⟨b4, 4, none⟩))]) (by kernel_rfl) ?_
    refine WD.ofR (i := 3) (by kernel_rfl) (RSt.loadRo (t := 47) (k := 4) (v := u11) (.tmp 8) (by kernel_rfl) (by kernel_rfl) (by kernel_rfl) hS.sub0 hb7 (by kernel_rfl) rfl ?_)
    refine WD.weaken [0, 9] (L' := [(0, .pointer (some ⟨b4, 0, none⟩)), (9, u11)]) (by kernel_rfl) ?_
    refine WD.pure (i := 5) (v := .pointer (some ⟨b4, 0, none⟩)) (by kernel_rfl) (by kernel_rfl) (fun _ => by kernel_rfl) ?_
    refine WD.weaken [9, 11] (L' := [(9, u11), (11, .pointer (some ⟨b4, 0, none⟩))]) (by kernel_rfl) ?_
    refine WD.pure (i := 6) (v := .pointer (some ⟨b4, 0, none⟩)) (by kernel_rfl) (by kernel_rfl) (fun _ => by kernel_rfl) ?_
    refine WD.weaken [9, 12] (L' := [(9, u11), (12, .pointer (some ⟨b4, 0, none⟩))]) (by kernel_rfl) ?_
    refine WD.pure (i := 7) (v := .pointer (some ⟨b4, 5, none⟩)) (by kernel_rfl) (by kernel_rfl) (fun _ => by kernel_rfl) ?_
    refine WD.weaken [9, 13] (L' := [(9, u11), (13, .pointer (some ⟨b4, 5, none⟩))]) (by kernel_rfl) ?_
    refine WD.ofR (i := 8) (by kernel_rfl) (RSt.loadRo (t := 47) (k := 5) (v := u13) (.tmp 13) (by kernel_rfl) (by kernel_rfl) (by kernel_rfl) hS.sub0 hb7 (by kernel_rfl) rfl ?_)
    refine WD.weaken [9, 14] (L' := [(9, u11), (14, u13)]) (by kernel_rfl) ?_
    obtain ⟨r17, e18, H⟩ := bind_ex H
    refine WD.act (i := 4) (by kernel_rfl) (St.call (by kernel_rfl) (f := 27) (args := #[u11]) (by kernel_rfl) (pack_Ints_Words.calls w15 (u11) y3.2.2.2.2.1 (rd.mono hS.sub0 _ _ _ R12) r17 e18) ?_)
    rintro _ w24 ⟨A26, c27, rfl, hS25⟩
    have hS : Sat w24 (rf w0) [osl 43 (r0 (.int .u64)) 1 A26 c27 r17] := hS.ext hS25
    refine ⟨(asked.cons (RSt.run (n := 16) (RSt.loadRo (t := 47) (k := 5) (v := u13) (.tmp 13) (by kernel_rfl) (by kernel_rfl) (by kernel_rfl) hS.sub0 hb7 (by kernel_rfl) rfl rfl)) (asked.anc (by kernel_rfl) (asked.nil _ _))), ?_⟩
    refine WD.weaken [10, 14] (L' := [(10, .slice A26 r17.length c27), (14, u13)]) (by kernel_rfl) ?_
    obtain ⟨r28, e29, H⟩ := bind_ex H
    refine WD.act (i := 9) (by kernel_rfl) (St.call (by kernel_rfl) (f := 27) (args := #[u13]) (by kernel_rfl) (pack_Ints_Words.calls w24 (u13) y3.2.2.2.2.2 (rd.mono hS.sub0 _ _ _ R14) r28 e29) ?_)
    rintro _ w35 ⟨A37, c38, rfl, hS36⟩
    have hS : Sat w35 (rf w0) [osl 43 (r0 (.int .u64)) 1 A37 c38 r28, osl 43 (r0 (.int .u64)) 1 A26 c27 r17] := hS.ext hS36
    refine ⟨(asked.anc (by kernel_rfl) (asked.anc (by kernel_rfl) (asked.nil _ _))), ?_⟩
    refine WD.weaken [10, 15] (L' := [(10, .slice A26 r17.length c27), (15, .slice A37 r28.length c38)]) (by kernel_rfl) ?_
    refine WD.pure (i := 10) (v := .slice A26 r17.length c27) (by kernel_rfl) (by kernel_rfl) (fun _ => by kernel_rfl) ?_
    refine WD.weaken [2, 15] (L' := [(2, .slice A26 r17.length c27), (15, .slice A37 r28.length c38)]) (by kernel_rfl) ?_
    refine WD.pure (i := 11) (v := .slice A37 r28.length c38) (by kernel_rfl) (by kernel_rfl) (fun _ => by kernel_rfl) ?_
    refine WD.weaken [2, 3] (L' := [(2, .slice A26 r17.length c27), (3, .slice A37 r28.length c38)]) (by kernel_rfl) ?_
    refine WD.nil (by kernel_rfl) ?_
    refine At.go ?_
    refine WC.ret (by kernel_rfl) ?_
    obtain rfl := Option.some.inj H
    have hS : Sat w35 (rf w0) [osl 43 (r0 (.int .u64)) 1 A26 c27 r17, osl 43 (r0 (.int .u64)) 1 A37 c38 r28] := hS.sel [1, 0] (by kernel_rfl)
    exact At.body [.slice A26 r17.length c27, .slice A37 r28.length c38] (by kernel_rfl) ⟨_, rfl, _, _, _, _, rfl, hS⟩
/-! ### 40 (*colophon/rank.Vec).Ones -/
def rank_Vec_Ones.f (p0 : Option (Int × (List Int) × (List Int) × Int)) : Option Int := (match p0 with | none => some 0 | some y3 => some y3.2.2.2)
def rank_Vec_Ones.post (w : World) (r : Int) (v : Value) (w' : World) : Prop := v = (.int .i64 r : Value) ∧ Sat w' (rf w) []
theorem rank_Vec_Ones.calls (w0 : World) (v0 : Value) (p0 : Option (Int × (List Int) × (List Int) × Int)) (R0 : rd (hp w0) (.ptr 68 (.pair (.int .i64) (.pair (.slice 43 (.int .u64)) (.pair (.slice 3 (.int .i64)) (.int .i64))))) [v0] p0) (r : Int) (H : rank_Vec_Ones.f p0 = some r) :
    Calls Try.prog 40 #[v0] w0 (fun e w' => ∃ v, e = .returned v ∧ rank_Vec_Ones.post w0 r v w') := by
  have hS : Sat w0 (rf w0) [] := Sat.start w0
  unfold rank_Vec_Ones.f at H
  refine calls_of_WC (vs := [v0]) Try.func40 (c := C40) (n := 9) (by kernel_rfl) (by kernel_rfl) (by kernel_rfl) ?_
  refine WC.seq (by kernel_rfl) ?_
  refine WC.reg [0] (by kernel_rfl) (by kernel_rfl) ?_
  refine WR.runk [0] [] [0] (L' := [(0, v0)]) (w' := w0) (by kernel_rfl) ?_
  refine WR.nil ?_
  refine At.go ?_
  refine WC.seq (by kernel_rfl) ?_
  refine WC.seq (by kernel_rfl) ?_
  refine WC.reg [0, 1] (by kernel_rfl) (by kernel_rfl) ?_
  refine WR.runk [0] [1] [0, 3] (L' := [(0, v0), (3, v0)]) (w' := w0) (by kernel_rfl) ?_
  rcases opt_cases p0 with hr1 | ⟨y3, hr1⟩
  · rw [hr1] at H
    dsimp only at H
    have hx2 := rd_ptr_none R0 hr1
    try subst hx2
    refine WR.runk [1] [] [0, 4] (L' := [(0, .pointer none), (4, .bool true)]) (w' := w0) (by kernel_rfl) ?_
    refine WR.nil ?_
    refine At.go ?_
    refine WC.condT (by kernel_rfl) (by kernel_rfl) (by kernel_rfl) ?_
    refine WC.seq (by kernel_rfl) ?_
    refine WC.reg [0] (by kernel_rfl) (by kernel_rfl) ?_
    refine WR.runk [0] [] [2] (L' := [(2, .int .i64 0)]) (w' := w0) (by kernel_rfl) ?_
    refine WR.nil ?_
    refine At.go ?_
    refine WC.ret (by kernel_rfl) ?_
    refine At.thenRet ?_
    obtain rfl := Option.some.inj H
    have hS : Sat w0 (rf w0) [] := hS.sel [] (by kernel_rfl)
    exact At.body [.int .i64 0] (by kernel_rfl) ⟨_, rfl, rfl, hS⟩
  · rw [hr1] at H
    dsimp only at H
    obtain ⟨b4, fr5, A9, c10, A12, c13, hv6, hb7, R11, R14⟩ := P68.open R0 hr1
    have R8 := R0
    rw [hv6, hr1] at R8
    try subst hv6
    replace R11 : rdS (r0 (.int .u64)) 1 (hp w0) A9 c10 y3.2.1 := R11
    replace R14 : rdS (r0 (.int .i64)) 1 (hp w0) A12 c13 y3.2.2.1 := R14
    refine WR.runk [1] [] [0, 4] (L' := [(0, .pointer (some ⟨b4, 0, none⟩)), (4, .bool false)]) (w' := w0) (by kernel_rfl) ?_
    refine WR.nil ?_
    refine At.go ?_
    refine WC.condF (by kernel_rfl) (by kernel_rfl) (by kernel_rfl) ?_
    refine WC.skip (by kernel_rfl) ?_
    refine At.go ?_
    refine WC.seq (by kernel_rfl) ?_
    refine WC.reg [0, 1, 2, 3, 4] (by kernel_rfl) (by kernel_rfl) ?_
    refine WR.runk [0, 1, 2] [3, 4] [7] (L' := [(7, .pointer (some ⟨b4, 3, none⟩))]) (w' := w0) (by kernel_rfl) ?_
    refine WR.st (St.ofR (RSt.loadRo (t := 3) (k := 3) (v := .int .i64 y3.2.2.2) (.tmp 7) (by kernel_rfl) (by kernel_rfl) (by kernel_rfl) hS.sub0 hb7 (by kernel_rfl) rfl ?_))
    refine WR.runk [4] [] [2] (L' := [(2, .int .i64 y3.2.2.2)]) (w' := w0) (by kernel_rfl) ?_
    refine WR.nil ?_
    refine At.go ?_
    refine WC.ret (by kernel_rfl) ?_
    obtain rfl := Option.some.inj H
    have hS : Sat w0 (rf w0) [] := hS.sel [] (by kernel_rfl)
    exact At.body [.int .i64 y3.2.2.2] (by kernel_rfl) ⟨_, rfl, rfl, hS⟩
/-! ### 41 (*colophon/rank.Vec).Rank -/
def rank_Vec_Rank.l1 (a1 : Int) (y3 : Int × (List Int) × (List Int) × Int) : Nat → Int → Int → Option Int
  | 0, _, _ => none
  | k + 1, x6_l1, x7_l1 => (if decide (x7_l1 < wi (Int.tdiv a1 64)) then ((at? y3.2.1 x7_l1).bind fun v20 => ((bits_OnesCount64.f v20).bind fun r22 => rank_Vec_Rank.l1 a1 y3 k (wi (x6_l1 + r22)) (wi (x7_l1 + 1)))) else some x6_l1)
def rank_Vec_Rank.f (p0 : Option (Int × (List Int) × (List Int) × Int)) (a1 : Int) : Option Int := (match p0 with | none => some 0 | some y3 => (if decide (a1 ≤ 0) then some 0 else (if decide (a1 ≥ y3.1) then some y3.2.2.2 else ((at? y3.2.2.1 (wi (Int.tdiv (wi (Int.tdiv a1 64)) 8))).bind fun v17 => ((rank_Vec_Rank.l1 a1 y3 FU v17 (wi ((wi (Int.tdiv (wi (Int.tdiv a1 64)) 8)) * 8))).bind fun o31 => ((at? y3.2.1 (wi (Int.tdiv a1 64))).bind fun v38 => ((chk? (decide (0 ≤ (Int.tmod a1 64)))).bind fun _ => ((bits_OnesCount64.f (iand .u64 v38 (IntKind.wrap .u64 ((ishl .u64 1 (Int.tmod a1 64)) - 1)))).bind fun r41 => some (wi (o31 + r41))))))))))
def rank_Vec_Rank.post (w : World) (r : Int) (v : Value) (w' : World) : Prop := v = (.int .i64 r : Value) ∧ Sat w' (rf w) []
theorem rank_Vec_Rank.l1_ok {Q} (w0 : World) (a1 : Int) (y3 : Int × (List Int) × (List Int) × Int) (b4 : Nat) (fr5 : Nat × Nat) (A9 : Option Addr) (c10 : Nat) (A12 : Option Addr) (c13 : Nat) (R11 : rdS (r0 (.int .u64)) 1 (hp w0) A9 c10 y3.2.1) (hb7 : (hp w0) b4 = some (.cells #[.int .i64 y3.1, .slice A9 y3.2.1.length c10, .slice A12 y3.2.2.1.length c13, .int .i64 y3.2.2.2] 68 fr5)) (out : Int) (hn0 : ∀ (w : World), Sat w (rf w0) [] → At Q (.exit 0) 67 [(0, .pointer (some ⟨b4, 0, none⟩)), (1, .int .i64 a1), (5, .int .i64 (wi (Int.tdiv a1 64))), (6, .int .i64 out)] w) :
    ∀ (k : Nat) (x6_l1 : Int) (x7_l1 : Int) (w : World), Sat w (rf w0) [] → rank_Vec_Rank.l1 a1 y3 k x6_l1 x7_l1 = some out → WL Try.prog (cbody (cbody (cr (cl (cr (cr (cr (cr (cr C41))))))))) Q 67 [(0, .pointer (some ⟨b4, 0, none⟩)), (1, .int .i64 a1), (5, .int .i64 (wi (Int.tdiv a1 64))), (6, .int .i64 x6_l1), (7, .int .i64 x7_l1)] w := by
  intro k
  induction k with
  | zero => intro x6_l1 x7_l1 w hS H; exact absurd (show none = some out from H) (by simp)
  | succ k ih =>
    intro x6_l1 x7_l1 w hS H
    unfold rank_Vec_Rank.l1 at H
    refine WL.round ?_
    refine WC.seq (by kernel_rfl) ?_
    refine WC.seq (by kernel_rfl) ?_
    refine WC.reg [0, 1, 2] (by kernel_rfl) (by kernel_rfl) ?_
    refine WR.runk [0, 1, 2] [] [0, 1, 5, 6, 7, 39] (L' := [(0, .pointer (some ⟨b4, 0, none⟩)), (1, .int .i64 a1), (5, .int .i64 (wi (Int.tdiv a1 64))), (6, .int .i64 x6_l1), (7, .int .i64 x7_l1), (39, .bool (decide (x7_l1 < wi (Int.tdiv a1 64))))]) (w' := w) (by kernel_rfl) ?_
    refine WR.nil ?_
    refine At.go ?_
    refine WC.cond (by kernel_rfl) (decide (x7_l1 < wi (Int.tdiv a1 64))) (by kernel_rfl) (by kernel_rfl) (fun hb19 => ?_) (fun hb19 => ?_)
    · replace H := ite_t H hb19
      refine WC.skip (by kernel_rfl) ?_
      refine At.go ?_
      refine WC.seq (by kernel_rfl) ?_
      refine WC.block (by kernel_rfl) ?_
      refine WC.reg [0, 1, 2, 3, 4, 5, 6, 7, 8, 9, 10] (by kernel_rfl) (by kernel_rfl) ?_
      refine WR.runk [0, 1, 2, 3] [4, 5, 6, 7, 8, 9, 10] [0, 1, 5, 6, 7, 42, 45] (L' := [(0, .pointer (some ⟨b4, 0, none⟩)), (1, .int .i64 a1), (5, .int .i64 (wi (Int.tdiv a1 64))), (6, .int .i64 x6_l1), (7, .int .i64 x7_l1), (42, .int .i64 x6_l1), (45, .pointer (some ⟨b4, 1, none⟩))]) (w' := w) (by kernel_rfl) ?_
      refine WR.st (St.ofR (RSt.loadRo (t := 35) (k := 1) (v := .slice A9 y3.2.1.length c10) (.tmp 45) (by kernel_rfl) (by kernel_rfl) (by kernel_rfl) hS.sub0 hb7 (by kernel_rfl) rfl ?_))
      refine WR.runk [5] [6, 7, 8, 9, 10] [0, 1, 5, 6, 7, 42, 46, 47] (L' := [(0, .pointer (some ⟨b4, 0, none⟩)), (1, .int .i64 a1), (5, .int .i64 (wi (Int.tdiv a1 64))), (6, .int .i64 x6_l1), (7, .int .i64 x7_l1), (42, .int .i64 x6_l1), (46, .slice A9 y3.2.1.length c10), (47, .int .i64 x7_l1)]) (w' := w) (by kernel_rfl) ?_
      obtain ⟨v20, e21, H⟩ := bind_ex H
      refine WR.st (St.ofP (PSt.idx (k := .i64) (.tmp 46) (.tmp 47) (by kernel_rfl) (by kernel_rfl) E35 (by kernel_rfl) (by kernel_rfl) (rdS.up R11 hS.sub0) e21 ?_))
      refine WR.runk [] [7, 8, 9, 10] [0, 1, 5, 6, 7, 42, 48] (L' := [(0, .pointer (some ⟨b4, 0, none⟩)), (1, .int .i64 a1), (5, .int .i64 (wi (Int.tdiv a1 64))), (6, .int .i64 x6_l1), (7, .int .i64 x7_l1), (42, .int .i64 x6_l1), (48, .pointer (some (adr A9 x7_l1.toNat 1)))]) (w' := w) (by kernel_rfl) ?_
      refine WR.st (St.ofR (RSt.loadInt (t := 43) (.tmp 48) (by kernel_rfl) (by kernel_rfl) (by kernel_rfl) (by kernel_rfl) (rdS.up R11 hS.sub0) e21 ?_))
      refine WR.runk [] [8, 9, 10] [0, 1, 5, 6, 7, 42, 49] (L' := [(0, .pointer (some ⟨b4, 0, none⟩)), (1, .int .i64 a1), (5, .int .i64 (wi (Int.tdiv a1 64))), (6, .int .i64 x6_l1), (7, .int .i64 x7_l1), (42, .int .i64 x6_l1), (49, .int .u64 v20)]) (w' := w) (by kernel_rfl) ?_
      obtain ⟨r22, e23, H⟩ := bind_ex H
      refine WR.st (St.call (by kernel_rfl) (f := 38) (args := #[.int .u64 v20]) (by kernel_rfl) (bits_OnesCount64.calls w v20 r22 e23) ?_)
      rintro _ w29 ⟨rfl, hS30⟩
      have hS : Sat w29 (rf w0) [] := hS.ext hS30
      refine WR.runk [9, 10] [] [0, 1, 5, 6, 7] (L' := [(0, .pointer (some ⟨b4, 0, none⟩)), (1, .int .i64 a1), (5, .int .i64 (wi (Int.tdiv a1 64))), (6, .int .i64 (wi (x6_l1 + r22))), (7, .int .i64 x7_l1)]) (w' := w29) (by kernel_rfl) ?_
      refine WR.nil ?_
      refine At.blockNormal ?_
      refine At.go ?_
      refine WC.reg [0, 1, 2] (by kernel_rfl) (by kernel_rfl) ?_
      refine WR.runk [0, 1, 2] [] [0, 1, 5, 6, 7] (L' := [(0, .pointer (some ⟨b4, 0, none⟩)), (1, .int .i64 a1), (5, .int .i64 (wi (Int.tdiv a1 64))), (6, .int .i64 (wi (x6_l1 + r22))), (7, .int .i64 (wi (x7_l1 + 1)))]) (w' := w29) (by kernel_rfl) ?_
      refine WR.nil ?_
      have hS : Sat w29 (rf w0) [] := hS.sel [] (by kernel_rfl)
      refine At.again ?_
      refine WL.weaken [0, 1, 5, 6, 7] (L' := [(0, .pointer (some ⟨b4, 0, none⟩)), (1, .int .i64 a1), (5, .int .i64 (wi (Int.tdiv a1 64))), (6, .int .i64 (wi (x6_l1 + r22))), (7, .int .i64 (wi (x7_l1 + 1)))]) (by kernel_rfl) ?_
      exact ih (wi (x6_l1 + r22)) (wi (x7_l1 + 1)) _ hS H
    · replace H := ite_f H hb19
      refine WC.exit (by kernel_rfl) ?_
      refine At.thenExit ?_
      refine At.thenExit ?_
      obtain rfl := Option.some.inj H
      have hS : Sat w (rf w0) [] := hS.sel [] (by kernel_rfl)
      refine At.weaken [0, 1, 5, 6] (L' := [(0, .pointer (some ⟨b4, 0, none⟩)), (1, .int .i64 a1), (5, .int .i64 (wi (Int.tdiv a1 64))), (6, .int .i64 x6_l1)]) (by kernel_rfl) ?_
      exact hn0 _ hS
theorem rank_Vec_Rank.calls (w0 : World) (v0 : Value) (p0 : Option (Int × (List Int) × (List Int) × Int)) (R0 : rd (hp w0) (.ptr 68 (.pair (.int .i64) (.pair (.slice 43 (.int .u64)) (.pair (.slice 3 (.int .i64)) (.int .i64))))) [v0] p0) (a1 : Int) (r : Int) (H : rank_Vec_Rank.f p0 a1 = some r) :
    Calls Try.prog 41 #[v0, .int .i64 a1] w0 (fun e w' => ∃ v, e = .returned v ∧ rank_Vec_Rank.post w0 r v w') := by
  have hS : Sat w0 (rf w0) [] := Sat.start w0
  unfold rank_Vec_Rank.f at H
  refine calls_of_WC (vs := [v0, .int .i64 a1]) Try.func41 (c := C41) (n := 67) (by kernel_rfl) (by kernel_rfl) (by kernel_rfl) ?_
  refine WC.seq (by kernel_rfl) ?_
  refine WC.reg [0] (by kernel_rfl) (by kernel_rfl) ?_
  refine WR.runk [0] [] [0, 1] (L' := [(0, v0), (1, .int .i64 a1)]) (w' := w0) (by kernel_rfl) ?_
  refine WR.nil ?_
  refine At.go ?_
  refine WC.seq (by kernel_rfl) ?_
  refine WC.seq (by kernel_rfl) ?_
  refine WC.reg [0, 1, 2, 3, 4, 5] (by kernel_rfl) (by kernel_rfl) ?_
  refine WR.runk [0] [1, 2, 3, 4, 5] [0, 1, 8] (L' := [(0, v0), (1, .int .i64 a1), (8, v0)]) (w' := w0) (by kernel_rfl) ?_
  rcases opt_cases p0 with hr1 | ⟨y3, hr1⟩
  · rw [hr1] at H
    dsimp only at H
    have hx2 := rd_ptr_none R0 hr1
    try subst hx2
    refine WR.runk [1, 2, 3, 4, 5] [] [0, 1, 13] (L' := [(0, .pointer none), (1, .int .i64 a1), (13, .bool true)]) (w' := w0) (by kernel_rfl) ?_
    refine WR.nil ?_
    refine At.go ?_
    refine WC.condT (by kernel_rfl) (by kernel_rfl) (by kernel_rfl) ?_
    refine WC.seq (by kernel_rfl) ?_
    refine WC.reg [0] (by kernel_rfl) (by kernel_rfl) ?_
    refine WR.runk [0] [] [4] (L' := [(4, .int .i64 0)]) (w' := w0) (by kernel_rfl) ?_
    refine WR.nil ?_
    refine At.go ?_
    refine WC.ret (by kernel_rfl) ?_
    refine At.thenRet ?_
    obtain rfl := Option.some.inj H
    have hS : Sat w0 (rf w0) [] := hS.sel [] (by kernel_rfl)
    exact At.body [.int .i64 0] (by kernel_rfl) ⟨_, rfl, rfl, hS⟩
  · rw [hr1] at H
    dsimp only at H
    obtain ⟨b4, fr5, A9, c10, A12, c13, hv6, hb7, R11, R14⟩ := P68.open R0 hr1
    have R8 := R0
    rw [hv6, hr1] at R8
    try subst hv6
    replace R11 : rdS (r0 (.int .u64)) 1 (hp w0) A9 c10 y3.2.1 := R11
    replace R14 : rdS (r0 (.int .i64)) 1 (hp w0) A12 c13 y3.2.2.1 := R14
    refine WR.runk [1, 2, 3, 4, 5] [] [0, 1, 13] (L' := [(0, .pointer (some ⟨b4, 0, none⟩)), (1, .int .i64 a1), (13, .bool (decide (a1 ≤ 0)))]) (w' := w0) (by kernel_rfl) ?_
    refine WR.nil ?_
    refine At.go ?_
    refine WC.cond (by kernel_rfl) (decide (a1 ≤ 0)) (by kernel_rfl) (by kernel_rfl) (fun hb15 => ?_) (fun hb15 => ?_)
    · replace H := ite_t H hb15
      refine WC.seq (by kernel_rfl) ?_
      refine WC.reg [0] (by kernel_rfl) (by kernel_rfl) ?_
      refine WR.runk [0] [] [4] (L' := [(4, .int .i64 0)]) (w' := w0) (by kernel_rfl) ?_
      refine WR.nil ?_
      refine At.go ?_
      refine WC.ret (by kernel_rfl) ?_
      refine At.thenRet ?_
      obtain rfl := Option.some.inj H
      have hS : Sat w0 (rf w0) [] := hS.sel [] (by kernel_rfl)
      exact At.body [.int .i64 0] (by kernel_rfl) ⟨_, rfl, rfl, hS⟩
    · replace H := ite_f H hb15
      refine WC.skip (by kernel_rfl) ?_
      refine At.go ?_
      refine WC.seq (by kernel_rfl) ?_
      refine WC.seq (by kernel_rfl) ?_
      refine WC.reg [0, 1, 2, 3, 4, 5] (by kernel_rfl) (by kernel_rfl) ?_
      refine WR.runk [0, 1, 2, 3] [4, 5] [0, 1, 14, 17] (L' := [(0, .pointer (some ⟨b4, 0, none⟩)), (1, .int .i64 a1), (14, .int .i64 a1), (17, .pointer (some ⟨b4, 0, none⟩))]) (w' := w0) (by kernel_rfl) ?_
      refine WR.st (St.ofR (RSt.loadRo (t := 3) (k := 0) (v := .int .i64 y3.1) (.tmp 17) (by kernel_rfl) (by kernel_rfl) (by kernel_rfl) hS.sub0 hb7 (by kernel_rfl) rfl ?_))
      refine WR.runk [5] [] [0, 1, 19] (L' := [(0, .pointer (some ⟨b4, 0, none⟩)), (1, .int .i64 a1), (19, .bool (decide (a1 ≥ y3.1)))]) (w' := w0) (by kernel_rfl) ?_
      refine WR.nil ?_
      refine At.go ?_
      refine WC.cond (by kernel_rfl) (decide (a1 ≥ y3.1)) (by kernel_rfl) (by kernel_rfl) (fun hb16 => ?_) (fun hb16 => ?_)
      · replace H := ite_t H hb16
        refine WC.seq (by kernel_rfl) ?_
        refine WC.reg [0, 1, 2, 3, 4] (by kernel_rfl) (by kernel_rfl) ?_
        refine WR.runk [0, 1, 2] [3, 4] [22] (L' := [(22, .pointer (some ⟨b4, 3, none⟩))]) (w' := w0) (by kernel_rfl) ?_
        refine WR.st (St.ofR (RSt.loadRo (t := 3) (k := 3) (v := .int .i64 y3.2.2.2) (.tmp 22) (by kernel_rfl) (by kernel_rfl) (by kernel_rfl) hS.sub0 hb7 (by kernel_rfl) rfl ?_))
        refine WR.runk [4] [] [4] (L' := [(4, .int .i64 y3.2.2.2)]) (w' := w0) (by kernel_rfl) ?_
        refine WR.nil ?_
        refine At.go ?_
        refine WC.ret (by kernel_rfl) ?_
        refine At.thenRet ?_
        obtain rfl := Option.some.inj H
        have hS : Sat w0 (rf w0) [] := hS.sel [] (by kernel_rfl)
        exact At.body [.int .i64 y3.2.2.2] (by kernel_rfl) ⟨_, rfl, rfl, hS⟩
      · replace H := ite_f H hb16
        refine WC.skip (by kernel_rfl) ?_
        refine At.go ?_
        refine WC.seq (by kernel_rfl) ?_
        refine WC.reg [0, 1, 2] (by kernel_rfl) (by kernel_rfl) ?_
        refine WR.runk [0, 1, 2] [] [0, 1, 5] (L' := [(0, .pointer (some ⟨b4, 0, none⟩)), (1, .int .i64 a1), (5, .int .i64 (wi (Int.tdiv a1 64)))]) (w' := w0) (by kernel_rfl) ?_
        refine WR.nil ?_
        refine At.go ?_
        refine WC.seq (by kernel_rfl) ?_
        refine WC.reg [0, 1, 2, 3, 4, 5, 6, 7, 8] (by kernel_rfl) (by kernel_rfl) ?_
        refine WR.runk [0, 1, 2] [3, 4, 5, 6, 7, 8] [0, 1, 5, 28] (L' := [(0, .pointer (some ⟨b4, 0, none⟩)), (1, .int .i64 a1), (5, .int .i64 (wi (Int.tdiv a1 64))), (28, .pointer (some ⟨b4, 2, none⟩))]) (w' := w0) (by kernel_rfl) ?_
        refine WR.st (St.ofR (RSt.loadRo (t := 22) (k := 2) (v := .slice A12 y3.2.2.1.length c13) (.tmp 28) (by kernel_rfl) (by kernel_rfl) (by kernel_rfl) hS.sub0 hb7 (by kernel_rfl) rfl ?_))
        refine WR.runk [4, 5] [6, 7, 8] [0, 1, 5, 29, 31] (L' := [(0, .pointer (some ⟨b4, 0, none⟩)), (1, .int .i64 a1), (5, .int .i64 (wi (Int.tdiv a1 64))), (29, .slice A12 y3.2.2.1.length c13), (31, .int .i64 (wi (Int.tdiv (wi (Int.tdiv a1 64)) 8)))]) (w' := w0) (by kernel_rfl) ?_
        obtain ⟨v17, e18, H⟩ := bind_ex H
        refine WR.st (St.ofP (PSt.idx (k := .i64) (.tmp 29) (.tmp 31) (by kernel_rfl) (by kernel_rfl) E22 (by kernel_rfl) (by kernel_rfl) (rdS.up R14 hS.sub0) e18 ?_))
        refine WR.runk [] [7, 8] [0, 1, 5, 32] (L' := [(0, .pointer (some ⟨b4, 0, none⟩)), (1, .int .i64 a1), (5, .int .i64 (wi (Int.tdiv a1 64))), (32, .pointer (some (adr A12 (wi (Int.tdiv (wi (Int.tdiv a1 64)) 8)).toNat 1)))]) (w' := w0) (by kernel_rfl) ?_
        refine WR.st (St.ofR (RSt.loadInt (t := 3) (.tmp 32) (by kernel_rfl) (by kernel_rfl) (by kernel_rfl) (by kernel_rfl) (rdS.up R14 hS.sub0) e18 ?_))
        refine WR.runk [8] [] [0, 1, 5, 6] (L' := [(0, .pointer (some ⟨b4, 0, none⟩)), (1, .int .i64 a1), (5, .int .i64 (wi (Int.tdiv a1 64))), (6, .int .i64 v17)]) (w' := w0) (by kernel_rfl) ?_
        refine WR.nil ?_
        refine At.go ?_
        refine WC.seq (by kernel_rfl) ?_
        refine WC.seq (by kernel_rfl) ?_
        refine WC.reg [0, 1, 2, 3] (by kernel_rfl) (by kernel_rfl) ?_
        refine WR.runk [0, 1, 2, 3] [] [0, 1, 5, 6, 7] (L' := [(0, .pointer (some ⟨b4, 0, none⟩)), (1, .int .i64 a1), (5, .int .i64 (wi (Int.tdiv a1 64))), (6, .int .i64 v17), (7, .int .i64 (wi ((wi (Int.tdiv (wi (Int.tdiv a1 64)) 8)) * 8)))]) (w' := w0) (by kernel_rfl) ?_
        refine WR.nil ?_
        refine At.go ?_
        refine WC.block (by kernel_rfl) ?_
        have hS : Sat w0 (rf w0) [] := hS.sel [] (by kernel_rfl)
        obtain ⟨o31, e32, H⟩ := bind_ex H
        refine WC.loop (by kernel_rfl) ?_
        refine WL.weaken [0, 1, 5, 6, 7] (L' := [(0, .pointer (some ⟨b4, 0, none⟩)), (1, .int .i64 a1), (5, .int .i64 (wi (Int.tdiv a1 64))), (6, .int .i64 v17), (7, .int .i64 (wi ((wi (Int.tdiv (wi (Int.tdiv a1 64)) 8)) * 8)))]) (by kernel_rfl) ?_
        refine rank_Vec_Rank.l1_ok w0 a1 y3 b4 fr5 A9 c10 A12 c13 R11 hb7 o31 (fun w34 hS => ?_) FU v17 (wi ((wi (Int.tdiv (wi (Int.tdiv a1 64)) 8)) * 8)) _ hS e32
        refine At.hit ?_
        refine At.go ?_
        refine WC.seq (by kernel_rfl) ?_
        refine WC.drawn (by kernel_rfl) (by kernel_rfl) 16 (by kernel_rfl) (fun w36 hw37 => ?_)
        have hS := hS.heap hw37.1 hw37.2
        refine WD.weaken [0, 1, 5, 6] (L' := [(0, .pointer (some ⟨b4, 0, none⟩)), (1, .int .i64 a1), (5, .int .i64 (wi (Int.tdiv a1 64))), (6, .int .i64 o31)]) (by kernel_rfl) ?_
        refine WD.pure (i := 0) (v := .int .i64 o31) (by kernel_rfl) (by kernel_rfl) (fun _ => by kernel_rfl) ?_
        refine WD.weaken [0, 1, 5, 52] (L' := [(0, .pointer (some ⟨b4, 0, none⟩)), (1, .int .i64 a1), (5, .int .i64 (wi (Int.tdiv a1 64))), (52, .int .i64 o31)]) (by kernel_rfl) ?_
        refine WD.pure (i := 1) (v := .pointer (some ⟨b4, 0, none⟩)) (by kernel_rfl) (by kernel_rfl) (fun _ => by kernel_rfl) ?_
        refine WD.weaken [1, 5, 52, 53] (L' := [(1, .int .i64 a1), (5, .int .i64 (wi (Int.tdiv a1 64))), (52, .int .i64 o31), (53, .pointer (some ⟨b4, 0, none⟩))]) (by kernel_rfl) ?_
        refine WD.pure (i := 2) (v := .pointer (some ⟨b4, 0, none⟩)) (by kernel_rfl) (by kernel_rfl) (fun _ => by kernel_rfl) ?_
        refine WD.weaken [1, 5, 52, 54] (L' := [(1, .int .i64 a1), (5, .int .i64 (wi (Int.tdiv a1 64))), (52, .int .i64 o31), (54, .pointer (some ⟨b4, 0, none⟩))]) (by kernel_rfl) ?_
        refine WD.pure (i := 3) (v := .pointer (some ⟨b4, 1, none⟩)) (by kernel_rfl) (by kernel_rfl) (fun _ => by kernel_rfl) ?_
        refine WD.weaken [1, 5, 52, 55] (L' := [(1, .int .i64 a1), (5, .int .i64 (wi (Int.tdiv a1 64))), (52, .int .i64 o31), (55, .pointer (some ⟨b4, 1, none⟩))]) (by kernel_rfl) ?_
        refine WD.ofR (i := 4) (by kernel_rfl) (RSt.loadRo (t := 35) (k := 1) (v := .slice A9 y3.2.1.length c10) (.tmp 55) (by kernel_rfl) (by kernel_rfl) (by kernel_rfl) hS.sub0 hb7 (by kernel_rfl) rfl ?_)
        refine WD.weaken [1, 5, 52, 56] (L' := [(1, .int .i64 a1), (5, .int .i64 (wi (Int.tdiv a1 64))), (52, .int .i64 o31), (56, .slice A9 y3.2.1.length c10)]) (by kernel_rfl) ?_
        refine WD.pure (i := 5) (v := .int .i64 (wi (Int.tdiv a1 64))) (by kernel_rfl) (by kernel_rfl) (fun _ => by kernel_rfl) ?_
        refine WD.weaken [1, 52, 56, 57] (L' := [(1, .int .i64 a1), (52, .int .i64 o31), (56, .slice A9 y3.2.1.length c10), (57, .int .i64 (wi (Int.tdiv a1 64)))]) (by kernel_rfl) ?_
        obtain ⟨v38, e39, H⟩ := bind_ex H
        refine WD.ofP (i := 6) (by kernel_rfl) (PSt.idx (k := .i64) (.tmp 56) (.tmp 57) (by kernel_rfl) (by kernel_rfl) E35 (by kernel_rfl) (by kernel_rfl) (rdS.up R11 hS.sub0) e39 ?_)
        refine WD.weaken [1, 52, 58] (L' := [(1, .int .i64 a1), (52, .int .i64 o31), (58, .pointer (some (adr A9 (wi (Int.tdiv a1 64)).toNat 1)))]) (by kernel_rfl) ?_
        refine WD.ofR (i := 7) (by kernel_rfl) (RSt.loadInt (t := 43) (.tmp 58) (by kernel_rfl) (by kernel_rfl) (by kernel_rfl) (by kernel_rfl) (rdS.up R11 hS.sub0) e39 ?_)
        refine WD.weaken [1, 52, 59] (L' := [(1, .int .i64 a1), (52, .int .i64 o31), (59, .int .u64 v38)]) (by kernel_rfl) ?_
        refine WD.pure (i := 8) (v := .int .i64 a1) (by kernel_rfl) (by kernel_rfl) (fun _ => by kernel_rfl) ?_
        refine WD.weaken [52, 59, 60] (L' := [(52, .int .i64 o31), (59, .int .u64 v38), (60, .int .i64 a1)]) (by kernel_rfl) ?_
        refine WD.pure (i := 9) (v := .int .i64 (Int.tmod a1 64)) (by kernel_rfl) (by kernel_rfl) (fun _ => by kernel_rfl) ?_
        refine WD.weaken [52, 59, 61] (L' := [(52, .int .i64 o31), (59, .int .u64 v38), (61, .int .i64 (Int.tmod a1 64))]) (by kernel_rfl) ?_
        obtain ⟨_, e40, H⟩ := bind_ex H
        refine WD.ofP (i := 10) (by kernel_rfl) (PSt.shift (k := .u64) (k2 := .i64) (t := 43) (t2 := 3) (a := 1) (b := (Int.tmod a1 64)) .shl (by decide) (.const (.int .u64 1)) (.tmp 61) (by kernel_rfl) (by kernel_rfl) (by kernel_rfl) (by kernel_rfl) (of_decide_eq_true (chk?_some e40)) ?_)
        refine WD.weaken [52, 59, 62] (L' := [(52, .int .i64 o31), (59, .int .u64 v38), (62, .int .u64 (ishl .u64 1 (Int.tmod a1 64)))]) (by kernel_rfl) ?_
        refine WD.pure (i := 11) (v := .int .u64 (IntKind.wrap .u64 ((ishl .u64 1 (Int.tmod a1 64)) - 1))) (by kernel_rfl) (by kernel_rfl) (fun _ => by kernel_rfl) ?_
        refine WD.weaken [52, 59, 63] (L' := [(52, .int .i64 o31), (59, .int .u64 v38), (63, .int .u64 (IntKind.wrap .u64 ((ishl .u64 1 (Int.tmod a1 64)) - 1)))]) (by kernel_rfl) ?_
        refine WD.pure (i := 12) (v := .int .u64 (iand .u64 v38 (IntKind.wrap .u64 ((ishl .u64 1 (Int.tmod a1 64)) - 1)))) (by kernel_rfl) (by kernel_rfl) (fun _ => by kernel_rfl) ?_
        refine WD.weaken [52, 64] (L' := [(52, .int .i64 o31), (64, .int .u64 (iand .u64 v38 (IntKind.wrap .u64 ((ishl .u64 1 (Int.tmod a1 64)) - 1))))]) (by kernel_rfl) ?_
        obtain ⟨r41, e42, H⟩ := bind_ex H
        refine WD.act (i := 13) (by kernel_rfl) (St.call (by kernel_rfl) (f := 38) (args := #[.int .u64 (iand .u64 v38 (IntKind.wrap .u64 ((ishl .u64 1 (Int.tmod a1 64)) - 1)))]) (by kernel_rfl) (bits_OnesCount64.calls w36 (iand .u64 v38 (IntKind.wrap .u64 ((ishl .u64 1 (Int.tmod a1 64)) - 1))) r41 e42) ?_)
        rintro _ w48 ⟨rfl, hS49⟩
        have hS : Sat w48 (rf w0) [] := hS.ext hS49
        refine ⟨(asked.anc (by kernel_rfl) (asked.anc (by kernel_rfl) (asked.nil _ _))), ?_⟩
        refine WD.weaken [52, 65] (L' := [(52, .int .i64 o31), (65, .int .i64 r41)]) (by kernel_rfl) ?_
        refine WD.pure (i := 14) (v := .int .i64 (wi (o31 + r41))) (by kernel_rfl) (by kernel_rfl) (fun _ => by kernel_rfl) ?_
        refine WD.weaken [66] (L' := [(66, .int .i64 (wi (o31 + r41)))]) (by kernel_rfl) ?_
        refine WD.pure (i := 15) (v := .int .i64 (wi (o31 + r41))) (by kernel_rfl) (by kernel_rfl) (fun _ => by kernel_rfl) ?_
        refine WD.weaken [4] (L' := [(4, .int .i64 (wi (o31 + r41)))]) (by kernel_rfl) ?_
        refine WD.nil (by kernel_rfl) ?_
        refine At.go ?_
        refine WC.ret (by kernel_rfl) ?_
        obtain rfl := Option.some.inj H
        have hS : Sat w48 (rf w0) [] := hS.sel [] (by kernel_rfl)
        exact At.body [.int .i64 (wi (o31 + r41))] (by kernel_rfl) ⟨_, rfl, rfl, hS⟩
/-! ### 25 (*colophon/rank.Vec).Select -/
def rank_Vec_Select.l1 (a1 : Int) (y20 : Int × (List Int) × (List Int) × Int) : Nat → Int → Int → Option Int
  | 0, _, _ => none
  | k + 1, x5_l1, x6_l1 => (if decide (x5_l1 < x6_l1) then ((rank_Vec_Rank.f (some y20) (wi ((wi (ishr .u64 (IntKind.wrap .u64 (wi (x5_l1 + x6_l1))) 1)) + 1))).bind fun r35 => (if (!(decide (r35 > a1))) then rank_Vec_Select.l1 a1 y20 k (wi ((wi (ishr .u64 (IntKind.wrap .u64 (wi (x5_l1 + x6_l1))) 1)) + 1)) x6_l1 else rank_Vec_Select.l1 a1 y20 k x5_l1 (wi (ishr .u64 (IntKind.wrap .u64 (wi (x5_l1 + x6_l1))) 1)))) else some x5_l1)
def rank_Vec_Select.f (p0 : Option (Int × (List Int) × (List Int) × Int)) (a1 : Int) : Option Int := ((rank_Vec_Ones.f p0).bind fun r1 => (if decide (a1 < 0) then some (-1) else (if decide (a1 ≥ r1) then some (-1) else (p0.bind fun y20 => ((rank_Vec_Select.l1 a1 y20 FU 0 y20.1).bind fun o45 => some o45)))))
def rank_Vec_Select.post (w : World) (r : Int) (v : Value) (w' : World) : Prop := v = (.int .i64 r : Value) ∧ Sat w' (rf w) []
theorem rank_Vec_Select.l1_ok {Q} (w0 : World) (a1 : Int) (b10 : Nat) (b13 : Nat) (y20 : Int × (List Int) × (List Int) × Int) (b21 : Nat) (R25 : rd (hp w0) (.ptr 68 (.pair (.int .i64) (.pair (.slice 43 (.int .u64)) (.pair (.slice 3 (.int .i64)) (.int .i64))))) [.pointer (some ⟨b21, 0, none⟩)] (some y20)) (out : Int) (hn0 : ∀ (w : World), Sat w (rf w0) [pts b13 (.cells #[.func (.func 41) #[.pointer (some ⟨b21, 0, none⟩)] #[]] 31 (0, 0)), pts b10 (.cells #[.int .i64 a1] 3 (0, 0))] → At Q (.exit 0) 26 [(5, .int .i64 out)] w) :
    ∀ (k : Nat) (x5_l1 : Int) (x6_l1 : Int) (w : World), Sat w (rf w0) [pts b13 (.cells #[.func (.func 41) #[.pointer (some ⟨b21, 0, none⟩)] #[]] 31 (0, 0)), pts b10 (.cells #[.int .i64 a1] 3 (0, 0))] → rank_Vec_Select.l1 a1 y20 k x5_l1 x6_l1 = some out → WL Try.prog (cbody (cbody (cl (cr (cr C44))))) Q 26 [(1, .func (.func 45) #[] #[.pointer (some ⟨b13, 0, none⟩), .pointer (some ⟨b10, 0, none⟩)]), (5, .int .i64 x5_l1), (6, .int .i64 x6_l1)] w := by
  intro k
  induction k with
  | zero => intro x5_l1 x6_l1 w hS H; exact absurd (show none = some out from H) (by simp)
  | succ k ih =>
    intro x5_l1 x6_l1 w hS H
    unfold rank_Vec_Select.l1 at H
    refine WL.round ?_
    refine WC.seq (by kernel_rfl) ?_
    refine WC.seq (by kernel_rfl) ?_
    refine WC.reg [0, 1, 2] (by kernel_rfl) (by kernel_rfl) ?_
    refine WR.runk [0, 1, 2] [] [1, 5, 6, 11] (L' := [(1, .func (.func 45) #[] #[.pointer (some ⟨b13, 0, none⟩), .pointer (some ⟨b10, 0, none⟩)]), (5, .int .i64 x5_l1), (6, .int .i64 x6_l1), (11, .bool (decide (x5_l1 < x6_l1)))]) (w' := w) (by kernel_rfl) ?_
    refine WR.nil ?_
    refine At.go ?_
    refine WC.cond (by kernel_rfl) (decide (x5_l1 < x6_l1)) (by kernel_rfl) (by kernel_rfl) (fun hb32 => ?_) (fun hb32 => ?_)
    · replace H := ite_t H hb32
      refine WC.skip (by kernel_rfl) ?_
      refine At.go ?_
      refine WC.block (by kernel_rfl) ?_
      refine WC.seq (by kernel_rfl) ?_
      refine WC.reg [0, 1, 2, 3, 4, 5, 6] (by kernel_rfl) (by kernel_rfl) ?_
      refine WR.runk [0, 1, 2, 3, 4, 5, 6] [] [1, 5, 6, 7] (L' := [(1, .func (.func 45) #[] #[.pointer (some ⟨b13, 0, none⟩), .pointer (some ⟨b10, 0, none⟩)]), (5, .int .i64 x5_l1), (6, .int .i64 x6_l1), (7, .int .i64 (wi (ishr .u64 (IntKind.wrap .u64 (wi (x5_l1 + x6_l1))) 1)))]) (w' := w) (by kernel_rfl) ?_
      refine WR.nil ?_
      refine At.go ?_
      refine WC.seq (by kernel_rfl) ?_
      refine WC.reg [0, 1, 2, 3] (by kernel_rfl) (by kernel_rfl) ?_
      refine WR.runk [0, 1] [2, 3] [1, 5, 6, 7, 18, 19] (L' := [(1, .func (.func 45) #[] #[.pointer (some ⟨b13, 0, none⟩), .pointer (some ⟨b10, 0, none⟩)]), (5, .int .i64 x5_l1), (6, .int .i64 x6_l1), (7, .int .i64 (wi (ishr .u64 (IntKind.wrap .u64 (wi (x5_l1 + x6_l1))) 1))), (18, .func (.func 45) #[] #[.pointer (some ⟨b13, 0, none⟩), .pointer (some ⟨b10, 0, none⟩)]), (19, .int .i64 (wi (ishr .u64 (IntKind.wrap .u64 (wi (x5_l1 + x6_l1))) 1)))]) (w' := w) (by kernel_rfl) ?_
      refine WR.st (St.call (by kernel_rfl) (f := 45) (args := #[.int .i64 (wi (ishr .u64 (IntKind.wrap .u64 (wi (x5_l1 + x6_l1))) 1)), .pointer (some ⟨b13, 0, none⟩), .pointer (some ⟨b10, 0, none⟩)]) (by kernel_rfl) (calls_of_WC (vs := [.int .i64 (wi (ishr .u64 (IntKind.wrap .u64 (wi (x5_l1 + x6_l1))) 1)), .pointer (some ⟨b13, 0, none⟩), .pointer (some ⟨b10, 0, none⟩)]) Try.func45 (c := C45) (n := 11) (by kernel_rfl) (by kernel_rfl) (by kernel_rfl) ?_) (fun _ _ h => h))
      refine WC.seq (by kernel_rfl) ?_
      refine WC.reg [0] (by kernel_rfl) (by kernel_rfl) ?_
      refine WR.runk [0] [] [0, 1, 2] (L' := [(0, .int .i64 (wi (ishr .u64 (IntKind.wrap .u64 (wi (x5_l1 + x6_l1))) 1))), (1, .pointer (some ⟨b13, 0, none⟩)), (2, .pointer (some ⟨b10, 0, none⟩))]) (w' := w) (by kernel_rfl) ?_
      refine WR.nil ?_
      refine At.go ?_
      refine WC.seq (by kernel_rfl) ?_
      refine WC.drawn (by kernel_rfl) (by kernel_rfl) 7 (by kernel_rfl) (fun w33 hw34 => ?_)
      have hS := hS.heap hw34.1 hw34.2
      refine WD.weaken [0, 1, 2] (L' := [(0, .int .i64 (wi (ishr .u64 (IntKind.wrap .u64 (wi (x5_l1 + x6_l1))) 1))), (1, .pointer (some ⟨b13, 0, none⟩)), (2, .pointer (some ⟨b10, 0, none⟩))]) (by kernel_rfl) ?_
      refine WD.ofR (i := 0) (by kernel_rfl) (RSt.loadObj (t := 31) (k := 0) (v := .func (.func 41) #[.pointer (some ⟨b21, 0, none⟩)] #[]) (.tmp 1) (by kernel_rfl) (by kernel_rfl) (by kernel_rfl) 0 hS rfl (by kernel_rfl) rfl ?_)
      refine WD.weaken [0, 2, 5] (L' := [(0, .int .i64 (wi (ishr .u64 (IntKind.wrap .u64 (wi (x5_l1 + x6_l1))) 1))), (2, .pointer (some ⟨b10, 0, none⟩)), (5, .func (.func 41) #[.pointer (some ⟨b21, 0, none⟩)] #[])]) (by kernel_rfl) ?_
      refine WD.pure (i := 1) (v := .int .i64 (wi (ishr .u64 (IntKind.wrap .u64 (wi (x5_l1 + x6_l1))) 1))) (by kernel_rfl) (by kernel_rfl) (fun _ => by kernel_rfl) ?_
      refine WD.weaken [2, 5, 6] (L' := [(2, .pointer (some ⟨b10, 0, none⟩)), (5, .func (.func 41) #[.pointer (some ⟨b21, 0, none⟩)] #[]), (6, .int .i64 (wi (ishr .u64 (IntKind.wrap .u64 (wi (x5_l1 + x6_l1))) 1)))]) (by kernel_rfl) ?_
      refine WD.pure (i := 2) (v := .int .i64 (wi ((wi (ishr .u64 (IntKind.wrap .u64 (wi (x5_l1 + x6_l1))) 1)) + 1))) (by kernel_rfl) (by kernel_rfl) (fun _ => by kernel_rfl) ?_
      refine WD.weaken [2, 5, 7] (L' := [(2, .pointer (some ⟨b10, 0, none⟩)), (5, .func (.func 41) #[.pointer (some ⟨b21, 0, none⟩)] #[]), (7, .int .i64 (wi ((wi (ishr .u64 (IntKind.wrap .u64 (wi (x5_l1 + x6_l1))) 1)) + 1)))]) (by kernel_rfl) ?_
      refine WD.ofR (i := 4) (by kernel_rfl) (RSt.loadObj (t := 3) (k := 0) (v := .int .i64 a1) (.tmp 2) (by kernel_rfl) (by kernel_rfl) (by kernel_rfl) 1 hS rfl (by kernel_rfl) rfl ?_)
      refine WD.weaken [5, 7, 9] (L' := [(5, .func (.func 41) #[.pointer (some ⟨b21, 0, none⟩)] #[]), (7, .int .i64 (wi ((wi (ishr .u64 (IntKind.wrap .u64 (wi (x5_l1 + x6_l1))) 1)) + 1))), (9, .int .i64 a1)]) (by kernel_rfl) ?_
      obtain ⟨r35, e36, H⟩ := bind_ex H
      refine WD.act (i := 3) (by kernel_rfl) (St.call (by kernel_rfl) (f := 41) (args := #[.pointer (some ⟨b21, 0, none⟩), .int .i64 (wi ((wi (ishr .u64 (IntKind.wrap .u64 (wi (x5_l1 + x6_l1))) 1)) + 1))]) (by kernel_rfl) (rank_Vec_Rank.calls w33 (.pointer (some ⟨b21, 0, none⟩)) (some y20) (rd.mono hS.sub0 _ _ _ R25) (wi ((wi (ishr .u64 (IntKind.wrap .u64 (wi (x5_l1 + x6_l1))) 1)) + 1)) r35 e36) ?_)
      rintro _ w42 ⟨rfl, hS43⟩
      have hS : Sat w42 (rf w0) [pts b13 (.cells #[.func (.func 41) #[.pointer (some ⟨b21, 0, none⟩)] #[]] 31 (0, 0)), pts b10 (.cells #[.int .i64 a1] 3 (0, 0))] := hS.ext hS43
      refine ⟨(asked.cons (RSt.run (n := 11) (RSt.loadObj (t := 3) (k := 0) (v := .int .i64 a1) (.tmp 2) (by kernel_rfl) (by kernel_rfl) (by kernel_rfl) 1 hS rfl (by kernel_rfl) rfl rfl)) (asked.anc (by kernel_rfl) (asked.nil _ _))), ?_⟩
      refine WD.weaken [8, 9] (L' := [(8, .int .i64 r35), (9, .int .i64 a1)]) (by kernel_rfl) ?_
      refine WD.pure (i := 5) (v := .bool (decide (r35 > a1))) (by kernel_rfl) (by kernel_rfl) (fun _ => by kernel_rfl) ?_
      refine WD.weaken [10] (L' := [(10, .bool (decide (r35 > a1)))]) (by kernel_rfl) ?_
      refine WD.pure (i := 6) (v := .bool (decide (r35 > a1))) (by kernel_rfl) (by kernel_rfl) (fun _ => by kernel_rfl) ?_
      refine WD.weaken [4] (L' := [(4, .bool (decide (r35 > a1)))]) (by kernel_rfl) ?_
      refine WD.nil (by kernel_rfl) ?_
      refine At.go ?_
      refine WC.ret (by kernel_rfl) ?_
      refine At.bodyK [.bool (decide (r35 > a1))] (.bool (decide (r35 > a1))) (by kernel_rfl) rfl ?_
      refine WR.runk [3] [] [1, 5, 6, 7, 21] (L' := [(1, .func (.func 45) #[] #[.pointer (some ⟨b13, 0, none⟩), .pointer (some ⟨b10, 0, none⟩)]), (5, .int .i64 x5_l1), (6, .int .i64 x6_l1), (7, .int .i64 (wi (ishr .u64 (IntKind.wrap .u64 (wi (x5_l1 + x6_l1))) 1))), (21, .bool (!(decide (r35 > a1))))]) (w' := w42) (by kernel_rfl) ?_
      refine WR.nil ?_
      refine At.go ?_
      refine WC.cond (by kernel_rfl) (!(decide (r35 > a1))) (by kernel_rfl) (by kernel_rfl) (fun hb44 => ?_) (fun hb44 => ?_)
      · replace H := ite_t H hb44
        refine WC.reg [0, 1, 2] (by kernel_rfl) (by kernel_rfl) ?_
        refine WR.runk [0, 1, 2] [] [1, 5, 6] (L' := [(1, .func (.func 45) #[] #[.pointer (some ⟨b13, 0, none⟩), .pointer (some ⟨b10, 0, none⟩)]), (5, .int .i64 (wi ((wi (ishr .u64 (IntKind.wrap .u64 (wi (x5_l1 + x6_l1))) 1)) + 1))), (6, .int .i64 x6_l1)]) (w' := w42) (by kernel_rfl) ?_
        refine WR.nil ?_
        refine At.blockNormal ?_
        have hS : Sat w42 (rf w0) [pts b13 (.cells #[.func (.func 41) #[.pointer (some ⟨b21, 0, none⟩)] #[]] 31 (0, 0)), pts b10 (.cells #[.int .i64 a1] 3 (0, 0))] := hS.sel [0, 1] (by kernel_rfl)
        refine At.again ?_
        refine WL.weaken [1, 5, 6] (L' := [(1, .func (.func 45) #[] #[.pointer (some ⟨b13, 0, none⟩), .pointer (some ⟨b10, 0, none⟩)]), (5, .int .i64 (wi ((wi (ishr .u64 (IntKind.wrap .u64 (wi (x5_l1 + x6_l1))) 1)) + 1))), (6, .int .i64 x6_l1)]) (by kernel_rfl) ?_
        exact ih (wi ((wi (ishr .u64 (IntKind.wrap .u64 (wi (x5_l1 + x6_l1))) 1)) + 1)) x6_l1 _ hS H
      · replace H := ite_f H hb44
        refine WC.reg [0, 1] (by kernel_rfl) (by kernel_rfl) ?_
        refine WR.runk [0, 1] [] [1, 5, 6] (L' := [(1, .func (.func 45) #[] #[.pointer (some ⟨b13, 0, none⟩), .pointer (some ⟨b10, 0, none⟩)]), (5, .int .i64 x5_l1), (6, .int .i64 (wi (ishr .u64 (IntKind.wrap .u64 (wi (x5_l1 + x6_l1))) 1)))]) (w' := w42) (by kernel_rfl) ?_
        refine WR.nil ?_
        refine At.blockNormal ?_
        have hS : Sat w42 (rf w0) [pts b13 (.cells #[.func (.func 41) #[.pointer (some ⟨b21, 0, none⟩)] #[]] 31 (0, 0)), pts b10 (.cells #[.int .i64 a1] 3 (0, 0))] := hS.sel [0, 1] (by kernel_rfl)
        refine At.again ?_
        refine WL.weaken [1, 5, 6] (L' := [(1, .func (.func 45) #[] #[.pointer (some ⟨b13, 0, none⟩), .pointer (some ⟨b10, 0, none⟩)]), (5, .int .i64 x5_l1), (6, .int .i64 (wi (ishr .u64 (IntKind.wrap .u64 (wi (x5_l1 + x6_l1))) 1)))]) (by kernel_rfl) ?_
        exact ih x5_l1 (wi (ishr .u64 (IntKind.wrap .u64 (wi (x5_l1 + x6_l1))) 1)) _ hS H
    · replace H := ite_f H hb32
      refine WC.exit (by kernel_rfl) ?_
      refine At.thenExit ?_
      refine At.thenExit ?_
      obtain rfl := Option.some.inj H
      have hS : Sat w (rf w0) [pts b13 (.cells #[.func (.func 41) #[.pointer (some ⟨b21, 0, none⟩)] #[]] 31 (0, 0)), pts b10 (.cells #[.int .i64 a1] 3 (0, 0))] := hS.sel [0, 1] (by kernel_rfl)
      refine At.weaken [5] (L' := [(5, .int .i64 x5_l1)]) (by kernel_rfl) ?_
      exact hn0 _ hS
theorem rank_Vec_Select.calls (w0 : World) (v0 : Value) (p0 : Option (Int × (List Int) × (List Int) × Int)) (R0 : rd (hp w0) (.ptr 68 (.pair (.int .i64) (.pair (.slice 43 (.int .u64)) (.pair (.slice 3 (.int .i64)) (.int .i64))))) [v0] p0) (a1 : Int) (r : Int) (H : rank_Vec_Select.f p0 a1 = some r) :
    Calls Try.prog 25 #[v0, .int .i64 a1] w0 (fun e w' => ∃ v, e = .returned v ∧ rank_Vec_Select.post w0 r v w') := by
  have hS : Sat w0 (rf w0) [] := Sat.start w0
  unfold rank_Vec_Select.f at H
  refine calls_of_WC (vs := [v0, .int .i64 a1]) Try.func25 (c := C25) (n := 12) (by kernel_rfl) (by kernel_rfl) (by kernel_rfl) ?_
  refine WC.seq (by kernel_rfl) ?_
  refine WC.reg [0] (by kernel_rfl) (by kernel_rfl) ?_
  refine WR.runk [0] [] [0, 1] (L' := [(0, v0), (1, .int .i64 a1)]) (w' := w0) (by kernel_rfl) ?_
  refine WR.nil ?_
  refine At.go ?_
  refine WC.seq (by kernel_rfl) ?_
  refine WC.reg [0, 1, 2, 3, 4, 5, 6, 7] (by kernel_rfl) (by kernel_rfl) ?_
  refine WR.runk [0, 1, 2] [3, 4, 5, 6, 7] [0, 5, 6, 7] (L' := [(0, v0), (5, v0), (6, .int .i64 a1), (7, v0)]) (w' := w0) (by kernel_rfl) ?_
  obtain ⟨r1, e2, H⟩ := bind_ex H
  refine WR.st (St.call (by kernel_rfl) (f := 40) (args := #[v0]) (by kernel_rfl) (rank_Vec_Ones.calls w0 (v0) p0 (rd.mono hS.sub0 _ _ _ R0) r1 e2) ?_)
  rintro _ w8 ⟨rfl, hS9⟩
  have hS : Sat w8 (rf w0) [] := hS.ext hS9
  refine WR.runk [4, 5] [6, 7] [5, 6, 8, 10] (L' := [(5, v0), (6, .int .i64 a1), (8, .int .i64 r1), (10, .func (.func 41) #[v0] #[])]) (w' := w8) (by kernel_rfl) ?_
  refine WR.st (St.call (by kernel_rfl) (f := 39) (args := #[v0, .int .i64 a1, .int .i64 r1, .func (.func 41) #[v0] #[]]) (by kernel_rfl) (calls_of_WC (vs := [v0, .int .i64 a1, .int .i64 r1, .func (.func 41) #[v0] #[]]) Try.func39 (c := C39) (n := 22) (by kernel_rfl) (by kernel_rfl) (by kernel_rfl) ?_) (fun _ _ h => h))
  refine WC.seq (by kernel_rfl) ?_
  refine WC.reg [0, 1, 2] (by kernel_rfl) (by kernel_rfl) ?_
  refine WR.runk [] [0, 1, 2] [0, 1, 2, 3] (L' := [(0, v0), (1, .int .i64 a1), (2, .int .i64 r1), (3, .func (.func 41) #[v0] #[])]) (w' := w8) (by kernel_rfl) ?_
  refine WR.st (St.box hS (by kernel_rfl) (.cells #[.int .i64 a1] 3) (fun b10 => .pointer (some ⟨b10, 0, none⟩)) (fun _ => by kernel_rfl) (fun b10 w11 hS => ?_))
  refine WR.runk [] [1, 2] [0, 2, 3, 5] (L' := [(0, v0), (2, .int .i64 r1), (3, .func (.func 41) #[v0] #[]), (5, .pointer (some ⟨b10, 0, none⟩))]) (w' := w11) (by kernel_rfl) ?_
  refine WR.st (St.box hS (by kernel_rfl) (.cells #[.func (.func 41) #[v0] #[]] 31) (fun b13 => .pointer (some ⟨b13, 0, none⟩)) (fun _ => by kernel_rfl) (fun b13 w14 hS => ?_))
  refine WR.runk [2] [] [0, 2, 5, 7] (L' := [(0, v0), (2, .int .i64 r1), (5, .pointer (some ⟨b10, 0, none⟩)), (7, .pointer (some ⟨b13, 0, none⟩))]) (w' := w14) (by kernel_rfl) ?_
  refine WR.nil ?_
  refine At.go ?_
  refine WC.seq (by kernel_rfl) ?_
  refine WC.seq (by kernel_rfl) ?_
  refine WC.reg [0, 1, 2, 3, 4, 5, 6] (by kernel_rfl) (by kernel_rfl) ?_
  refine WR.st (St.ofR (RSt.loadObj (t := 3) (k := 0) (v := .int .i64 a1) (.tmp 5) (by kernel_rfl) (by kernel_rfl) (by kernel_rfl) 1 hS rfl (by kernel_rfl) rfl ?_))
  refine WR.runk [1, 2] [3, 4, 5, 6] [0, 2, 5, 7, 11] (L' := [(0, v0), (2, .int .i64 r1), (5, .pointer (some ⟨b10, 0, none⟩)), (7, .pointer (some ⟨b13, 0, none⟩)), (11, .bool (decide (a1 < 0)))]) (w' := w14) (by kernel_rfl) ?_
  refine WR.split 11 (b := decide (a1 < 0)) (by kernel_rfl) (fun hb16 => ?_) (fun hb16 => ?_)
  · replace H := ite_t H hb16
    refine WR.runk [3, 4, 5, 6] [] [0, 5, 7, 15] (L' := [(0, v0), (5, .pointer (some ⟨b10, 0, none⟩)), (7, .pointer (some ⟨b13, 0, none⟩)), (15, .bool true)]) (w' := w14) (by kernel_rfl) ?_
    refine WR.nil ?_
    refine At.go ?_
    refine WC.condT (by kernel_rfl) (by kernel_rfl) (by kernel_rfl) ?_
    refine WC.seq (by kernel_rfl) ?_
    refine WC.reg [0] (by kernel_rfl) (by kernel_rfl) ?_
    refine WR.runk [0] [] [8] (L' := [(8, .int .i64 (-1))]) (w' := w14) (by kernel_rfl) ?_
    refine WR.nil ?_
    refine At.go ?_
    refine WC.ret (by kernel_rfl) ?_
    refine At.thenRet ?_
    refine At.bodyK [.int .i64 (-1)] (.int .i64 (-1)) (by kernel_rfl) rfl ?_
    refine WR.runk [7] [] [4] (L' := [(4, .int .i64 (-1))]) (w' := w14) (by kernel_rfl) ?_
    refine WR.nil ?_
    refine At.go ?_
    refine WC.ret (by kernel_rfl) ?_
    obtain rfl := Option.some.inj H
    have hS : Sat w14 (rf w0) [] := hS.sel [] (by kernel_rfl)
    exact At.body [.int .i64 (-1)] (by kernel_rfl) ⟨_, rfl, rfl, hS⟩
  · replace H := ite_f H hb16
    refine WR.runk [] [3, 4, 5, 6] [0, 2, 5, 7, 11] (L' := [(0, v0), (2, .int .i64 r1), (5, .pointer (some ⟨b10, 0, none⟩)), (7, .pointer (some ⟨b13, 0, none⟩)), (11, .bool false)]) (w' := w14) (by kernel_rfl) ?_
    refine WR.st (St.ofR (RSt.loadObj (t := 3) (k := 0) (v := .int .i64 a1) (.tmp 5) (by kernel_rfl) (by kernel_rfl) (by kernel_rfl) 1 hS rfl (by kernel_rfl) rfl ?_))
    refine WR.runk [4, 5, 6] [] [0, 5, 7, 15] (L' := [(0, v0), (5, .pointer (some ⟨b10, 0, none⟩)), (7, .pointer (some ⟨b13, 0, none⟩)), (15, .bool (decide (a1 ≥ r1)))]) (w' := w14) (by kernel_rfl) ?_
    refine WR.nil ?_
    refine At.go ?_
    refine WC.cond (by kernel_rfl) (decide (a1 ≥ r1)) (by kernel_rfl) (by kernel_rfl) (fun hb17 => ?_) (fun hb17 => ?_)
    · replace H := ite_t H hb17
      refine WC.seq (by kernel_rfl) ?_
      refine WC.reg [0] (by kernel_rfl) (by kernel_rfl) ?_
      refine WR.runk [0] [] [8] (L' := [(8, .int .i64 (-1))]) (w' := w14) (by kernel_rfl) ?_
      refine WR.nil ?_
      refine At.go ?_
      refine WC.ret (by kernel_rfl) ?_
      refine At.thenRet ?_
      refine At.bodyK [.int .i64 (-1)] (.int .i64 (-1)) (by kernel_rfl) rfl ?_
      refine WR.runk [7] [] [4] (L' := [(4, .int .i64 (-1))]) (w' := w14) (by kernel_rfl) ?_
      refine WR.nil ?_
      refine At.go ?_
      refine WC.ret (by kernel_rfl) ?_
      obtain rfl := Option.some.inj H
      have hS : Sat w14 (rf w0) [] := hS.sel [] (by kernel_rfl)
      exact At.body [.int .i64 (-1)] (by kernel_rfl) ⟨_, rfl, rfl, hS⟩
    · replace H := ite_f H hb17
      refine WC.skip (by kernel_rfl) ?_
      refine At.go ?_
      refine WC.seq (by kernel_rfl) ?_
      refine WC.reg [0, 1, 2, 3, 4, 5, 6] (by kernel_rfl) (by kernel_rfl) ?_
      refine WR.runk [0] [1, 2, 3, 4, 5, 6] [5, 7, 16] (L' := [(5, .pointer (some ⟨b10, 0, none⟩)), (7, .pointer (some ⟨b13, 0, none⟩)), (16, v0)]) (w' := w14) (by kernel_rfl) ?_
      obtain ⟨y20, hr18, H⟩ := bind_ex H
      obtain ⟨b21, fr22, A26, c27, A29, c30, hv23, hb24, R28, R31⟩ := P68.open R0 hr18
      have R25 := R0
      rw [hv23, hr18] at R25
      try subst hv23
      replace R28 : rdS (r0 (.int .u64)) 1 (hp w0) A26 c27 y20.2.1 := R28
      replace R31 : rdS (r0 (.int .i64)) 1 (hp w0) A29 c30 y20.2.2.1 := R31
      refine WR.runk [1, 2] [3, 4, 5, 6] [5, 7, 18] (L' := [(5, .pointer (some ⟨b10, 0, none⟩)), (7, .pointer (some ⟨b13, 0, none⟩)), (18, .pointer (some ⟨b21, 0, none⟩))]) (w' := w14) (by kernel_rfl) ?_
      refine WR.st (St.ofR (RSt.loadRo (t := 3) (k := 0) (v := .int .i64 y20.1) (.tmp 18) (by kernel_rfl) (by kernel_rfl) (by kernel_rfl) hS.sub0 hb24 (by kernel_rfl) rfl ?_))
      refine WR.runk [4] [5, 6] [19, 20] (L' := [(19, .int .i64 y20.1), (20, .func (.func 45) #[] #[.pointer (some ⟨b13, 0, none⟩), .pointer (some ⟨b10, 0, none⟩)])]) (w' := w14) (by kernel_rfl) ?_
      refine WR.st (St.call (by kernel_rfl) (f := 44) (args := #[.int .i64 y20.1, .func (.func 45) #[] #[.pointer (some ⟨b13, 0, none⟩), .pointer (some ⟨b10, 0, none⟩)]]) (by kernel_rfl) (calls_of_WC (vs := [.int .i64 y20.1, .func (.func 45) #[] #[.pointer (some ⟨b13, 0, none⟩), .pointer (some ⟨b10, 0, none⟩)]]) Try.func44 (c := C44) (n := 26) (by kernel_rfl) (by kernel_rfl) (by kernel_rfl) ?_) (fun _ _ h => h))
      refine WC.seq (by kernel_rfl) ?_
      refine WC.reg [0] (by kernel_rfl) (by kernel_rfl) ?_
      refine WR.runk [0] [] [0, 1] (L' := [(0, .int .i64 y20.1), (1, .func (.func 45) #[] #[.pointer (some ⟨b13, 0, none⟩), .pointer (some ⟨b10, 0, none⟩)])]) (w' := w14) (by kernel_rfl) ?_
      refine WR.nil ?_
      refine At.go ?_
      refine WC.seq (by kernel_rfl) ?_
      refine WC.reg [0, 1, 2] (by kernel_rfl) (by kernel_rfl) ?_
      refine WR.runk [0, 1, 2] [] [1, 5, 6] (L' := [(1, .func (.func 45) #[] #[.pointer (some ⟨b13, 0, none⟩), .pointer (some ⟨b10, 0, none⟩)]), (5, .int .i64 0), (6, .int .i64 y20.1)]) (w' := w14) (by kernel_rfl) ?_
      refine WR.nil ?_
      refine At.go ?_
      refine WC.seq (by kernel_rfl) ?_
      refine WC.block (by kernel_rfl) ?_
      have hS : Sat w14 (rf w0) [pts b13 (.cells #[.func (.func 41) #[.pointer (some ⟨b21, 0, none⟩)] #[]] 31 (0, 0)), pts b10 (.cells #[.int .i64 a1] 3 (0, 0))] := hS.sel [0, 1] (by kernel_rfl)
      obtain ⟨o45, e46, H⟩ := bind_ex H
      refine WC.loop (by kernel_rfl) ?_
      refine WL.weaken [1, 5, 6] (L' := [(1, .func (.func 45) #[] #[.pointer (some ⟨b13, 0, none⟩), .pointer (some ⟨b10, 0, none⟩)]), (5, .int .i64 0), (6, .int .i64 y20.1)]) (by kernel_rfl) ?_
      refine rank_Vec_Select.l1_ok w0 a1 b10 b13 y20 b21 R25 o45 (fun w48 hS => ?_) FU 0 y20.1 _ hS e46
      refine At.hit ?_
      refine At.go ?_
      refine WC.seq (by kernel_rfl) ?_
      refine WC.reg [0, 1] (by kernel_rfl) (by kernel_rfl) ?_
      refine WR.runk [0, 1] [] [4] (L' := [(4, .int .i64 o45)]) (w' := w48) (by kernel_rfl) ?_
      refine WR.nil ?_
      refine At.go ?_
      refine WC.ret (by kernel_rfl) ?_
      refine At.bodyK [.int .i64 o45] (.int .i64 o45) (by kernel_rfl) rfl ?_
      refine WR.runk [6] [] [8] (L' := [(8, .int .i64 o45)]) (w' := w48) (by kernel_rfl) ?_
      refine WR.nil ?_
      refine At.go ?_
      refine WC.ret (by kernel_rfl) ?_
      refine At.bodyK [.int .i64 o45] (.int .i64 o45) (by kernel_rfl) rfl ?_
      refine WR.runk [7] [] [4] (L' := [(4, .int .i64 o45)]) (w' := w48) (by kernel_rfl) ?_
      refine WR.nil ?_
      refine At.go ?_
      refine WC.ret (by kernel_rfl) ?_
      obtain rfl := Option.some.inj H
      have hS : Sat w48 (rf w0) [] := hS.sel [] (by kernel_rfl)
      exact At.body [.int .i64 o45] (by kernel_rfl) ⟨_, rfl, rfl, hS⟩
/-! ### 26 (*colophon/pack.Ints).Get -/
def pack_Ints_Get.f (p0 : Option (Int × Int × (List Int))) (a1 : Int) : Option Int := (match p0 with | none => some 0 | some y3 => (if decide (a1 < 0) then some 0 else (if decide (a1 ≥ y3.2.1) then some 0 else ((at? y3.2.2 (wi (Int.tdiv (wi (a1 * y3.1)) 64))).bind fun v14 => ((chk? (decide (0 ≤ (Int.tmod (wi (a1 * y3.1)) 64)))).bind fun _ => (if decide (wi ((Int.tmod (wi (a1 * y3.1)) 64) + y3.1) > 64) then ((at? y3.2.2 (wi ((wi (Int.tdiv (wi (a1 * y3.1)) 64)) + 1))).bind fun v18 => ((chk? (decide (0 ≤ (wi (64 - (Int.tmod (wi (a1 * y3.1)) 64)))))).bind fun _ => ((pack_mask.f y3.1).bind fun r21 => some (iand .u64 (ior .u64 (ishr .u64 v14 (Int.tmod (wi (a1 * y3.1)) 64)) (ishl .u64 v18 (wi (64 - (Int.tmod (wi (a1 * y3.1)) 64))))) r21)))) else ((pack_mask.f y3.1).bind fun r30 => some (iand .u64 (ishr .u64 v14 (Int.tmod (wi (a1 * y3.1)) 64)) r30))))))))
def pack_Ints_Get.post (w : World) (r : Int) (v : Value) (w' : World) : Prop := v = (.int .u64 r : Value) ∧ Sat w' (rf w) []
theorem pack_Ints_Get.calls (w0 : World) (v0 : Value) (p0 : Option (Int × Int × (List Int))) (R0 : rd (hp w0) (.ptr 66 (.pair (.int .i64) (.pair (.int .i64) (.slice 43 (.int .u64))))) [v0] p0) (a1 : Int) (r : Int) (H : pack_Ints_Get.f p0 a1 = some r) :
    Calls Try.prog 26 #[v0, .int .i64 a1] w0 (fun e w' => ∃ v, e = .returned v ∧ pack_Ints_Get.post w0 r v w') := by
  have hS : Sat w0 (rf w0) [] := Sat.start w0
  unfold pack_Ints_Get.f at H
  refine calls_of_WC (vs := [v0, .int .i64 a1]) Try.func26 (c := C26) (n := 69) (by kernel_rfl) (by kernel_rfl) (by kernel_rfl) ?_
  refine WC.seq (by kernel_rfl) ?_
  refine WC.reg [0] (by kernel_rfl) (by kernel_rfl) ?_
  refine WR.runk [0] [] [0, 1] (L' := [(0, v0), (1, .int .i64 a1)]) (w' := w0) (by kernel_rfl) ?_
  refine WR.nil ?_
  refine At.go ?_
  refine WC.seq (by kernel_rfl) ?_
  refine WC.seq (by kernel_rfl) ?_
  refine WC.reg [0, 1, 2, 3, 4, 5, 6, 7, 8, 9, 10, 11, 12, 13] (by kernel_rfl) (by kernel_rfl) ?_
  refine WR.runk [0] [1, 2, 3, 4, 5, 6, 7, 8, 9, 10, 11, 12, 13] [0, 1, 9] (L' := [(0, v0), (1, .int .i64 a1), (9, v0)]) (w' := w0) (by kernel_rfl) ?_
  rcases opt_cases p0 with hr1 | ⟨y3, hr1⟩
  · rw [hr1] at H
    dsimp only at H
    have hx2 := rd_ptr_none R0 hr1
    try subst hx2
    refine WR.runk [1, 2, 3, 4, 5, 6, 7, 8, 9, 10, 11, 12, 13] [] [0, 1, 22] (L' := [(0, .pointer none), (1, .int .i64 a1), (22, .bool true)]) (w' := w0) (by kernel_rfl) ?_
    refine WR.nil ?_
    refine At.go ?_
    refine WC.condT (by kernel_rfl) (by kernel_rfl) (by kernel_rfl) ?_
    refine WC.seq (by kernel_rfl) ?_
    refine WC.reg [0] (by kernel_rfl) (by kernel_rfl) ?_
    refine WR.runk [0] [] [4] (L' := [(4, .int .u64 0)]) (w' := w0) (by kernel_rfl) ?_
    refine WR.nil ?_
    refine At.go ?_
    refine WC.ret (by kernel_rfl) ?_
    refine At.thenRet ?_
    obtain rfl := Option.some.inj H
    have hS : Sat w0 (rf w0) [] := hS.sel [] (by kernel_rfl)
    exact At.body [.int .u64 0] (by kernel_rfl) ⟨_, rfl, rfl, hS⟩
  · rw [hr1] at H
    dsimp only at H
    obtain ⟨b4, fr5, A9, c10, hv6, hb7, R11⟩ := P66.open R0 hr1
    have R8 := R0
    rw [hv6, hr1] at R8
    try subst hv6
    replace R11 : rdS (r0 (.int .u64)) 1 (hp w0) A9 c10 y3.2.2 := R11
    refine WR.runk [1, 2, 3, 4, 5, 6] [7, 8, 9, 10, 11, 12, 13] [0, 1, 15] (L' := [(0, .pointer (some ⟨b4, 0, none⟩)), (1, .int .i64 a1), (15, .bool (decide (a1 < 0)))]) (w' := w0) (by kernel_rfl) ?_
    refine WR.split 15 (b := decide (a1 < 0)) (by kernel_rfl) (fun hb12 => ?_) (fun hb12 => ?_)
    · replace H := ite_t H hb12
      refine WR.runk [7, 8, 9, 10, 11, 12, 13] [] [0, 1, 22] (L' := [(0, .pointer (some ⟨b4, 0, none⟩)), (1, .int .i64 a1), (22, .bool true)]) (w' := w0) (by kernel_rfl) ?_
      refine WR.nil ?_
      refine At.go ?_
      refine WC.condT (by kernel_rfl) (by kernel_rfl) (by kernel_rfl) ?_
      refine WC.seq (by kernel_rfl) ?_
      refine WC.reg [0] (by kernel_rfl) (by kernel_rfl) ?_
      refine WR.runk [0] [] [4] (L' := [(4, .int .u64 0)]) (w' := w0) (by kernel_rfl) ?_
      refine WR.nil ?_
      refine At.go ?_
      refine WC.ret (by kernel_rfl) ?_
      refine At.thenRet ?_
      obtain rfl := Option.some.inj H
      have hS : Sat w0 (rf w0) [] := hS.sel [] (by kernel_rfl)
      exact At.body [.int .u64 0] (by kernel_rfl) ⟨_, rfl, rfl, hS⟩
    · replace H := ite_f H hb12
      refine WR.runk [7, 8, 9, 10] [11, 12, 13] [0, 1, 15, 16, 19] (L' := [(0, .pointer (some ⟨b4, 0, none⟩)), (1, .int .i64 a1), (15, .bool false), (16, .int .i64 a1), (19, .pointer (some ⟨b4, 1, none⟩))]) (w' := w0) (by kernel_rfl) ?_
      refine WR.st (St.ofR (RSt.loadRo (t := 3) (k := 1) (v := .int .i64 y3.2.1) (.tmp 19) (by kernel_rfl) (by kernel_rfl) (by kernel_rfl) hS.sub0 hb7 (by kernel_rfl) rfl ?_))
      refine WR.runk [12, 13] [] [0, 1, 22] (L' := [(0, .pointer (some ⟨b4, 0, none⟩)), (1, .int .i64 a1), (22, .bool (decide (a1 ≥ y3.2.1)))]) (w' := w0) (by kernel_rfl) ?_
      refine WR.nil ?_
      refine At.go ?_
      refine WC.cond (by kernel_rfl) (decide (a1 ≥ y3.2.1)) (by kernel_rfl) (by kernel_rfl) (fun hb13 => ?_) (fun hb13 => ?_)
      · replace H := ite_t H hb13
        refine WC.seq (by kernel_rfl) ?_
        refine WC.reg [0] (by kernel_rfl) (by kernel_rfl) ?_
        refine WR.runk [0] [] [4] (L' := [(4, .int .u64 0)]) (w' := w0) (by kernel_rfl) ?_
        refine WR.nil ?_
        refine At.go ?_
        refine WC.ret (by kernel_rfl) ?_
        refine At.thenRet ?_
        obtain rfl := Option.some.inj H
        have hS : Sat w0 (rf w0) [] := hS.sel [] (by kernel_rfl)
        exact At.body [.int .u64 0] (by kernel_rfl) ⟨_, rfl, rfl, hS⟩
      · replace H := ite_f H hb13
        refine WC.skip (by kernel_rfl) ?_
        refine At.go ?_
        refine WC.seq (by kernel_rfl) ?_
        refine WC.reg [0, 1, 2, 3, 4, 5, 6] (by kernel_rfl) (by kernel_rfl) ?_
        refine WR.runk [0, 1, 2, 3] [4, 5, 6] [0, 23, 26] (L' := [(0, .pointer (some ⟨b4, 0, none⟩)), (23, .int .i64 a1), (26, .pointer (some ⟨b4, 0, none⟩))]) (w' := w0) (by kernel_rfl) ?_
        refine WR.st (St.ofR (RSt.loadRo (t := 3) (k := 0) (v := .int .i64 y3.1) (.tmp 26) (by kernel_rfl) (by kernel_rfl) (by kernel_rfl) hS.sub0 hb7 (by kernel_rfl) rfl ?_))
        refine WR.runk [5, 6] [] [0, 5] (L' := [(0, .pointer (some ⟨b4, 0, none⟩)), (5, .int .i64 (wi (a1 * y3.1)))]) (w' := w0) (by kernel_rfl) ?_
        refine WR.nil ?_
        refine At.go ?_
        refine WC.seq (by kernel_rfl) ?_
        refine WC.reg [0, 1, 2, 3, 4, 5] (by kernel_rfl) (by kernel_rfl) ?_
        refine WR.runk [0, 1, 2, 3, 4, 5] [] [0, 6, 7] (L' := [(0, .pointer (some ⟨b4, 0, none⟩)), (6, .int .i64 (wi (Int.tdiv (wi (a1 * y3.1)) 64))), (7, .int .i64 (Int.tmod (wi (a1 * y3.1)) 64))]) (w' := w0) (by kernel_rfl) ?_
        refine WR.nil ?_
        refine At.go ?_
        refine WC.seq (by kernel_rfl) ?_
        refine WC.reg [0, 1, 2, 3, 4, 5, 6, 7, 8, 9] (by kernel_rfl) (by kernel_rfl) ?_
        refine WR.runk [0, 1, 2] [3, 4, 5, 6, 7, 8, 9] [0, 6, 7, 35] (L' := [(0, .pointer (some ⟨b4, 0, none⟩)), (6, .int .i64 (wi (Int.tdiv (wi (a1 * y3.1)) 64))), (7, .int .i64 (Int.tmod (wi (a1 * y3.1)) 64)), (35, .pointer (some ⟨b4, 2, none⟩))]) (w' := w0) (by kernel_rfl) ?_
        refine WR.st (St.ofR (RSt.loadRo (t := 35) (k := 2) (v := .slice A9 y3.2.2.length c10) (.tmp 35) (by kernel_rfl) (by kernel_rfl) (by kernel_rfl) hS.sub0 hb7 (by kernel_rfl) rfl ?_))
        refine WR.runk [4] [5, 6, 7, 8, 9] [0, 6, 7, 36, 37] (L' := [(0, .pointer (some ⟨b4, 0, none⟩)), (6, .int .i64 (wi (Int.tdiv (wi (a1 * y3.1)) 64))), (7, .int .i64 (Int.tmod (wi (a1 * y3.1)) 64)), (36, .slice A9 y3.2.2.length c10), (37, .int .i64 (wi (Int.tdiv (wi (a1 * y3.1)) 64)))]) (w' := w0) (by kernel_rfl) ?_
        obtain ⟨v14, e15, H⟩ := bind_ex H
        refine WR.st (St.ofP (PSt.idx (k := .i64) (.tmp 36) (.tmp 37) (by kernel_rfl) (by kernel_rfl) E35 (by kernel_rfl) (by kernel_rfl) (rdS.up R11 hS.sub0) e15 ?_))
        refine WR.runk [] [6, 7, 8, 9] [0, 6, 7, 38] (L' := [(0, .pointer (some ⟨b4, 0, none⟩)), (6, .int .i64 (wi (Int.tdiv (wi (a1 * y3.1)) 64))), (7, .int .i64 (Int.tmod (wi (a1 * y3.1)) 64)), (38, .pointer (some (adr A9 (wi (Int.tdiv (wi (a1 * y3.1)) 64)).toNat 1)))]) (w' := w0) (by kernel_rfl) ?_
        refine WR.st (St.ofR (RSt.loadInt (t := 43) (.tmp 38) (by kernel_rfl) (by kernel_rfl) (by kernel_rfl) (by kernel_rfl) (rdS.up R11 hS.sub0) e15 ?_))
        refine WR.runk [7] [8, 9] [0, 6, 7, 39, 40] (L' := [(0, .pointer (some ⟨b4, 0, none⟩)), (6, .int .i64 (wi (Int.tdiv (wi (a1 * y3.1)) 64))), (7, .int .i64 (Int.tmod (wi (a1 * y3.1)) 64)), (39, .int .u64 v14), (40, .int .i64 (Int.tmod (wi (a1 * y3.1)) 64))]) (w' := w0) (by kernel_rfl) ?_
        obtain ⟨_, e16, H⟩ := bind_ex H
        refine WR.st (St.ofP (PSt.shift (k := .u64) (k2 := .i64) (t := 43) (t2 := 3) (a := v14) (b := (Int.tmod (wi (a1 * y3.1)) 64)) .shr (by decide) (.tmp 39) (.tmp 40) (by kernel_rfl) (by kernel_rfl) (by kernel_rfl) (by kernel_rfl) (of_decide_eq_true (chk?_some e16)) ?_))
        refine WR.runk [9] [] [0, 6, 7, 8] (L' := [(0, .pointer (some ⟨b4, 0, none⟩)), (6, .int .i64 (wi (Int.tdiv (wi (a1 * y3.1)) 64))), (7, .int .i64 (Int.tmod (wi (a1 * y3.1)) 64)), (8, .int .u64 (ishr .u64 v14 (Int.tmod (wi (a1 * y3.1)) 64)))]) (w' := w0) (by kernel_rfl) ?_
        refine WR.nil ?_
        refine At.go ?_
        refine WC.seq (by kernel_rfl) ?_
        refine WC.seq (by kernel_rfl) ?_
        refine WC.reg [0, 1, 2, 3, 4, 5, 6] (by kernel_rfl) (by kernel_rfl) ?_
        refine WR.runk [0, 1, 2, 3] [4, 5, 6] [0, 6, 7, 8, 42, 45] (L' := [(0, .pointer (some ⟨b4, 0, none⟩)), (6, .int .i64 (wi (Int.tdiv (wi (a1 * y3.1)) 64))), (7, .int .i64 (Int.tmod (wi (a1 * y3.1)) 64)), (8, .int .u64 (ishr .u64 v14 (Int.tmod (wi (a1 * y3.1)) 64))), (42, .int .i64 (Int.tmod (wi (a1 * y3.1)) 64)), (45, .pointer (some ⟨b4, 0, none⟩))]) (w' := w0) (by kernel_rfl) ?_
        refine WR.st (St.ofR (RSt.loadRo (t := 3) (k := 0) (v := .int .i64 y3.1) (.tmp 45) (by kernel_rfl) (by kernel_rfl) (by kernel_rfl) hS.sub0 hb7 (by kernel_rfl) rfl ?_))
        refine WR.runk [5, 6] [] [0, 6, 7, 8, 48] (L' := [(0, .pointer (some ⟨b4, 0, none⟩)), (6, .int .i64 (wi (Int.tdiv (wi (a1 * y3.1)) 64))), (7, .int .i64 (Int.tmod (wi (a1 * y3.1)) 64)), (8, .int .u64 (ishr .u64 v14 (Int.tmod (wi (a1 * y3.1)) 64))), (48, .bool (decide (wi ((Int.tmod (wi (a1 * y3.1)) 64) + y3.1) > 64)))]) (w' := w0) (by kernel_rfl) ?_
        refine WR.nil ?_
        refine At.go ?_
        refine WC.cond (by kernel_rfl) (decide (wi ((Int.tmod (wi (a1 * y3.1)) 64) + y3.1) > 64)) (by kernel_rfl) (by kernel_rfl) (fun hb17 => ?_) (fun hb17 => ?_)
        · replace H := ite_t H hb17
          refine WC.reg [0, 1, 2, 3, 4, 5, 6, 7, 8, 9, 10, 11, 12, 13] (by kernel_rfl) (by kernel_rfl) ?_
          refine WR.runk [0, 1, 2, 3] [4, 5, 6, 7, 8, 9, 10, 11, 12, 13] [0, 6, 7, 8, 49, 52] (L' := [(0, .pointer (some ⟨b4, 0, none⟩)), (6, .int .i64 (wi (Int.tdiv (wi (a1 * y3.1)) 64))), (7, .int .i64 (Int.tmod (wi (a1 * y3.1)) 64)), (8, .int .u64 (ishr .u64 v14 (Int.tmod (wi (a1 * y3.1)) 64))), (49, .int .u64 (ishr .u64 v14 (Int.tmod (wi (a1 * y3.1)) 64))), (52, .pointer (some ⟨b4, 2, none⟩))]) (w' := w0) (by kernel_rfl) ?_
          refine WR.st (St.ofR (RSt.loadRo (t := 35) (k := 2) (v := .slice A9 y3.2.2.length c10) (.tmp 52) (by kernel_rfl) (by kernel_rfl) (by kernel_rfl) hS.sub0 hb7 (by kernel_rfl) rfl ?_))
          refine WR.runk [5, 6] [7, 8, 9, 10, 11, 12, 13] [0, 7, 8, 49, 53, 55] (L' := [(0, .pointer (some ⟨b4, 0, none⟩)), (7, .int .i64 (Int.tmod (wi (a1 * y3.1)) 64)), (8, .int .u64 (ishr .u64 v14 (Int.tmod (wi (a1 * y3.1)) 64))), (49, .int .u64 (ishr .u64 v14 (Int.tmod (wi (a1 * y3.1)) 64))), (53, .slice A9 y3.2.2.length c10), (55, .int .i64 (wi ((wi (Int.tdiv (wi (a1 * y3.1)) 64)) + 1)))]) (w' := w0) (by kernel_rfl) ?_
          obtain ⟨v18, e19, H⟩ := bind_ex H
          refine WR.st (St.ofP (PSt.idx (k := .i64) (.tmp 53) (.tmp 55) (by kernel_rfl) (by kernel_rfl) E35 (by kernel_rfl) (by kernel_rfl) (rdS.up R11 hS.sub0) e19 ?_))
          refine WR.runk [] [8, 9, 10, 11, 12, 13] [0, 7, 8, 49, 56] (L' := [(0, .pointer (some ⟨b4, 0, none⟩)), (7, .int .i64 (Int.tmod (wi (a1 * y3.1)) 64)), (8, .int .u64 (ishr .u64 v14 (Int.tmod (wi (a1 * y3.1)) 64))), (49, .int .u64 (ishr .u64 v14 (Int.tmod (wi (a1 * y3.1)) 64))), (56, .pointer (some (adr A9 (wi ((wi (Int.tdiv (wi (a1 * y3.1)) 64)) + 1)).toNat 1)))]) (w' := w0) (by kernel_rfl) ?_
          refine WR.st (St.ofR (RSt.loadInt (t := 43) (.tmp 56) (by kernel_rfl) (by kernel_rfl) (by kernel_rfl) (by kernel_rfl) (rdS.up R11 hS.sub0) e19 ?_))
          refine WR.runk [9, 10] [11, 12, 13] [0, 8, 49, 57, 59] (L' := [(0, .pointer (some ⟨b4, 0, none⟩)), (8, .int .u64 (ishr .u64 v14 (Int.tmod (wi (a1 * y3.1)) 64))), (49, .int .u64 (ishr .u64 v14 (Int.tmod (wi (a1 * y3.1)) 64))), (57, .int .u64 v18), (59, .int .i64 (wi (64 - (Int.tmod (wi (a1 * y3.1)) 64))))]) (w' := w0) (by kernel_rfl) ?_
          obtain ⟨_, e20, H⟩ := bind_ex H
          refine WR.st (St.ofP (PSt.shift (k := .u64) (k2 := .i64) (t := 43) (t2 := 3) (a := v18) (b := (wi (64 - (Int.tmod (wi (a1 * y3.1)) 64)))) .shl (by decide) (.tmp 57) (.tmp 59) (by kernel_rfl) (by kernel_rfl) (by kernel_rfl) (by kernel_rfl) (of_decide_eq_true (chk?_some e20)) ?_))
          refine WR.runk [12, 13] [] [0, 8] (L' := [(0, .pointer (some ⟨b4, 0, none⟩)), (8, .int .u64 (ior .u64 (ishr .u64 v14 (Int.tmod (wi (a1 * y3.1)) 64)) (ishl .u64 v18 (wi (64 - (Int.tmod (wi (a1 * y3.1)) 64))))))]) (w' := w0) (by kernel_rfl) ?_
          refine WR.nil ?_
          refine At.go ?_
          refine WC.seq (by kernel_rfl) ?_
          refine WC.reg [0, 1, 2, 3, 4, 5, 6, 7] (by kernel_rfl) (by kernel_rfl) ?_
          refine WR.runk [0, 1, 2, 3] [4, 5, 6, 7] [62, 65] (L' := [(62, .int .u64 (ior .u64 (ishr .u64 v14 (Int.tmod (wi (a1 * y3.1)) 64)) (ishl .u64 v18 (wi (64 - (Int.tmod (wi (a1 * y3.1)) 64)))))), (65, .pointer (some ⟨b4, 0, none⟩))]) (w' := w0) (by kernel_rfl) ?_
          refine WR.st (St.ofR (RSt.loadRo (t := 3) (k := 0) (v := .int .i64 y3.1) (.tmp 65) (by kernel_rfl) (by kernel_rfl) (by kernel_rfl) hS.sub0 hb7 (by kernel_rfl) rfl ?_))
          refine WR.runk [] [5, 6, 7] [62, 66] (L' := [(62, .int .u64 (ior .u64 (ishr .u64 v14 (Int.tmod (wi (a1 * y3.1)) 64)) (ishl .u64 v18 (wi (64 - (Int.tmod (wi (a1 * y3.1)) 64)))))), (66, .int .i64 y3.1)]) (w' := w0) (by kernel_rfl) ?_
          obtain ⟨r21, e22, H⟩ := bind_ex H
          refine WR.st (St.call (by kernel_rfl) (f := 35) (args := #[.int .i64 y3.1]) (by kernel_rfl) (pack_mask.calls w0 y3.1 r21 e22) ?_)
          rintro _ w28 ⟨rfl, hS29⟩
          have hS : Sat w28 (rf w0) [] := hS.ext hS29
          refine WR.runk [6, 7] [] [4] (L' := [(4, .int .u64 (iand .u64 (ior .u64 (ishr .u64 v14 (Int.tmod (wi (a1 * y3.1)) 64)) (ishl .u64 v18 (wi (64 - (Int.tmod (wi (a1 * y3.1)) 64))))) r21))]) (w' := w28) (by kernel_rfl) ?_
          refine WR.nil ?_
          refine At.go ?_
          refine WC.ret (by kernel_rfl) ?_
          obtain rfl := Option.some.inj H
          have hS : Sat w28 (rf w0) [] := hS.sel [] (by kernel_rfl)
          exact At.body [.int .u64 (iand .u64 (ior .u64 (ishr .u64 v14 (Int.tmod (wi (a1 * y3.1)) 64)) (ishl .u64 v18 (wi (64 - (Int.tmod (wi (a1 * y3.1)) 64))))) r21)] (by kernel_rfl) ⟨_, rfl, rfl, hS⟩
        · replace H := ite_f H hb17
          refine WC.skip (by kernel_rfl) ?_
          refine At.go ?_
          refine WC.seq (by kernel_rfl) ?_
          refine WC.reg [0, 1, 2, 3, 4, 5, 6, 7] (by kernel_rfl) (by kernel_rfl) ?_
          refine WR.runk [0, 1, 2, 3] [4, 5, 6, 7] [62, 65] (L' := [(62, .int .u64 (ishr .u64 v14 (Int.tmod (wi (a1 * y3.1)) 64))), (65, .pointer (some ⟨b4, 0, none⟩))]) (w' := w0) (by kernel_rfl) ?_
          refine WR.st (St.ofR (RSt.loadRo (t := 3) (k := 0) (v := .int .i64 y3.1) (.tmp 65) (by kernel_rfl) (by kernel_rfl) (by kernel_rfl) hS.sub0 hb7 (by kernel_rfl) rfl ?_))
          refine WR.runk [] [5, 6, 7] [62, 66] (L' := [(62, .int .u64 (ishr .u64 v14 (Int.tmod (wi (a1 * y3.1)) 64))), (66, .int .i64 y3.1)]) (w' := w0) (by kernel_rfl) ?_
          obtain ⟨r30, e31, H⟩ := bind_ex H
          refine WR.st (St.call (by kernel_rfl) (f := 35) (args := #[.int .i64 y3.1]) (by kernel_rfl) (pack_mask.calls w0 y3.1 r30 e31) ?_)
          rintro _ w37 ⟨rfl, hS38⟩
          have hS : Sat w37 (rf w0) [] := hS.ext hS38
          refine WR.runk [6, 7] [] [4] (L' := [(4, .int .u64 (iand .u64 (ishr .u64 v14 (Int.tmod (wi (a1 * y3.1)) 64)) r30))]) (w' := w37) (by kernel_rfl) ?_
          refine WR.nil ?_
          refine At.go ?_
          refine WC.ret (by kernel_rfl) ?_
          obtain rfl := Option.some.inj H
          have hS : Sat w37 (rf w0) [] := hS.sel [] (by kernel_rfl)
          exact At.body [.int .u64 (iand .u64 (ishr .u64 v14 (Int.tmod (wi (a1 * y3.1)) 64)) r30)] (by kernel_rfl) ⟨_, rfl, rfl, hS⟩
/-! ### 12 (*colophon/sparse.Set).At -/
def sparse_Set_At.f (p0 : Option (Int × Int × Int × (Option (Int × (List Int) × (List Int) × Int)) × (Option (Int × Int × (List Int))) × (Option (Int × Int × (List Int))))) (a1 : Int) : Option Int := (match p0 with | none => some (-1) | some y3 => (if decide (a1 < 0) then some (-1) else (if decide (a1 ≥ y3.2.1) then some (-1) else ((rank_Vec_Select.f y3.2.2.2.1 a1).bind fun r19 => ((chk? (decide (0 ≤ y3.2.2.1))).bind fun _ => ((pack_Ints_Get.f y3.2.2.2.2.2 a1).bind fun r29 => some (ior .i64 (ishl .i64 (wi (r19 - a1)) y3.2.2.1) (wi r29))))))))
def sparse_Set_At.post (w : World) (r : Int) (v : Value) (w' : World) : Prop := v = (.int .i64 r : Value) ∧ Sat w' (rf w) []
theorem sparse_Set_At.calls (w0 : World) (v0 : Value) (p0 : Option (Int × Int × Int × (Option (Int × (List Int) × (List Int) × Int)) × (Option (Int × Int × (List Int))) × (Option (Int × Int × (List Int))))) (R0 : rd (hp w0) (.ptr 49 (.pair (.int .i64) (.pair (.int .i64) (.pair (.int .i64) (.pair (.ptr 68 (.pair (.int .i64) (.pair (.slice 43 (.int .u64)) (.pair (.slice 3 (.int .i64)) (.int .i64))))) (.pair (.ptr 66 (.pair (.int .i64) (.pair (.int .i64) (.slice 43 (.int .u64))))) (.ptr 66 (.pair (.int .i64) (.pair (.int .i64) (.slice 43 (.int .u64))))))))))) [v0] p0) (a1 : Int) (r : Int) (H : sparse_Set_At.f p0 a1 = some r) :
    Calls Try.prog 12 #[v0, .int .i64 a1] w0 (fun e w' => ∃ v, e = .returned v ∧ sparse_Set_At.post w0 r v w') := by
  have hS : Sat w0 (rf w0) [] := Sat.start w0
  unfold sparse_Set_At.f at H
  refine calls_of_WC (vs := [v0, .int .i64 a1]) Try.func12 (c := C12) (n := 40) (by kernel_rfl) (by kernel_rfl) (by kernel_rfl) ?_
  refine WC.seq (by kernel_rfl) ?_
  refine WC.reg [0] (by kernel_rfl) (by kernel_rfl) ?_
  refine WR.runk [0] [] [0, 1] (L' := [(0, v0), (1, .int .i64 a1)]) (w' := w0) (by kernel_rfl) ?_
  refine WR.nil ?_
  refine At.go ?_
  refine WC.seq (by kernel_rfl) ?_
  refine WC.seq (by kernel_rfl) ?_
  refine WC.reg [0, 1, 2, 3, 4, 5, 6, 7, 8, 9, 10, 11, 12, 13] (by kernel_rfl) (by kernel_rfl) ?_
  refine WR.runk [0] [1, 2, 3, 4, 5, 6, 7, 8, 9, 10, 11, 12, 13] [0, 1, 5] (L' := [(0, v0), (1, .int .i64 a1), (5, v0)]) (w' := w0) (by kernel_rfl) ?_
  rcases opt_cases p0 with hr1 | ⟨y3, hr1⟩
  · rw [hr1] at H
    dsimp only at H
    have hx2 := rd_ptr_none R0 hr1
    try subst hx2
    refine WR.runk [1, 2, 3, 4, 5, 6, 7, 8, 9, 10, 11, 12, 13] [] [0, 1, 18] (L' := [(0, .pointer none), (1, .int .i64 a1), (18, .bool true)]) (w' := w0) (by kernel_rfl) ?_
    refine WR.nil ?_
    refine At.go ?_
    refine WC.condT (by kernel_rfl) (by kernel_rfl) (by kernel_rfl) ?_
    refine WC.seq (by kernel_rfl) ?_
    refine WC.reg [0] (by kernel_rfl) (by kernel_rfl) ?_
    refine WR.runk [0] [] [4] (L' := [(4, .int .i64 (-1))]) (w' := w0) (by kernel_rfl) ?_
    refine WR.nil ?_
    refine At.go ?_
    refine WC.ret (by kernel_rfl) ?_
    refine At.thenRet ?_
    obtain rfl := Option.some.inj H
    have hS : Sat w0 (rf w0) [] := hS.sel [] (by kernel_rfl)
    exact At.body [.int .i64 (-1)] (by kernel_rfl) ⟨_, rfl, rfl, hS⟩
  · rw [hr1] at H
    dsimp only at H
    obtain ⟨b4, fr5, u9, u11, u13, hv6, hb7, R10, R12, R14⟩ := P49.open R0 hr1
    have R8 := R0
    rw [hv6, hr1] at R8
    try subst hv6
    replace R10 : rd (hp w0) (.ptr 68 (.pair (.int .i64) (.pair (.slice 43 (.int .u64)) (.pair (.slice 3 (.int .i64)) (.int .i64))))) [u9] y3.2.2.2.1 := R10
    replace R12 : rd (hp w0) (.ptr 66 (.pair (.int .i64) (.pair (.int .i64) (.slice 43 (.int .u64))))) [u11] y3.2.2.2.2.1 := R12
    replace R14 : rd (hp w0) (.ptr 66 (.pair (.int .i64) (.pair (.int .i64) (.slice 43 (.int .u64))))) [u13] y3.2.2.2.2.2 := R14
    refine WR.runk [1, 2, 3, 4, 5, 6] [7, 8, 9, 10, 11, 12, 13] [0, 1, 11] (L' := [(0, .pointer (some ⟨b4, 0, none⟩)), (1, .int .i64 a1), (11, .bool (decide (a1 < 0)))]) (w' := w0) (by kernel_rfl) ?_
    refine WR.split 11 (b := decide (a1 < 0)) (by kernel_rfl) (fun hb15 => ?_) (fun hb15 => ?_)
    · replace H := ite_t H hb15
      refine WR.runk [7, 8, 9, 10, 11, 12, 13] [] [0, 1, 18] (L' := [(0, .pointer (some ⟨b4, 0, none⟩)), (1, .int .i64 a1), (18, .bool true)]) (w' := w0) (by kernel_rfl) ?_
      refine WR.nil ?_
      refine At.go ?_
      refine WC.condT (by kernel_rfl) (by kernel_rfl) (by kernel_rfl) ?_
      refine WC.seq (by kernel_rfl) ?_
      refine WC.reg [0] (by kernel_rfl) (by kernel_rfl) ?_
      refine WR.runk [0] [] [4] (L' := [(4, .int .i64 (-1))]) (w' := w0) (by kernel_rfl) ?_
      refine WR.nil ?_
      refine At.go ?_
      refine WC.ret (by kernel_rfl) ?_
      refine At.thenRet ?_
      obtain rfl := Option.some.inj H
      have hS : Sat w0 (rf w0) [] := hS.sel [] (by kernel_rfl)
      exact At.body [.int .i64 (-1)] (by kernel_rfl) ⟨_, rfl, rfl, hS⟩
    · replace H := ite_f H hb15
      refine WR.runk [7, 8, 9, 10] [11, 12, 13] [0, 1, 11, 12, 15] (L' := [(0, .pointer (some ⟨b4, 0, none⟩)), (1, .int .i64 a1), (11, .bool false), (12, .int .i64 a1), (15, .pointer (some ⟨b4, 1, none⟩))]) (w' := w0) (by kernel_rfl) ?_
      refine WR.st (St.ofR (RSt.loadRo (t := 3) (k := 1) (v := .int .i64 y3.2.1) (.tmp 15) (by kernel_rfl) (by kernel_rfl) (by kernel_rfl) hS.sub0 hb7 (by kernel_rfl) rfl ?_))
      refine WR.runk [12, 13] [] [0, 1, 18] (L' := [(0, .pointer (some ⟨b4, 0, none⟩)), (1, .int .i64 a1), (18, .bool (decide (a1 ≥ y3.2.1)))]) (w' := w0) (by kernel_rfl) ?_
      refine WR.nil ?_
      refine At.go ?_
      refine WC.cond (by kernel_rfl) (decide (a1 ≥ y3.2.1)) (by kernel_rfl) (by kernel_rfl) (fun hb16 => ?_) (fun hb16 => ?_)
      · replace H := ite_t H hb16
        refine WC.seq (by kernel_rfl) ?_
        refine WC.reg [0] (by kernel_rfl) (by kernel_rfl) ?_
        refine WR.runk [0] [] [4] (L' := [(4, .int .i64 (-1))]) (w' := w0) (by kernel_rfl) ?_
        refine WR.nil ?_
        refine At.go ?_
        refine WC.ret (by kernel_rfl) ?_
        refine At.thenRet ?_
        obtain rfl := Option.some.inj H
        have hS : Sat w0 (rf w0) [] := hS.sel [] (by kernel_rfl)
        exact At.body [.int .i64 (-1)] (by kernel_rfl) ⟨_, rfl, rfl, hS⟩
      · replace H := ite_f H hb16
        refine WC.skip (by kernel_rfl) ?_
        refine At.go ?_
        refine WC.seq (by kernel_rfl) ?_
        refine WC.drawn (by kernel_rfl) (by kernel_rfl) 22 (by kernel_rfl) (fun w17 hw18 => ?_)
        have hS := hS.heap hw18.1 hw18.2
        refine WD.weaken [0, 1] (L' := [(0, .pointer (some ⟨b4, 0, none⟩)), (1, .int .i64 a1)]) (by kernel_rfl) ?_
        refine WD.pure (i := 0) (v := .pointer (some ⟨b4, 0, none⟩)) (by kernel_rfl) (by kernel_rfl) (fun _ => by kernel_rfl) ?_
        refine WD.weaken [0, 1, 19] (L' := [(0, .pointer (some ⟨b4, 0, none⟩)), (1, .int .i64 a1), (19, .pointer (some ⟨b4, 0, none⟩))]) (by kernel_rfl) ?_
        refine WD.pure (i := 1) (v := .pointer (some ⟨b4, 0, none⟩)) (by kernel_rfl) (by kernel_rfl) (fun _ => by kernel_rfl) ?_
        refine WD.weaken [0, 1, 20] (L' := [(0, .pointer (some ⟨b4, 0, none⟩)), (1, .int .i64 a1), (20, .pointer (some ⟨b4, 0, none⟩))]) (by kernel_rfl) ?_
        refine WD.pure (i := 2) (v := .pointer (some ⟨b4, 3, none⟩)) (by kernel_rfl) (by kernel_rfl) (fun _ => by kernel_rfl) ?_
        refine WD.weaken [0, 1, 21] (L' := [(0, .pointer (some ⟨b4, 0, none⟩)), (1, .int .i64 a1), (21, .pointer (some ⟨b4, 3, none⟩))]) (by kernel_rfl) ?_
        refine WD.ofR (i := 3) (by kernel_rfl) (RSt.loadRo (t := 46) (k := 3) (v := u9) (.tmp 21) (by kernel_rfl) (by kernel_rfl) (by kernel_rfl) hS.sub0 hb7 (by kernel_rfl) rfl ?_)
        refine WD.weaken [0, 1, 22] (L' := [(0, .pointer (some ⟨b4, 0, none⟩)), (1, .int .i64 a1), (22, u9)]) (by kernel_rfl) ?_
        refine WD.pure (i := 4) (v := .int .i64 a1) (by kernel_rfl) (by kernel_rfl) (fun _ => by kernel_rfl) ?_
        refine WD.weaken [0, 1, 22, 23] (L' := [(0, .pointer (some ⟨b4, 0, none⟩)), (1, .int .i64 a1), (22, u9), (23, .int .i64 a1)]) (by kernel_rfl) ?_
        refine WD.pure (i := 6) (v := .int .i64 a1) (by kernel_rfl) (by kernel_rfl) (fun _ => by kernel_rfl) ?_
        refine WD.weaken [0, 1, 22, 23, 25] (L' := [(0, .pointer (some ⟨b4, 0, none⟩)), (1, .int .i64 a1), (22, u9), (23, .int .i64 a1), (25, .int .i64 a1)]) (by kernel_rfl) ?_
        refine WD.pure (i := 8) (v := .pointer (some ⟨b4, 0, none⟩)) (by kernel_rfl) (by kernel_rfl) (fun _ => by kernel_rfl) ?_
        refine WD.weaken [0, 1, 22, 23, 25, 27] (L' := [(0, .pointer (some ⟨b4, 0, none⟩)), (1, .int .i64 a1), (22, u9), (23, .int .i64 a1), (25, .int .i64 a1), (27, .pointer (some ⟨b4, 0, none⟩))]) (by kernel_rfl) ?_
        refine WD.pure (i := 9) (v := .pointer (some ⟨b4, 0, none⟩)) (by kernel_rfl) (by kernel_rfl) (fun _ => by kernel_rfl) ?_
        refine WD.weaken [0, 1, 22, 23, 25, 28] (L' := [(0, .pointer (some ⟨b4, 0, none⟩)), (1, .int .i64 a1), (22, u9), (23, .int .i64 a1), (25, .int .i64 a1), (28, .pointer (some ⟨b4, 0, none⟩))]) (by kernel_rfl) ?_
        refine WD.pure (i := 10) (v := .pointer (some ⟨b4, 2, none⟩)) (by kernel_rfl) (by kernel_rfl) (fun _ => by kernel_rfl) ?_
        refine WD.weaken [0, 1, 22, 23, 25, 29] (L' := [(0, .pointer (some ⟨b4, 0, none⟩)), (1, .int .i64 a1), (22, u9), (23, .int .i64 a1), (25, .int .i64 a1), (29, .pointer (some ⟨b4, 2, none⟩))]) (by kernel_rfl) ?_
        refine WD.ofR (i := 11) (by kernel_rfl) (RSt.loadRo (t := 3) (k := 2) (v := .int .i64 y3.2.2.1) (.tmp 29) (by kernel_rfl) (by kernel_rfl) (by kernel_rfl) hS.sub0 hb7 (by kernel_rfl) rfl ?_)
        refine WD.weaken [0, 1, 22, 23, 25, 30] (L' := [(0, .pointer (some ⟨b4, 0, none⟩)), (1, .int .i64 a1), (22, u9), (23, .int .i64 a1), (25, .int .i64 a1), (30, .int .i64 y3.2.2.1)]) (by kernel_rfl) ?_
        refine WD.pure (i := 13) (v := .pointer (some ⟨b4, 0, none⟩)) (by kernel_rfl) (by kernel_rfl) (fun _ => by kernel_rfl) ?_
        refine WD.weaken [1, 22, 23, 25, 30, 32] (L' := [(1, .int .i64 a1), (22, u9), (23, .int .i64 a1), (25, .int .i64 a1), (30, .int .i64 y3.2.2.1), (32, .pointer (some ⟨b4, 0, none⟩))]) (by kernel_rfl) ?_
        refine WD.pure (i := 14) (v := .pointer (some ⟨b4, 0, none⟩)) (by kernel_rfl) (by kernel_rfl) (fun _ => by kernel_rfl) ?_
        refine WD.weaken [1, 22, 23, 25, 30, 33] (L' := [(1, .int .i64 a1), (22, u9), (23, .int .i64 a1), (25, .int .i64 a1), (30, .int .i64 y3.2.2.1), (33, .pointer (some ⟨b4, 0, none⟩))]) (by kernel_rfl) ?_
        refine WD.pure (i := 15) (v := .pointer (some ⟨b4, 5, none⟩)) (by kernel_rfl) (by kernel_rfl) (fun _ => by kernel_rfl) ?_
        refine WD.weaken [1, 22, 23, 25, 30, 34] (L' := [(1, .int .i64 a1), (22, u9), (23, .int .i64 a1), (25, .int .i64 a1), (30, .int .i64 y3.2.2.1), (34, .pointer (some ⟨b4, 5, none⟩))]) (by kernel_rfl) ?_
        refine WD.ofR (i := 16) (by kernel_rfl) (RSt.loadRo (t := 47) (k := 5) (v := u13) (.tmp 34) (by kernel_rfl) (by kernel_rfl) (by kernel_rfl) hS.sub0 hb7 (by kernel_rfl) rfl ?_)
        refine WD.weaken [1, 22, 23, 25, 30, 35] (L' := [(1, .int .i64 a1), (22, u9), (23, .int .i64 a1), (25, .int .i64 a1), (30, .int .i64 y3.2.2.1), (35, u13)]) (by kernel_rfl) ?_
        refine WD.pure (i := 17) (v := .int .i64 a1) (by kernel_rfl) (by kernel_rfl) (fun _ => by kernel_rfl) ?_
        refine WD.weaken [22, 23, 25, 30, 35, 36] (L' := [(22, u9), (23, .int .i64 a1), (25, .int .i64 a1), (30, .int .i64 y3.2.2.1), (35, u13), (36, .int .i64 a1)]) (by kernel_rfl) ?_
        obtain ⟨r19, e20, H⟩ := bind_ex H
        refine WD.act (i := 5) (by kernel_rfl) (St.call (by kernel_rfl) (f := 25) (args := #[u9, .int .i64 a1]) (by kernel_rfl) (rank_Vec_Select.calls w17 (u9) y3.2.2.2.1 (rd.mono hS.sub0 _ _ _ R10) a1 r19 e20) ?_)
        rintro _ w26 ⟨rfl, hS27⟩
        have hS : Sat w26 (rf w0) [] := hS.ext hS27
        refine ⟨(asked.cons (RSt.run (n := 40) (RSt.loadRo (t := 47) (k := 5) (v := u13) (.tmp 34) (by kernel_rfl) (by kernel_rfl) (by kernel_rfl) hS.sub0 hb7 (by kernel_rfl) rfl rfl)) (asked.cons (RSt.run (n := 40) (RSt.loadRo (t := 3) (k := 2) (v := .int .i64 y3.2.2.1) (.tmp 29) (by kernel_rfl) (by kernel_rfl) (by kernel_rfl) hS.sub0 hb7 (by kernel_rfl) rfl rfl)) (asked.anc (by kernel_rfl) (asked.nil _ _)))), ?_⟩
        refine WD.weaken [24, 25, 30, 35, 36] (L' := [(24, .int .i64 r19), (25, .int .i64 a1), (30, .int .i64 y3.2.2.1), (35, u13), (36, .int .i64 a1)]) (by kernel_rfl) ?_
        refine WD.pure (i := 7) (v := .int .i64 (wi (r19 - a1))) (by kernel_rfl) (by kernel_rfl) (fun _ => by kernel_rfl) ?_
        refine WD.weaken [26, 30, 35, 36] (L' := [(26, .int .i64 (wi (r19 - a1))), (30, .int .i64 y3.2.2.1), (35, u13), (36, .int .i64 a1)]) (by kernel_rfl) ?_
        obtain ⟨_, e28, H⟩ := bind_ex H
        refine WD.ofP (i := 12) (by kernel_rfl) (PSt.shift (k := .i64) (k2 := .i64) (t := 3) (t2 := 3) (a := (wi (r19 - a1))) (b := y3.2.2.1) .shl (by decide) (.tmp 26) (.tmp 30) (by kernel_rfl) (by kernel_rfl) (by kernel_rfl) (by kernel_rfl) (of_decide_eq_true (chk?_some e28)) ?_)
        refine WD.weaken [31, 35, 36] (L' := [(31, .int .i64 (ishl .i64 (wi (r19 - a1)) y3.2.2.1)), (35, u13), (36, .int .i64 a1)]) (by kernel_rfl) ?_
        obtain ⟨r29, e30, H⟩ := bind_ex H
        refine WD.act (i := 18) (by kernel_rfl) (St.call (by kernel_rfl) (f := 26) (args := #[u13, .int .i64 a1]) (by kernel_rfl) (pack_Ints_Get.calls w26 (u13) y3.2.2.2.2.2 (rd.mono hS.sub0 _ _ _ R14) a1 r29 e30) ?_)
        rintro _ w36 ⟨rfl, hS37⟩
        have hS : Sat w36 (rf w0) [] := hS.ext hS37
        refine ⟨(asked.anc (by kernel_rfl) (asked.cons (RSt.run (n := 40) (RSt.loadRo (t := 3) (k := 2) (v := .int .i64 y3.2.2.1) (.tmp 29) (by kernel_rfl) (by kernel_rfl) (by kernel_rfl) hS.sub0 hb7 (by kernel_rfl) rfl rfl)) (asked.anc (by kernel_rfl) (asked.nil _ _)))), ?_⟩
        refine WD.weaken [31, 37] (L' := [(31, .int .i64 (ishl .i64 (wi (r19 - a1)) y3.2.2.1)), (37, .int .u64 r29)]) (by kernel_rfl) ?_
        refine WD.pure (i := 19) (v := .int .i64 (wi r29)) (by kernel_rfl) (by kernel_rfl) (fun _ => by kernel_rfl) ?_
        refine WD.weaken [31, 38] (L' := [(31, .int .i64 (ishl .i64 (wi (r19 - a1)) y3.2.2.1)), (38, .int .i64 (wi r29))]) (by kernel_rfl) ?_
        refine WD.pure (i := 20) (v := .int .i64 (ior .i64 (ishl .i64 (wi (r19 - a1)) y3.2.2.1) (wi r29))) (by kernel_rfl) (by kernel_rfl) (fun _ => by kernel_rfl) ?_
        refine WD.weaken [39] (L' := [(39, .int .i64 (ior .i64 (ishl .i64 (wi (r19 - a1)) y3.2.2.1) (wi r29)))]) (by kernel_rfl) ?_
        refine WD.pure (i := 21) (v := .int .i64 (ior .i64 (ishl .i64 (wi (r19 - a1)) y3.2.2.1) (wi r29))) (by kernel_rfl) (by kernel_rfl) (fun _ => by kernel_rfl) ?_
        refine WD.weaken [4] (L' := [(4, .int .i64 (ior .i64 (ishl .i64 (wi (r19 - a1)) y3.2.2.1) (wi r29)))]) (by kernel_rfl) ?_
        refine WD.nil (by kernel_rfl) ?_
        refine At.go ?_
        refine WC.ret (by kernel_rfl) ?_
        obtain rfl := Option.some.inj H
        have hS : Sat w36 (rf w0) [] := hS.sel [] (by kernel_rfl)
        exact At.body [.int .i64 (ior .i64 (ishl .i64 (wi (r19 - a1)) y3.2.2.1) (wi r29))] (by kernel_rfl) ⟨_, rfl, rfl, hS⟩
/-! ### 13 (*colophon/sparse.Set).Rank -/
def sparse_Set_Rank.l1 (a1 : Int) (y3 : Int × Int × Int × (Option (Int × (List Int) × (List Int) × Int)) × (Option (Int × Int × (List Int))) × (Option (Int × Int × (List Int)))) : Nat → Int → Int → Option Int
  | 0, _, _ => none
  | k + 1, x5_l1, x6_l1 => (if decide (x5_l1 < x6_l1) then ((sparse_Set_At.f (some y3) (wi (Int.tdiv (wi (x5_l1 + x6_l1)) 2))).bind fun r18 => (if decide (r18 < a1) then sparse_Set_Rank.l1 a1 y3 k (wi ((wi (Int.tdiv (wi (x5_l1 + x6_l1)) 2)) + 1)) x6_l1 else sparse_Set_Rank.l1 a1 y3 k x5_l1 (wi (Int.tdiv (wi (x5_l1 + x6_l1)) 2)))) else some x5_l1)
def sparse_Set_Rank.f (p0 : Option (Int × Int × Int × (Option (Int × (List Int) × (List Int) × Int)) × (Option (Int × Int × (List Int))) × (Option (Int × Int × (List Int))))) (a1 : Int) : Option Int := (match p0 with | none => some 0 | some y3 => ((sparse_Set_Rank.l1 a1 y3 FU 0 y3.2.1).bind fun o28 => some o28))
def sparse_Set_Rank.post (w : World) (r : Int) (v : Value) (w' : World) : Prop := v = (.int .i64 r : Value) ∧ Sat w' (rf w) []
theorem sparse_Set_Rank.l1_ok {Q} (w0 : World) (a1 : Int) (y3 : Int × Int × Int × (Option (Int × (List Int) × (List Int) × Int)) × (Option (Int × Int × (List Int))) × (Option (Int × Int × (List Int)))) (b4 : Nat) (R8 : rd (hp w0) (.ptr 49 (.pair (.int .i64) (.pair (.int .i64) (.pair (.int .i64) (.pair (.ptr 68 (.pair (.int .i64) (.pair (.slice 43 (.int .u64)) (.pair (.slice 3 (.int .i64)) (.int .i64))))) (.pair (.ptr 66 (.pair (.int .i64) (.pair (.int .i64) (.slice 43 (.int .u64))))) (.ptr 66 (.pair (.int .i64) (.pair (.int .i64) (.slice 43 (.int .u64))))))))))) [.pointer (some ⟨b4, 0, none⟩)] (some y3)) (out : Int) (hn0 : ∀ (w : World), Sat w (rf w0) [] → At Q (.exit 0) 30 [(5, .int .i64 out)] w) :
    ∀ (k : Nat) (x5_l1 : Int) (x6_l1 : Int) (w : World), Sat w (rf w0) [] → sparse_Set_Rank.l1 a1 y3 k x5_l1 x6_l1 = some out → WL Try.prog (cbody (cbody (cl (cr (cr (cr C13)))))) Q 30 [(0, .pointer (some ⟨b4, 0, none⟩)), (1, .int .i64 a1), (5, .int .i64 x5_l1), (6, .int .i64 x6_l1)] w := by
  intro k
  induction k with
  | zero => intro x5_l1 x6_l1 w hS H; exact absurd (show none = some out from H) (by simp)
  | succ k ih =>
    intro x5_l1 x6_l1 w hS H
    unfold sparse_Set_Rank.l1 at H
    refine WL.round ?_
    refine WC.seq (by kernel_rfl) ?_
    refine WC.seq (by kernel_rfl) ?_
    refine WC.reg [0, 1, 2] (by kernel_rfl) (by kernel_rfl) ?_
    refine WR.runk [0, 1, 2] [] [0, 1, 5, 6, 16] (L' := [(0, .pointer (some ⟨b4, 0, none⟩)), (1, .int .i64 a1), (5, .int .i64 x5_l1), (6, .int .i64 x6_l1), (16, .bool (decide (x5_l1 < x6_l1)))]) (w' := w) (by kernel_rfl) ?_
    refine WR.nil ?_
    refine At.go ?_
    refine WC.cond (by kernel_rfl) (decide (x5_l1 < x6_l1)) (by kernel_rfl) (by kernel_rfl) (fun hb17 => ?_) (fun hb17 => ?_)
    · replace H := ite_t H hb17
      refine WC.skip (by kernel_rfl) ?_
      refine At.go ?_
      refine WC.block (by kernel_rfl) ?_
      refine WC.seq (by kernel_rfl) ?_
      refine WC.reg [0, 1, 2, 3, 4] (by kernel_rfl) (by kernel_rfl) ?_
      refine WR.runk [0, 1, 2, 3, 4] [] [0, 1, 5, 6, 7] (L' := [(0, .pointer (some ⟨b4, 0, none⟩)), (1, .int .i64 a1), (5, .int .i64 x5_l1), (6, .int .i64 x6_l1), (7, .int .i64 (wi (Int.tdiv (wi (x5_l1 + x6_l1)) 2)))]) (w' := w) (by kernel_rfl) ?_
      refine WR.nil ?_
      refine At.go ?_
      refine WC.seq (by kernel_rfl) ?_
      refine WC.reg [0, 1, 2, 3, 4] (by kernel_rfl) (by kernel_rfl) ?_
      refine WR.runk [0, 1] [2, 3, 4] [0, 1, 5, 6, 7, 21, 22] (L' := [(0, .pointer (some ⟨b4, 0, none⟩)), (1, .int .i64 a1), (5, .int .i64 x5_l1), (6, .int .i64 x6_l1), (7, .int .i64 (wi (Int.tdiv (wi (x5_l1 + x6_l1)) 2))), (21, .pointer (some ⟨b4, 0, none⟩)), (22, .int .i64 (wi (Int.tdiv (wi (x5_l1 + x6_l1)) 2)))]) (w' := w) (by kernel_rfl) ?_
      obtain ⟨r18, e19, H⟩ := bind_ex H
      refine WR.st (St.call (by kernel_rfl) (f := 12) (args := #[.pointer (some ⟨b4, 0, none⟩), .int .i64 (wi (Int.tdiv (wi (x5_l1 + x6_l1)) 2))]) (by kernel_rfl) (sparse_Set_At.calls w (.pointer (some ⟨b4, 0, none⟩)) (some y3) (rd.mono hS.sub0 _ _ _ R8) (wi (Int.tdiv (wi (x5_l1 + x6_l1)) 2)) r18 e19) ?_)
      rintro _ w25 ⟨rfl, hS26⟩
      have hS : Sat w25 (rf w0) [] := hS.ext hS26
      refine WR.runk [3, 4] [] [0, 1, 5, 6, 7, 25] (L' := [(0, .pointer (some ⟨b4, 0, none⟩)), (1, .int .i64 a1), (5, .int .i64 x5_l1), (6, .int .i64 x6_l1), (7, .int .i64 (wi (Int.tdiv (wi (x5_l1 + x6_l1)) 2))), (25, .bool (decide (r18 < a1)))]) (w' := w25) (by kernel_rfl) ?_
      refine WR.nil ?_
      refine At.go ?_
      refine WC.cond (by kernel_rfl) (decide (r18 < a1)) (by kernel_rfl) (by kernel_rfl) (fun hb27 => ?_) (fun hb27 => ?_)
      · replace H := ite_t H hb27
        refine WC.reg [0, 1, 2] (by kernel_rfl) (by kernel_rfl) ?_
        refine WR.runk [0, 1, 2] [] [0, 1, 5, 6] (L' := [(0, .pointer (some ⟨b4, 0, none⟩)), (1, .int .i64 a1), (5, .int .i64 (wi ((wi (Int.tdiv (wi (x5_l1 + x6_l1)) 2)) + 1))), (6, .int .i64 x6_l1)]) (w' := w25) (by kernel_rfl) ?_
        refine WR.nil ?_
        refine At.blockNormal ?_
        have hS : Sat w25 (rf w0) [] := hS.sel [] (by kernel_rfl)
        refine At.again ?_
        refine WL.weaken [0, 1, 5, 6] (L' := [(0, .pointer (some ⟨b4, 0, none⟩)), (1, .int .i64 a1), (5, .int .i64 (wi ((wi (Int.tdiv (wi (x5_l1 + x6_l1)) 2)) + 1))), (6, .int .i64 x6_l1)]) (by kernel_rfl) ?_
        exact ih (wi ((wi (Int.tdiv (wi (x5_l1 + x6_l1)) 2)) + 1)) x6_l1 _ hS H
      · replace H := ite_f H hb27
        refine WC.reg [0, 1] (by kernel_rfl) (by kernel_rfl) ?_
        refine WR.runk [0, 1] [] [0, 1, 5, 6] (L' := [(0, .pointer (some ⟨b4, 0, none⟩)), (1, .int .i64 a1), (5, .int .i64 x5_l1), (6, .int .i64 (wi (Int.tdiv (wi (x5_l1 + x6_l1)) 2)))]) (w' := w25) (by kernel_rfl) ?_
        refine WR.nil ?_
        refine At.blockNormal ?_
        have hS : Sat w25 (rf w0) [] := hS.sel [] (by kernel_rfl)
        refine At.again ?_
        refine WL.weaken [0, 1, 5, 6] (L' := [(0, .pointer (some ⟨b4, 0, none⟩)), (1, .int .i64 a1), (5, .int .i64 x5_l1), (6, .int .i64 (wi (Int.tdiv (wi (x5_l1 + x6_l1)) 2)))]) (by kernel_rfl) ?_
        exact ih x5_l1 (wi (Int.tdiv (wi (x5_l1 + x6_l1)) 2)) _ hS H
    · replace H := ite_f H hb17
      refine WC.exit (by kernel_rfl) ?_
      refine At.thenExit ?_
      refine At.thenExit ?_
      obtain rfl := Option.some.inj H
      have hS : Sat w (rf w0) [] := hS.sel [] (by kernel_rfl)
      refine At.weaken [5] (L' := [(5, .int .i64 x5_l1)]) (by kernel_rfl) ?_
      exact hn0 _ hS
theorem sparse_Set_Rank.calls (w0 : World) (v0 : Value) (p0 : Option (Int × Int × Int × (Option (Int × (List Int) × (List Int) × Int)) × (Option (Int × Int × (List Int))) × (Option (Int × Int × (List Int))))) (R0 : rd (hp w0) (.ptr 49 (.pair (.int .i64) (.pair (.int .i64) (.pair (.int .i64) (.pair (.ptr 68 (.pair (.int .i64) (.pair (.slice 43 (.int .u64)) (.pair (.slice 3 (.int .i64)) (.int .i64))))) (.pair (.ptr 66 (.pair (.int .i64) (.pair (.int .i64) (.slice 43 (.int .u64))))) (.ptr 66 (.pair (.int .i64) (.pair (.int .i64) (.slice 43 (.int .u64))))))))))) [v0] p0) (a1 : Int) (r : Int) (H : sparse_Set_Rank.f p0 a1 = some r) :
    Calls Try.prog 13 #[v0, .int .i64 a1] w0 (fun e w' => ∃ v, e = .returned v ∧ sparse_Set_Rank.post w0 r v w') := by
  have hS : Sat w0 (rf w0) [] := Sat.start w0
  unfold sparse_Set_Rank.f at H
  refine calls_of_WC (vs := [v0, .int .i64 a1]) Try.func13 (c := C13) (n := 30) (by kernel_rfl) (by kernel_rfl) (by kernel_rfl) ?_
  refine WC.seq (by kernel_rfl) ?_
  refine WC.reg [0] (by kernel_rfl) (by kernel_rfl) ?_
  refine WR.runk [0] [] [0, 1] (L' := [(0, v0), (1, .int .i64 a1)]) (w' := w0) (by kernel_rfl) ?_
  refine WR.nil ?_
  refine At.go ?_
  refine WC.seq (by kernel_rfl) ?_
  refine WC.seq (by kernel_rfl) ?_
  refine WC.reg [0, 1] (by kernel_rfl) (by kernel_rfl) ?_
  refine WR.runk [0] [1] [0, 1, 8] (L' := [(0, v0), (1, .int .i64 a1), (8, v0)]) (w' := w0) (by kernel_rfl) ?_
  rcases opt_cases p0 with hr1 | ⟨y3, hr1⟩
  · rw [hr1] at H
    dsimp only at H
    have hx2 := rd_ptr_none R0 hr1
    try subst hx2
    refine WR.runk [1] [] [0, 1, 9] (L' := [(0, .pointer none), (1, .int .i64 a1), (9, .bool true)]) (w' := w0) (by kernel_rfl) ?_
    refine WR.nil ?_
    refine At.go ?_
    refine WC.condT (by kernel_rfl) (by kernel_rfl) (by kernel_rfl) ?_
    refine WC.seq (by kernel_rfl) ?_
    refine WC.reg [0] (by kernel_rfl) (by kernel_rfl) ?_
    refine WR.runk [0] [] [4] (L' := [(4, .int .i64 0)]) (w' := w0) (by kernel_rfl) ?_
    refine WR.nil ?_
    refine At.go ?_
    refine WC.ret (by kernel_rfl) ?_
    refine At.thenRet ?_
    obtain rfl := Option.some.inj H
    have hS : Sat w0 (rf w0) [] := hS.sel [] (by kernel_rfl)
    exact At.body [.int .i64 0] (by kernel_rfl) ⟨_, rfl, rfl, hS⟩
  · rw [hr1] at H
    dsimp only at H
    obtain ⟨b4, fr5, u9, u11, u13, hv6, hb7, R10, R12, R14⟩ := P49.open R0 hr1
    have R8 := R0
    rw [hv6, hr1] at R8
    try subst hv6
    replace R10 : rd (hp w0) (.ptr 68 (.pair (.int .i64) (.pair (.slice 43 (.int .u64)) (.pair (.slice 3 (.int .i64)) (.int .i64))))) [u9] y3.2.2.2.1 := R10
    replace R12 : rd (hp w0) (.ptr 66 (.pair (.int .i64) (.pair (.int .i64) (.slice 43 (.int .u64))))) [u11] y3.2.2.2.2.1 := R12
    replace R14 : rd (hp w0) (.ptr 66 (.pair (.int .i64) (.pair (.int .i64) (.slice 43 (.int .u64))))) [u13] y3.2.2.2.2.2 := R14
    refine WR.runk [1] [] [0, 1, 9] (L' := [(0, .pointer (some ⟨b4, 0, none⟩)), (1, .int .i64 a1), (9, .bool false)]) (w' := w0) (by kernel_rfl) ?_
    refine WR.nil ?_
    refine At.go ?_
    refine WC.condF (by kernel_rfl) (by kernel_rfl) (by kernel_rfl) ?_
    refine WC.skip (by kernel_rfl) ?_
    refine At.go ?_
    refine WC.seq (by kernel_rfl) ?_
    refine WC.drawn (by kernel_rfl) (by kernel_rfl) 6 (by kernel_rfl) (fun w15 hw16 => ?_)
    have hS := hS.heap hw16.1 hw16.2
    refine WD.weaken [0, 1] (L' := [(0, .pointer (some ⟨b4, 0, none⟩)), (1, .int .i64 a1)]) (by kernel_rfl) ?_
    refine WD.pure (i := 0) (v := .pointer (some ⟨b4, 0, none⟩)) (by kernel_rfl) (by kernel_rfl) (fun _ => by kernel_rfl) ?_
    refine WD.weaken [0, 1, 10] (L' := [(0, .pointer (some ⟨b4, 0, none⟩)), (1, .int .i64 a1), (10, .pointer (some ⟨b4, 0, none⟩))]) (by kernel_rfl) ?_
    refine WD.pure (i := 1) (v := .pointer (some ⟨b4, 0, none⟩)) (by kernel_rfl) (by kernel_rfl) (fun _ => by kernel_rfl) ?_
    refine WD.weaken [0, 1, 11] (L' := [(0, .pointer (some ⟨b4, 0, none⟩)), (1, .int .i64 a1), (11, .pointer (some ⟨b4, 0, none⟩))]) (by kernel_rfl) ?_
    refine WD.pure (i := 2) (v := .pointer (some ⟨b4, 1, none⟩)) (by kernel_rfl) (by kernel_rfl) (fun _ => by kernel_rfl) ?_
    refine WD.weaken [0, 1, 12] (L' := [(0, .pointer (some ⟨b4, 0, none⟩)), (1, .int .i64 a1), (12, .pointer (some ⟨b4, 1, none⟩))]) (by kernel_rfl) ?_
    refine WD.ofR (i := 3) (by kernel_rfl) (RSt.loadRo (t := 3) (k := 1) (v := .int .i64 y3.2.1) (.tmp 12) (by kernel_rfl) (by kernel_rfl) (by kernel_rfl) hS.sub0 hb7 (by kernel_rfl) rfl ?_)
    refine WD.weaken [0, 1, 13] (L' := [(0, .pointer (some ⟨b4, 0, none⟩)), (1, .int .i64 a1), (13, .int .i64 y3.2.1)]) (by kernel_rfl) ?_
    refine WD.pure (i := 4) (v := .int .i64 0) (by kernel_rfl) (by kernel_rfl) (fun _ => by kernel_rfl) ?_
    refine WD.weaken [0, 1, 5, 13] (L' := [(0, .pointer (some ⟨b4, 0, none⟩)), (1, .int .i64 a1), (5, .int .i64 0), (13, .int .i64 y3.2.1)]) (by kernel_rfl) ?_
    refine WD.pure (i := 5) (v := .int .i64 y3.2.1) (by kernel_rfl) (by kernel_rfl) (fun _ => by kernel_rfl) ?_
    refine WD.weaken [0, 1, 5, 6] (L' := [(0, .pointer (some ⟨b4, 0, none⟩)), (1, .int .i64 a1), (5, .int .i64 0), (6, .int .i64 y3.2.1)]) (by kernel_rfl) ?_
    refine WD.nil (by kernel_rfl) ?_
    refine At.go ?_
    refine WC.seq (by kernel_rfl) ?_
    refine WC.block (by kernel_rfl) ?_
    have hS : Sat w15 (rf w0) [] := hS.sel [] (by kernel_rfl)
    obtain ⟨o28, e29, H⟩ := bind_ex H
    refine WC.loop (by kernel_rfl) ?_
    refine WL.weaken [0, 1, 5, 6] (L' := [(0, .pointer (some ⟨b4, 0, none⟩)), (1, .int .i64 a1), (5, .int .i64 0), (6, .int .i64 y3.2.1)]) (by kernel_rfl) ?_
    refine sparse_Set_Rank.l1_ok w0 a1 y3 b4 R8 o28 (fun w31 hS => ?_) FU 0 y3.2.1 _ hS e29
    refine At.hit ?_
    refine At.go ?_
    refine WC.seq (by kernel_rfl) ?_
    refine WC.reg [0, 1] (by kernel_rfl) (by kernel_rfl) ?_
    refine WR.runk [0, 1] [] [4] (L' := [(4, .int .i64 o28)]) (w' := w31) (by kernel_rfl) ?_
    refine WR.nil ?_
    refine At.go ?_
    refine WC.ret (by kernel_rfl) ?_
    obtain rfl := Option.some.inj H
    have hS : Sat w31 (rf w0) [] := hS.sel [] (by kernel_rfl)
    exact At.body [.int .i64 o28] (by kernel_rfl) ⟨_, rfl, rfl, hS⟩
/-! ### 14 (*colophon/sparse.Set).Has -/
def sparse_Set_Has.f (p0 : Option (Int × Int × Int × (Option (Int × (List Int) × (List Int) × Int)) × (Option (Int × Int × (List Int))) × (Option (Int × Int × (List Int))))) (a1 : Int) : Option Bool := (match p0 with | none => some false | some y3 => (if decide (a1 ≥ 0) then ((sparse_Set_Rank.f (some y3) a1).bind fun r16 => ((sparse_Set_At.f (some y3) r16).bind fun r25 => some (r25 == a1))) else some false))
def sparse_Set_Has.post (w : World) (r : Bool) (v : Value) (w' : World) : Prop := v = (.bool r : Value) ∧ Sat w' (rf w) []
theorem sparse_Set_Has.calls (w0 : World) (v0 : Value) (p0 : Option (Int × Int × Int × (Option (Int × (List Int) × (List Int) × Int)) × (Option (Int × Int × (List Int))) × (Option (Int × Int × (List Int))))) (R0 : rd (hp w0) (.ptr 49 (.pair (.int .i64) (.pair (.int .i64) (.pair (.int .i64) (.pair (.ptr 68 (.pair (.int .i64) (.pair (.slice 43 (.int .u64)) (.pair (.slice 3 (.int .i64)) (.int .i64))))) (.pair (.ptr 66 (.pair (.int .i64) (.pair (.int .i64) (.slice 43 (.int .u64))))) (.ptr 66 (.pair (.int .i64) (.pair (.int .i64) (.slice 43 (.int .u64))))))))))) [v0] p0) (a1 : Int) (r : Bool) (H : sparse_Set_Has.f p0 a1 = some r) :
    Calls Try.prog 14 #[v0, .int .i64 a1] w0 (fun e w' => ∃ v, e = .returned v ∧ sparse_Set_Has.post w0 r v w') := by
  have hS : Sat w0 (rf w0) [] := Sat.start w0
  unfold sparse_Set_Has.f at H
  refine calls_of_WC (vs := [v0, .int .i64 a1]) Try.func14 (c := C14) (n := 20) (by kernel_rfl) (by kernel_rfl) (by kernel_rfl) ?_
  refine WC.seq (by kernel_rfl) ?_
  refine WC.reg [0] (by kernel_rfl) (by kernel_rfl) ?_
  refine WR.runk [0] [] [0, 1] (L' := [(0, v0), (1, .int .i64 a1)]) (w' := w0) (by kernel_rfl) ?_
  refine WR.nil ?_
  refine At.go ?_
  refine WC.seq (by kernel_rfl) ?_
  refine WC.reg [0, 1, 2, 3, 4, 5, 6, 7, 8, 9, 10, 11, 12, 13, 14, 15] (by kernel_rfl) (by kernel_rfl) ?_
  refine WR.runk [0] [1, 2, 3, 4, 5, 6, 7, 8, 9, 10, 11, 12, 13, 14, 15] [0, 1, 5] (L' := [(0, v0), (1, .int .i64 a1), (5, v0)]) (w' := w0) (by kernel_rfl) ?_
  rcases opt_cases p0 with hr1 | ⟨y3, hr1⟩
  · rw [hr1] at H
    dsimp only at H
    have hx2 := rd_ptr_none R0 hr1
    try subst hx2
    refine WR.runk [1, 2, 3, 4, 5, 6, 7, 8, 9, 10, 11, 12, 13, 14, 15] [] [4] (L' := [(4, .bool false)]) (w' := w0) (by kernel_rfl) ?_
    refine WR.nil ?_
    refine At.go ?_
    refine WC.ret (by kernel_rfl) ?_
    obtain rfl := Option.some.inj H
    have hS : Sat w0 (rf w0) [] := hS.sel [] (by kernel_rfl)
    exact At.body [.bool false] (by kernel_rfl) ⟨_, rfl, rfl, hS⟩
  · rw [hr1] at H
    dsimp only at H
    obtain ⟨b4, fr5, u9, u11, u13, hv6, hb7, R10, R12, R14⟩ := P49.open R0 hr1
    have R8 := R0
    rw [hv6, hr1] at R8
    try subst hv6
    replace R10 : rd (hp w0) (.ptr 68 (.pair (.int .i64) (.pair (.slice 43 (.int .u64)) (.pair (.slice 3 (.int .i64)) (.int .i64))))) [u9] y3.2.2.2.1 := R10
    replace R12 : rd (hp w0) (.ptr 66 (.pair (.int .i64) (.pair (.int .i64) (.slice 43 (.int .u64))))) [u11] y3.2.2.2.2.1 := R12
    replace R14 : rd (hp w0) (.ptr 66 (.pair (.int .i64) (.pair (.int .i64) (.slice 43 (.int .u64))))) [u13] y3.2.2.2.2.2 := R14
    refine WR.runk [1, 2, 3, 4, 5, 6] [7, 8, 9, 10, 11, 12, 13, 14, 15] [0, 1, 11] (L' := [(0, .pointer (some ⟨b4, 0, none⟩)), (1, .int .i64 a1), (11, .bool (decide (a1 ≥ 0)))]) (w' := w0) (by kernel_rfl) ?_
    refine WR.split 11 (b := decide (a1 ≥ 0)) (by kernel_rfl) (fun hb15 => ?_) (fun hb15 => ?_)
    · replace H := ite_t H hb15
      refine WR.runk [7, 8, 9] [10, 11, 12, 13, 14, 15] [1, 11, 12, 13, 14] (L' := [(1, .int .i64 a1), (11, .bool true), (12, .pointer (some ⟨b4, 0, none⟩)), (13, .pointer (some ⟨b4, 0, none⟩)), (14, .int .i64 a1)]) (w' := w0) (by kernel_rfl) ?_
      obtain ⟨r16, e17, H⟩ := bind_ex H
      refine WR.st (St.call (by kernel_rfl) (f := 13) (args := #[.pointer (some ⟨b4, 0, none⟩), .int .i64 a1]) (by kernel_rfl) (sparse_Set_Rank.calls w0 (.pointer (some ⟨b4, 0, none⟩)) (some y3) (rd.mono hS.sub0 _ _ _ R8) a1 r16 e17) ?_)
      rintro _ w23 ⟨rfl, hS24⟩
      have hS : Sat w23 (rf w0) [] := hS.ext hS24
      refine WR.runk [] [11, 12, 13, 14, 15] [1, 11, 12, 15] (L' := [(1, .int .i64 a1), (11, .bool true), (12, .pointer (some ⟨b4, 0, none⟩)), (15, .int .i64 r16)]) (w' := w23) (by kernel_rfl) ?_
      obtain ⟨r25, e26, H⟩ := bind_ex H
      refine WR.st (St.call (by kernel_rfl) (f := 12) (args := #[.pointer (some ⟨b4, 0, none⟩), .int .i64 r16]) (by kernel_rfl) (sparse_Set_At.calls w23 (.pointer (some ⟨b4, 0, none⟩)) (some y3) (rd.mono hS.sub0 _ _ _ R8) r16 r25 e26) ?_)
      rintro _ w32 ⟨rfl, hS33⟩
      have hS : Sat w32 (rf w0) [] := hS.ext hS33
      refine WR.runk [12, 13, 14, 15] [] [4] (L' := [(4, .bool (r25 == a1))]) (w' := w32) (by kernel_rfl) ?_
      refine WR.nil ?_
      refine At.go ?_
      refine WC.ret (by kernel_rfl) ?_
      obtain rfl := Option.some.inj H
      have hS : Sat w32 (rf w0) [] := hS.sel [] (by kernel_rfl)
      exact At.body [.bool (r25 == a1)] (by kernel_rfl) ⟨_, rfl, rfl, hS⟩
    · replace H := ite_f H hb15
      refine WR.runk [7, 8, 9, 10, 11, 12, 13, 14, 15] [] [4] (L' := [(4, .bool false)]) (w' := w0) (by kernel_rfl) ?_
      refine WR.nil ?_
      refine At.go ?_
      refine WC.ret (by kernel_rfl) ?_
      obtain rfl := Option.some.inj H
      have hS : Sat w0 (rf w0) [] := hS.sel [] (by kernel_rfl)
      exact At.body [.bool false] (by kernel_rfl) ⟨_, rfl, rfl, hS⟩
/-! ### 8 colophon/colophonlaw03.first -/
def colophonlaw03_first.f : Option Bool := ((sparse_New.f 100 ([3, 50, 51] : List Int)).bind fun r3 => ((sparse_New.f 3 ([1, 1] : List Int)).bind fun r15 => (match r3.1 with | none => some false | some y25 => (if (r3.2 != 0) then some false else (if (r15.2 != 2) then some false else ((sparse_Set_Words.f (some y25)).bind fun r32 => (if ((r32.1.length : Int) == 1) then ((at? r32.1 0).bind fun v46 => (if (v46 == 13) then ((sparse_Set_Rank.f (some y25) 51).bind fun r49 => (if (r49 == 2) then ((sparse_Set_At.f (some y25) 1).bind fun r59 => (if (r59 == 50) then ((sparse_Set_Has.f (some y25) 51).bind fun r69 => (if r69 then ((sparse_Set_Has.f (some y25) 52).bind fun r79 => some (!r79)) else some false)) else some false)) else some false)) else some false)) else some false)))))))
def colophonlaw03_first.post (w : World) (r : Bool) (v : Value) (w' : World) : Prop := v = (.bool r : Value) ∧ Sat w' (rf w) []
theorem colophonlaw03_first.calls (w0 : World) (r : Bool) (H : colophonlaw03_first.f = some r) :
    Calls Try.prog 8 #[] w0 (fun e w' => ∃ v, e = .returned v ∧ colophonlaw03_first.post w0 r v w') := by
  have hS : Sat w0 (rf w0) [] := Sat.start w0
  unfold colophonlaw03_first.f at H
  refine calls_of_WC (vs := []) Try.func8 (c := C8) (n := 60) (by kernel_rfl) (by kernel_rfl) (by kernel_rfl) ?_
  refine WC.seq (by kernel_rfl) ?_
  refine WC.reg [0] (by kernel_rfl) (by kernel_rfl) ?_
  refine WR.runk [0] [] [] (L' := []) (w' := w0) (by kernel_rfl) ?_
  refine WR.nil ?_
  refine At.go ?_
  refine WC.seq (by kernel_rfl) ?_
  refine WC.reg [0, 1, 2, 3, 4, 5, 6] (by kernel_rfl) (by kernel_rfl) ?_
  refine WR.st (St.box hS (by kernel_rfl) (.cells #[.int .i64 3, .int .i64 50, .int .i64 51] 3) (fun b1 => .slice (some ⟨b1, 0, none⟩) 3 3) (fun _ => by kernel_rfl) (fun b1 w2 hS => ?_))
  refine WR.runk [] [1, 2, 3, 4, 5, 6] [8] (L' := [(8, .slice (some ⟨b1, 0, none⟩) 3 3)]) (w' := w2) (by kernel_rfl) ?_
  obtain ⟨r3, e4, H⟩ := bind_ex H
  refine WR.st (St.call (by kernel_rfl) (f := 10) (args := #[.int .i64 100, .slice (some ⟨b1, 0, none⟩) 3 3]) (by kernel_rfl) (sparse_New.calls w2 100 (some ⟨b1, 0, none⟩) 3 ([3, 50, 51] : List Int) (Sat.ptsAt 0 (r0 (.int .i64)) 1 ([3, 50, 51] : List Int) hS rfl rfl (rdL.cons1 rfl (rdL.cons1 rfl (rdL.cons1 rfl (rdL.nil _ _))))) r3 e4) ?_)
  rintro _ w10 ⟨pv12, rfl, hS11⟩
  have hS : Sat w10 (rf w0) [optP O49 pv12 r3.1, pts b1 (.cells #[.int .i64 3, .int .i64 50, .int .i64 51] 3 (0, 0))] := hS.ext hS11
  refine WR.runk [2, 3, 4, 5, 6] [] [1, 2] (L' := [(1, pv12), (2, .int .i64 r3.2)]) (w' := w10) (by kernel_rfl) ?_
  refine WR.nil ?_
  refine At.go ?_
  refine WC.seq (by kernel_rfl) ?_
  refine WC.reg [0, 1, 2, 3, 4, 5, 6] (by kernel_rfl) (by kernel_rfl) ?_
  refine WR.st (St.box hS (by kernel_rfl) (.cells #[.int .i64 1, .int .i64 1] 3) (fun b13 => .slice (some ⟨b13, 0, none⟩) 2 2) (fun _ => by kernel_rfl) (fun b13 w14 hS => ?_))
  refine WR.runk [] [1, 2, 3, 4, 5, 6] [1, 2, 13] (L' := [(1, pv12), (2, .int .i64 r3.2), (13, .slice (some ⟨b13, 0, none⟩) 2 2)]) (w' := w14) (by kernel_rfl) ?_
  obtain ⟨r15, e16, H⟩ := bind_ex H
  refine WR.st (St.call (by kernel_rfl) (f := 10) (args := #[.int .i64 3, .slice (some ⟨b13, 0, none⟩) 2 2]) (by kernel_rfl) (sparse_New.calls w14 3 (some ⟨b13, 0, none⟩) 2 ([1, 1] : List Int) (Sat.ptsAt 0 (r0 (.int .i64)) 1 ([1, 1] : List Int) hS rfl rfl (rdL.cons1 rfl (rdL.cons1 rfl (rdL.nil _ _)))) r15 e16) ?_)
  rintro _ w22 ⟨pv24, rfl, hS23⟩
  have hS : Sat w22 (rf w0) [optP O49 pv24 r15.1, pts b13 (.cells #[.int .i64 1, .int .i64 1] 3 (0, 0)), optP O49 pv12 r3.1, pts b1 (.cells #[.int .i64 3, .int .i64 50, .int .i64 51] 3 (0, 0))] := hS.ext hS23
  refine WR.runk [2, 3, 4, 5, 6] [] [1, 2, 4] (L' := [(1, pv12), (2, .int .i64 r3.2), (4, .int .i64 r15.2)]) (w' := w22) (by kernel_rfl) ?_
  refine WR.nil ?_
  refine At.go ?_
  refine WC.seq (by kernel_rfl) ?_
  refine WC.seq (by kernel_rfl) ?_
  refine WC.reg [0, 1, 2, 3, 4, 5, 6, 7, 8, 9] (by kernel_rfl) (by kernel_rfl) ?_
  refine WR.runk [0] [1, 2, 3, 4, 5, 6, 7, 8, 9] [1, 2, 4, 17] (L' := [(1, pv12), (2, .int .i64 r3.2), (4, .int .i64 r15.2), (17, pv12)]) (w' := w22) (by kernel_rfl) ?_
  have hS : Sat w22 (rf w0) [optP O49 pv12 r3.1, optP O49 pv24 r15.1, pts b13 (.cells #[.int .i64 1, .int .i64 1] 3 (0, 0)), pts b1 (.cells #[.int .i64 3, .int .i64 50, .int .i64 51] 3 (0, 0))] := hS.sel [2, 0, 1, 3] (by kernel_rfl)
  rcases hr26 : r3.1 with _ | y25
  · rw [hr26] at H
    dsimp only at H
    have hv27 := optP.none hS hr26
    subst hv27
    have hS : Sat w22 (rf w0) [optP O49 pv24 r15.1, pts b13 (.cells #[.int .i64 1, .int .i64 1] 3 (0, 0)), pts b1 (.cells #[.int .i64 3, .int .i64 50, .int .i64 51] 3 (0, 0))] := hS.sel [1, 2, 3] (by kernel_rfl)
    refine WR.runk [1, 2, 3, 4, 5, 6, 7, 8, 9] [] [1, 26] (L' := [(1, .pointer none), (26, .bool true)]) (w' := w22) (by kernel_rfl) ?_
    refine WR.nil ?_
    refine At.go ?_
    refine WC.condT (by kernel_rfl) (by kernel_rfl) (by kernel_rfl) ?_
    refine WC.seq (by kernel_rfl) ?_
    refine WC.reg [0] (by kernel_rfl) (by kernel_rfl) ?_
    refine WR.runk [0] [] [0] (L' := [(0, .bool false)]) (w' := w22) (by kernel_rfl) ?_
    refine WR.nil ?_
    refine At.go ?_
    refine WC.ret (by kernel_rfl) ?_
    refine At.thenRet ?_
    obtain rfl := Option.some.inj H
    have hS : Sat w22 (rf w0) [] := hS.sel [] (by kernel_rfl)
    exact At.body [.bool false] (by kernel_rfl) ⟨_, rfl, rfl, hS⟩
  · rw [hr26] at H
    dsimp only at H
    obtain ⟨b28, hv27, hN88⟩ := optP.some hS hr26
    subst hv27
    have hS : Sat w22 (rf w0) [O49 b28 y25, optP O49 pv24 r15.1, pts b13 (.cells #[.int .i64 1, .int .i64 1] 3 (0, 0)), pts b1 (.cells #[.int .i64 3, .int .i64 50, .int .i64 51] 3 (0, 0))] := hN88
    refine WR.runk [1, 2, 3, 4, 5, 6] [7, 8, 9] [1, 4, 23] (L' := [(1, .pointer (some ⟨b28, 0, none⟩)), (4, .int .i64 r15.2), (23, .bool (r3.2 != 0))]) (w' := w22) (by kernel_rfl) ?_
    refine WR.split 23 (b := (r3.2 != 0)) (by kernel_rfl) (fun hb30 => ?_) (fun hb30 => ?_)
    · replace H := ite_t H hb30
      refine WR.runk [7, 8, 9] [] [1, 26] (L' := [(1, .pointer (some ⟨b28, 0, none⟩)), (26, .bool true)]) (w' := w22) (by kernel_rfl) ?_
      refine WR.nil ?_
      refine At.go ?_
      refine WC.condT (by kernel_rfl) (by kernel_rfl) (by kernel_rfl) ?_
      refine WC.seq (by kernel_rfl) ?_
      refine WC.reg [0] (by kernel_rfl) (by kernel_rfl) ?_
      refine WR.runk [0] [] [0] (L' := [(0, .bool false)]) (w' := w22) (by kernel_rfl) ?_
      refine WR.nil ?_
      refine At.go ?_
      refine WC.ret (by kernel_rfl) ?_
      refine At.thenRet ?_
      obtain rfl := Option.some.inj H
      have hS : Sat w22 (rf w0) [] := hS.sel [] (by kernel_rfl)
      exact At.body [.bool false] (by kernel_rfl) ⟨_, rfl, rfl, hS⟩
    · replace H := ite_f H hb30
      refine WR.runk [7, 8, 9] [] [1, 26] (L' := [(1, .pointer (some ⟨b28, 0, none⟩)), (26, .bool (r15.2 != 2))]) (w' := w22) (by kernel_rfl) ?_
      refine WR.nil ?_
      refine At.go ?_
      refine WC.cond (by kernel_rfl) (r15.2 != 2) (by kernel_rfl) (by kernel_rfl) (fun hb31 => ?_) (fun hb31 => ?_)
      · replace H := ite_t H hb31
        refine WC.seq (by kernel_rfl) ?_
        refine WC.reg [0] (by kernel_rfl) (by kernel_rfl) ?_
        refine WR.runk [0] [] [0] (L' := [(0, .bool false)]) (w' := w22) (by kernel_rfl) ?_
        refine WR.nil ?_
        refine At.go ?_
        refine WC.ret (by kernel_rfl) ?_
        refine At.thenRet ?_
        obtain rfl := Option.some.inj H
        have hS : Sat w22 (rf w0) [] := hS.sel [] (by kernel_rfl)
        exact At.body [.bool false] (by kernel_rfl) ⟨_, rfl, rfl, hS⟩
      · replace H := ite_f H hb31
        refine WC.skip (by kernel_rfl) ?_
        refine At.go ?_
        refine WC.seq (by kernel_rfl) ?_
        refine WC.reg [0, 1, 2, 3, 4, 5, 6] (by kernel_rfl) (by kernel_rfl) ?_
        refine WR.runk [0] [1, 2, 3, 4, 5, 6] [1, 28] (L' := [(1, .pointer (some ⟨b28, 0, none⟩)), (28, .pointer (some ⟨b28, 0, none⟩))]) (w' := w22) (by kernel_rfl) ?_
        obtain ⟨r32, e33, H⟩ := bind_ex H
        refine WR.st (St.call (by kernel_rfl) (f := 17) (args := #[.pointer (some ⟨b28, 0, none⟩)]) (by kernel_rfl) (sparse_Set_Words.calls w22 (.pointer (some ⟨b28, 0, none⟩)) (some y25) (Sat.rdAny 0 hS rfl (fun _ h => O49.rd _ _ _ h)) r32 e33) ?_)
        rintro _ w39 ⟨A41, c42, A43, c44, rfl, hS40⟩
        have hS : Sat w39 (rf w0) [osl 43 (r0 (.int .u64)) 1 A41 c42 r32.1, osl 43 (r0 (.int .u64)) 1 A43 c44 r32.2, O49 b28 y25, optP O49 pv24 r15.1, pts b13 (.cells #[.int .i64 1, .int .i64 1] 3 (0, 0)), pts b1 (.cells #[.int .i64 3, .int .i64 50, .int .i64 51] 3 (0, 0))] := hS.ext hS40
        refine WR.runk [2, 3, 4, 5, 6] [] [1, 5] (L' := [(1, .pointer (some ⟨b28, 0, none⟩)), (5, .slice A41 r32.1.length c42)]) (w' := w39) (by kernel_rfl) ?_
        refine WR.nil ?_
        refine At.go ?_
        refine WC.seq (by kernel_rfl) ?_
        refine WC.reg [0, 1, 2, 3, 4, 5, 6, 7, 8, 9, 10, 11, 12, 13, 14, 15, 16, 17, 18, 19, 20, 21, 22, 23, 24, 25, 26, 27, 28] (by kernel_rfl) (by kernel_rfl) ?_
        refine WR.runk [0, 1, 2, 3] [4, 5, 6, 7, 8, 9, 10, 11, 12, 13, 14, 15, 16, 17, 18, 19, 20, 21, 22, 23, 24, 25, 26, 27, 28] [1, 5, 35] (L' := [(1, .pointer (some ⟨b28, 0, none⟩)), (5, .slice A41 r32.1.length c42), (35, .bool ((r32.1.length : Int) == 1))]) (w' := w39) (by kernel_rfl) ?_
        refine WR.split 35 (b := ((r32.1.length : Int) == 1)) (by kernel_rfl) (fun hb45 => ?_) (fun hb45 => ?_)
        · replace H := ite_t H hb45
          refine WR.runk [4] [5, 6, 7, 8, 9, 10, 11, 12, 13, 14, 15, 16, 17, 18, 19, 20, 21, 22, 23, 24, 25, 26, 27, 28] [1, 35, 36] (L' := [(1, .pointer (some ⟨b28, 0, none⟩)), (35, .bool true), (36, .slice A41 r32.1.length c42)]) (w' := w39) (by kernel_rfl) ?_
          obtain ⟨v46, e47, H⟩ := bind_ex H
          refine WR.st (St.ofP (PSt.idx (k := .i64) (.tmp 36) (.const (.int .i64 0)) (by kernel_rfl) (by kernel_rfl) E35 (by kernel_rfl) (by kernel_rfl) (Sat.rdAt 0 hS rfl) e47 ?_))
          refine WR.runk [] [6, 7, 8, 9, 10, 11, 12, 13, 14, 15, 16, 17, 18, 19, 20, 21, 22, 23, 24, 25, 26, 27, 28] [1, 35, 37] (L' := [(1, .pointer (some ⟨b28, 0, none⟩)), (35, .bool true), (37, .pointer (some (adr A41 (0 : Int).toNat 1)))]) (w' := w39) (by kernel_rfl) ?_
          refine WR.st (St.ofR (RSt.loadInt (t := 43) (.tmp 37) (by kernel_rfl) (by kernel_rfl) (by kernel_rfl) (by kernel_rfl) (Sat.rdAt 0 hS rfl) e47 ?_))
          refine WR.runk [7, 8, 9] [10, 11, 12, 13, 14, 15, 16, 17, 18, 19, 20, 21, 22, 23, 24, 25, 26, 27, 28] [1, 41] (L' := [(1, .pointer (some ⟨b28, 0, none⟩)), (41, .bool (v46 == 13))]) (w' := w39) (by kernel_rfl) ?_
          refine WR.split 41 (b := (v46 == 13)) (by kernel_rfl) (fun hb48 => ?_) (fun hb48 => ?_)
          · replace H := ite_t H hb48
            refine WR.runk [10] [11, 12, 13, 14, 15, 16, 17, 18, 19, 20, 21, 22, 23, 24, 25, 26, 27, 28] [1, 41, 42] (L' := [(1, .pointer (some ⟨b28, 0, none⟩)), (41, .bool true), (42, .pointer (some ⟨b28, 0, none⟩))]) (w' := w39) (by kernel_rfl) ?_
            obtain ⟨r49, e50, H⟩ := bind_ex H
            refine WR.st (St.call (by kernel_rfl) (f := 13) (args := #[.pointer (some ⟨b28, 0, none⟩), .int .i64 51]) (by kernel_rfl) (sparse_Set_Rank.calls w39 (.pointer (some ⟨b28, 0, none⟩)) (some y25) (Sat.rdAny 2 hS rfl (fun _ h => O49.rd _ _ _ h)) 51 r49 e50) ?_)
            rintro _ w56 ⟨rfl, hS57⟩
            have hS : Sat w56 (rf w0) [osl 43 (r0 (.int .u64)) 1 A41 c42 r32.1, osl 43 (r0 (.int .u64)) 1 A43 c44 r32.2, O49 b28 y25, optP O49 pv24 r15.1, pts b13 (.cells #[.int .i64 1, .int .i64 1] 3 (0, 0)), pts b1 (.cells #[.int .i64 3, .int .i64 50, .int .i64 51] 3 (0, 0))] := hS.ext hS57
            refine WR.runk [12, 13, 14] [15, 16, 17, 18, 19, 20, 21, 22, 23, 24, 25, 26, 27, 28] [1, 46] (L' := [(1, .pointer (some ⟨b28, 0, none⟩)), (46, .bool (r49 == 2))]) (w' := w56) (by kernel_rfl) ?_
            refine WR.split 46 (b := (r49 == 2)) (by kernel_rfl) (fun hb58 => ?_) (fun hb58 => ?_)
            · replace H := ite_t H hb58
              refine WR.runk [15] [16, 17, 18, 19, 20, 21, 22, 23, 24, 25, 26, 27, 28] [1, 46, 47] (L' := [(1, .pointer (some ⟨b28, 0, none⟩)), (46, .bool true), (47, .pointer (some ⟨b28, 0, none⟩))]) (w' := w56) (by kernel_rfl) ?_
              obtain ⟨r59, e60, H⟩ := bind_ex H
              refine WR.st (St.call (by kernel_rfl) (f := 12) (args := #[.pointer (some ⟨b28, 0, none⟩), .int .i64 1]) (by kernel_rfl) (sparse_Set_At.calls w56 (.pointer (some ⟨b28, 0, none⟩)) (some y25) (Sat.rdAny 2 hS rfl (fun _ h => O49.rd _ _ _ h)) 1 r59 e60) ?_)
              rintro _ w66 ⟨rfl, hS67⟩
              have hS : Sat w66 (rf w0) [osl 43 (r0 (.int .u64)) 1 A41 c42 r32.1, osl 43 (r0 (.int .u64)) 1 A43 c44 r32.2, O49 b28 y25, optP O49 pv24 r15.1, pts b13 (.cells #[.int .i64 1, .int .i64 1] 3 (0, 0)), pts b1 (.cells #[.int .i64 3, .int .i64 50, .int .i64 51] 3 (0, 0))] := hS.ext hS67
              refine WR.runk [17, 18, 19] [20, 21, 22, 23, 24, 25, 26, 27, 28] [1, 51] (L' := [(1, .pointer (some ⟨b28, 0, none⟩)), (51, .bool (r59 == 50))]) (w' := w66) (by kernel_rfl) ?_
              refine WR.split 51 (b := (r59 == 50)) (by kernel_rfl) (fun hb68 => ?_) (fun hb68 => ?_)
              · replace H := ite_t H hb68
                refine WR.runk [20] [21, 22, 23, 24, 25, 26, 27, 28] [1, 51, 52] (L' := [(1, .pointer (some ⟨b28, 0, none⟩)), (51, .bool true), (52, .pointer (some ⟨b28, 0, none⟩))]) (w' := w66) (by kernel_rfl) ?_
                obtain ⟨r69, e70, H⟩ := bind_ex H
                refine WR.st (St.call (by kernel_rfl) (f := 14) (args := #[.pointer (some ⟨b28, 0, none⟩), .int .i64 51]) (by kernel_rfl) (sparse_Set_Has.calls w66 (.pointer (some ⟨b28, 0, none⟩)) (some y25) (Sat.rdAny 2 hS rfl (fun _ h => O49.rd _ _ _ h)) 51 r69 e70) ?_)
                rintro _ w76 ⟨rfl, hS77⟩
                have hS : Sat w76 (rf w0) [osl 43 (r0 (.int .u64)) 1 A41 c42 r32.1, osl 43 (r0 (.int .u64)) 1 A43 c44 r32.2, O49 b28 y25, optP O49 pv24 r15.1, pts b13 (.cells #[.int .i64 1, .int .i64 1] 3 (0, 0)), pts b1 (.cells #[.int .i64 3, .int .i64 50, .int .i64 51] 3 (0, 0))] := hS.ext hS77
                refine WR.runk [22, 23] [24, 25, 26, 27, 28] [1, 55] (L' := [(1, .pointer (some ⟨b28, 0, none⟩)), (55, .bool r69)]) (w' := w76) (by kernel_rfl) ?_
                refine WR.split 55 (b := r69) (by kernel_rfl) (fun hb78 => ?_) (fun hb78 => ?_)
                · replace H := ite_t H hb78
                  refine WR.runk [24] [25, 26, 27, 28] [55, 56] (L' := [(55, .bool true), (56, .pointer (some ⟨b28, 0, none⟩))]) (w' := w76) (by kernel_rfl) ?_
                  obtain ⟨r79, e80, H⟩ := bind_ex H
                  refine WR.st (St.call (by kernel_rfl) (f := 14) (args := #[.pointer (some ⟨b28, 0, none⟩), .int .i64 52]) (by kernel_rfl) (sparse_Set_Has.calls w76 (.pointer (some ⟨b28, 0, none⟩)) (some y25) (Sat.rdAny 2 hS rfl (fun _ h => O49.rd _ _ _ h)) 52 r79 e80) ?_)
                  rintro _ w86 ⟨rfl, hS87⟩
                  have hS : Sat w86 (rf w0) [osl 43 (r0 (.int .u64)) 1 A41 c42 r32.1, osl 43 (r0 (.int .u64)) 1 A43 c44 r32.2, O49 b28 y25, optP O49 pv24 r15.1, pts b13 (.cells #[.int .i64 1, .int .i64 1] 3 (0, 0)), pts b1 (.cells #[.int .i64 3, .int .i64 50, .int .i64 51] 3 (0, 0))] := hS.ext hS87
                  refine WR.runk [26, 27, 28] [] [0] (L' := [(0, .bool (!r79))]) (w' := w86) (by kernel_rfl) ?_
                  refine WR.nil ?_
                  refine At.go ?_
                  refine WC.ret (by kernel_rfl) ?_
                  obtain rfl := Option.some.inj H
                  have hS : Sat w86 (rf w0) [] := hS.sel [] (by kernel_rfl)
                  exact At.body [.bool (!r79)] (by kernel_rfl) ⟨_, rfl, rfl, hS⟩
                · replace H := ite_f H hb78
                  refine WR.runk [24, 25, 26, 27, 28] [] [0] (L' := [(0, .bool false)]) (w' := w76) (by kernel_rfl) ?_
                  refine WR.nil ?_
                  refine At.go ?_
                  refine WC.ret (by kernel_rfl) ?_
                  obtain rfl := Option.some.inj H
                  have hS : Sat w76 (rf w0) [] := hS.sel [] (by kernel_rfl)
                  exact At.body [.bool false] (by kernel_rfl) ⟨_, rfl, rfl, hS⟩
              · replace H := ite_f H hb68
                refine WR.runk [20, 21, 22, 23, 24, 25, 26, 27, 28] [] [0] (L' := [(0, .bool false)]) (w' := w66) (by kernel_rfl) ?_
                refine WR.nil ?_
                refine At.go ?_
                refine WC.ret (by kernel_rfl) ?_
                obtain rfl := Option.some.inj H
                have hS : Sat w66 (rf w0) [] := hS.sel [] (by kernel_rfl)
                exact At.body [.bool false] (by kernel_rfl) ⟨_, rfl, rfl, hS⟩
            · replace H := ite_f H hb58
              refine WR.runk [15, 16, 17, 18, 19, 20, 21, 22, 23, 24, 25, 26, 27, 28] [] [0] (L' := [(0, .bool false)]) (w' := w56) (by kernel_rfl) ?_
              refine WR.nil ?_
              refine At.go ?_
              refine WC.ret (by kernel_rfl) ?_
              obtain rfl := Option.some.inj H
              have hS : Sat w56 (rf w0) [] := hS.sel [] (by kernel_rfl)
              exact At.body [.bool false] (by kernel_rfl) ⟨_, rfl, rfl, hS⟩
          · replace H := ite_f H hb48
            refine WR.runk [10, 11, 12, 13, 14, 15, 16, 17, 18, 19, 20, 21, 22, 23, 24, 25, 26, 27, 28] [] [0] (L' := [(0, .bool false)]) (w' := w39) (by kernel_rfl) ?_
            refine WR.nil ?_
            refine At.go ?_
            refine WC.ret (by kernel_rfl) ?_
            obtain rfl := Option.some.inj H
            have hS : Sat w39 (rf w0) [] := hS.sel [] (by kernel_rfl)
            exact At.body [.bool false] (by kernel_rfl) ⟨_, rfl, rfl, hS⟩
        · replace H := ite_f H hb45
          refine WR.runk [4, 5, 6, 7, 8, 9, 10, 11, 12, 13, 14, 15, 16, 17, 18, 19, 20, 21, 22, 23, 24, 25, 26, 27, 28] [] [0] (L' := [(0, .bool false)]) (w' := w39) (by kernel_rfl) ?_
          refine WR.nil ?_
          refine At.go ?_
          refine WC.ret (by kernel_rfl) ?_
          obtain rfl := Option.some.inj H
          have hS : Sat w39 (rf w0) [] := hS.sel [] (by kernel_rfl)
          exact At.body [.bool false] (by kernel_rfl) ⟨_, rfl, rfl, hS⟩
/-! ### 9 colophon/colophonref03.Right -/
def colophonref03_Right.l1 (a0 : Int) (l1 : List Int) : Nat → Int → Int → Option (Sum Bool Unit)
  | 0, _, _ => none
  | k + 1, x5_l1, x16_l1 => (if decide (x16_l1 < (l1.length : Int)) then ((at? l1 x16_l1).bind fun v4 => (if decide (v4 ≤ x5_l1) then some (.inl false) else (if decide (v4 ≥ a0) then some (.inl false) else colophonref03_Right.l1 a0 l1 k v4 (wi (x16_l1 + 1))))) else some (.inr ()))
def colophonref03_Right.f (a0 : Int) (l1 : List Int) : Option Bool := (if decide (a0 < 0) then some false else (if decide (a0 > 4194304) then some false else ((colophonref03_Right.l1 a0 l1 FU (-1) 0).bind fun o8 => (match o8 with | .inl o10 => some o10 | .inr o14 => some true))))
def colophonref03_Right.post (w : World) (r : Bool) (v : Value) (w' : World) : Prop := v = (.bool r : Value) ∧ Sat w' (rf w) []
theorem colophonref03_Right.l1_ok {Q} (w0 : World) (a0 : Int) (A1 : Option Addr) (c1 : Nat) (l1 : List Int) (R1 : rdS (r0 (.int .i64)) 1 (hp w0) A1 c1 l1) (out : Sum Bool Unit) (hn0 : ∀ (o0 : Bool) (w : World), out = (.inl o0) → Sat w (rf w0) [] → At Q .ret 30 [(4, .bool o0)] w) (hn1 : ∀ (o1 : Unit) (w : World), out = (.inr o1) → Sat w (rf w0) [] → At Q (.exit 0) 30 [] w) :
    ∀ (k : Nat) (x5_l1 : Int) (x16_l1 : Int) (w : World), Sat w (rf w0) [] → colophonref03_Right.l1 a0 l1 k x5_l1 x16_l1 = some out → WL Try.prog (cbody (cbody (cr (cl (cr (cr (cr C9))))))) Q 30 [(0, .int .i64 a0), (5, .int .i64 x5_l1), (14, .slice A1 l1.length c1), (15, .int .i64 (l1.length : Int)), (16, .int .i64 x16_l1)] w := by
  intro k
  induction k with
  | zero => intro x5_l1 x16_l1 w hS H; exact absurd (show none = some out from H) (by simp)
  | succ k ih =>
    intro x5_l1 x16_l1 w hS H
    unfold colophonref03_Right.l1 at H
    refine WL.round ?_
    refine WC.seq (by kernel_rfl) ?_
    refine WC.reg [0] (by kernel_rfl) (by kernel_rfl) ?_
    refine WR.runk [0] [] [0, 5, 14, 15, 16, 17] (L' := [(0, .int .i64 a0), (5, .int .i64 x5_l1), (14, .slice A1 l1.length c1), (15, .int .i64 (l1.length : Int)), (16, .int .i64 x16_l1), (17, .bool (decide (x16_l1 < (l1.length : Int))))]) (w' := w) (by kernel_rfl) ?_
    refine WR.nil ?_
    refine At.go ?_
    refine WC.seq (by kernel_rfl) ?_
    refine WC.cond (by kernel_rfl) (decide (x16_l1 < (l1.length : Int))) (by kernel_rfl) (by kernel_rfl) (fun hb3 => ?_) (fun hb3 => ?_)
    · replace H := ite_t H hb3
      refine WC.skip (by kernel_rfl) ?_
      refine At.go ?_
      refine WC.seq (by kernel_rfl) ?_
      refine WC.block (by kernel_rfl) ?_
      refine WC.seq (by kernel_rfl) ?_
      refine WC.reg [0, 1, 2] (by kernel_rfl) (by kernel_rfl) ?_
      refine WR.runk [] [0, 1, 2] [0, 5, 14, 15, 16] (L' := [(0, .int .i64 a0), (5, .int .i64 x5_l1), (14, .slice A1 l1.length c1), (15, .int .i64 (l1.length : Int)), (16, .int .i64 x16_l1)]) (w' := w) (by kernel_rfl) ?_
      obtain ⟨v4, e5, H⟩ := bind_ex H
      refine WR.st (St.ofP (PSt.idx (k := .i64) (.tmp 14) (.tmp 16) (by kernel_rfl) (by kernel_rfl) E22 (by kernel_rfl) (by kernel_rfl) (rdS.up R1 hS.sub0) e5 ?_))
      refine WR.runk [] [1, 2] [0, 5, 14, 15, 16, 18] (L' := [(0, .int .i64 a0), (5, .int .i64 x5_l1), (14, .slice A1 l1.length c1), (15, .int .i64 (l1.length : Int)), (16, .int .i64 x16_l1), (18, .pointer (some (adr A1 x16_l1.toNat 1)))]) (w' := w) (by kernel_rfl) ?_
      refine WR.st (St.ofR (RSt.loadInt (t := 3) (.tmp 18) (by kernel_rfl) (by kernel_rfl) (by kernel_rfl) (by kernel_rfl) (rdS.up R1 hS.sub0) e5 ?_))
      refine WR.runk [2] [] [0, 5, 7, 14, 15, 16] (L' := [(0, .int .i64 a0), (5, .int .i64 x5_l1), (7, .int .i64 v4), (14, .slice A1 l1.length c1), (15, .int .i64 (l1.length : Int)), (16, .int .i64 x16_l1)]) (w' := w) (by kernel_rfl) ?_
      refine WR.nil ?_
      refine At.go ?_
      refine WC.seq (by kernel_rfl) ?_
      refine WC.seq (by kernel_rfl) ?_
      refine WC.reg [0, 1, 2, 3, 4, 5, 6, 7] (by kernel_rfl) (by kernel_rfl) ?_
      refine WR.runk [0, 1, 2, 3] [4, 5, 6, 7] [0, 7, 14, 15, 16, 23] (L' := [(0, .int .i64 a0), (7, .int .i64 v4), (14, .slice A1 l1.length c1), (15, .int .i64 (l1.length : Int)), (16, .int .i64 x16_l1), (23, .bool (decide (v4 ≤ x5_l1)))]) (w' := w) (by kernel_rfl) ?_
      refine WR.split 23 (b := decide (v4 ≤ x5_l1)) (by kernel_rfl) (fun hb6 => ?_) (fun hb6 => ?_)
      · replace H := ite_t H hb6
        refine WR.runk [4, 5, 6, 7] [] [0, 7, 14, 15, 16, 24, 25, 26, 27] (L' := [(0, .int .i64 a0), (7, .int .i64 v4), (14, .slice A1 l1.length c1), (15, .int .i64 (l1.length : Int)), (16, .int .i64 x16_l1), (24, undef), (25, undef), (26, undef), (27, .bool true)]) (w' := w) (by kernel_rfl) ?_
        refine WR.nil ?_
        refine At.go ?_
        refine WC.condT (by kernel_rfl) (by kernel_rfl) (by kernel_rfl) ?_
        refine WC.seq (by kernel_rfl) ?_
        refine WC.reg [0] (by kernel_rfl) (by kernel_rfl) ?_
        refine WR.runk [0] [] [4] (L' := [(4, .bool false)]) (w' := w) (by kernel_rfl) ?_
        refine WR.nil ?_
        refine At.go ?_
        refine WC.ret (by kernel_rfl) ?_
        refine At.thenRet ?_
        refine At.blockRet ?_
        refine At.thenRet ?_
        refine At.thenRet ?_
        obtain rfl := Option.some.inj H
        have hS : Sat w (rf w0) [] := hS.sel [] (by kernel_rfl)
        refine At.weaken [4] (L' := [(4, .bool false)]) (by kernel_rfl) ?_
        exact hn0 false _ rfl hS
      · replace H := ite_f H hb6
        refine WR.runk [4, 5, 6, 7] [] [0, 7, 14, 15, 16, 24, 25, 26, 27] (L' := [(0, .int .i64 a0), (7, .int .i64 v4), (14, .slice A1 l1.length c1), (15, .int .i64 (l1.length : Int)), (16, .int .i64 x16_l1), (24, .int .i64 v4), (25, .int .i64 a0), (26, .bool (decide (v4 ≥ a0))), (27, .bool (decide (v4 ≥ a0)))]) (w' := w) (by kernel_rfl) ?_
        refine WR.nil ?_
        refine At.go ?_
        refine WC.cond (by kernel_rfl) (decide (v4 ≥ a0)) (by kernel_rfl) (by kernel_rfl) (fun hb7 => ?_) (fun hb7 => ?_)
        · replace H := ite_t H hb7
          refine WC.seq (by kernel_rfl) ?_
          refine WC.reg [0] (by kernel_rfl) (by kernel_rfl) ?_
          refine WR.runk [0] [] [4] (L' := [(4, .bool false)]) (w' := w) (by kernel_rfl) ?_
          refine WR.nil ?_
          refine At.go ?_
          refine WC.ret (by kernel_rfl) ?_
          refine At.thenRet ?_
          refine At.blockRet ?_
          refine At.thenRet ?_
          refine At.thenRet ?_
          obtain rfl := Option.some.inj H
          have hS : Sat w (rf w0) [] := hS.sel [] (by kernel_rfl)
          refine At.weaken [4] (L' := [(4, .bool false)]) (by kernel_rfl) ?_
          exact hn0 false _ rfl hS
        · replace H := ite_f H hb7
          refine WC.skip (by kernel_rfl) ?_
          refine At.go ?_
          refine WC.reg [0, 1] (by kernel_rfl) (by kernel_rfl) ?_
          refine WR.runk [0, 1] [] [0, 5, 14, 15, 16, 24, 25] (L' := [(0, .int .i64 a0), (5, .int .i64 v4), (14, .slice A1 l1.length c1), (15, .int .i64 (l1.length : Int)), (16, .int .i64 x16_l1), (24, .int .i64 v4), (25, .int .i64 a0)]) (w' := w) (by kernel_rfl) ?_
          refine WR.nil ?_
          refine At.blockNormal ?_
          refine At.go ?_
          refine WC.reg [0, 1] (by kernel_rfl) (by kernel_rfl) ?_
          refine WR.runk [0, 1] [] [0, 5, 14, 15, 16, 24, 25] (L' := [(0, .int .i64 a0), (5, .int .i64 v4), (14, .slice A1 l1.length c1), (15, .int .i64 (l1.length : Int)), (16, .int .i64 (wi (x16_l1 + 1))), (24, .int .i64 v4), (25, .int .i64 a0)]) (w' := w) (by kernel_rfl) ?_
          refine WR.nil ?_
          have hS : Sat w (rf w0) [] := hS.sel [] (by kernel_rfl)
          refine At.again ?_
          refine WL.weaken [0, 5, 14, 15, 16] (L' := [(0, .int .i64 a0), (5, .int .i64 v4), (14, .slice A1 l1.length c1), (15, .int .i64 (l1.length : Int)), (16, .int .i64 (wi (x16_l1 + 1)))]) (by kernel_rfl) ?_
          exact ih v4 (wi (x16_l1 + 1)) _ hS H
    · replace H := ite_f H hb3
      refine WC.exit (by kernel_rfl) ?_
      refine At.thenExit ?_
      refine At.thenExit ?_
      obtain rfl := Option.some.inj H
      have hS : Sat w (rf w0) [] := hS.sel [] (by kernel_rfl)
      refine At.weaken [] (L' := []) (by kernel_rfl) ?_
      exact hn1 () _ rfl hS
theorem colophonref03_Right.calls (w0 : World) (a0 : Int) (A1 : Option Addr) (c1 : Nat) (l1 : List Int) (R1 : rdS (r0 (.int .i64)) 1 (hp w0) A1 c1 l1) (r : Bool) (H : colophonref03_Right.f a0 l1 = some r) :
    Calls Try.prog 9 #[.int .i64 a0, .slice A1 l1.length c1] w0 (fun e w' => ∃ v, e = .returned v ∧ colophonref03_Right.post w0 r v w') := by
  have hS : Sat w0 (rf w0) [] := Sat.start w0
  unfold colophonref03_Right.f at H
  refine calls_of_WC (vs := [.int .i64 a0, .slice A1 l1.length c1]) Try.func9 (c := C9) (n := 30) (by kernel_rfl) (by kernel_rfl) (by kernel_rfl) ?_
  refine WC.seq (by kernel_rfl) ?_
  refine WC.reg [0] (by kernel_rfl) (by kernel_rfl) ?_
  refine WR.runk [0] [] [0, 1] (L' := [(0, .int .i64 a0), (1, .slice A1 l1.length c1)]) (w' := w0) (by kernel_rfl) ?_
  refine WR.nil ?_
  refine At.go ?_
  refine WC.seq (by kernel_rfl) ?_
  refine WC.seq (by kernel_rfl) ?_
  refine WC.reg [0, 1, 2, 3, 4, 5] (by kernel_rfl) (by kernel_rfl) ?_
  refine WR.runk [0, 1, 2] [3, 4, 5] [0, 1, 10] (L' := [(0, .int .i64 a0), (1, .slice A1 l1.length c1), (10, .bool (decide (a0 < 0)))]) (w' := w0) (by kernel_rfl) ?_
  refine WR.split 10 (b := decide (a0 < 0)) (by kernel_rfl) (fun hb1 => ?_) (fun hb1 => ?_)
  · replace H := ite_t H hb1
    refine WR.runk [3, 4, 5] [] [0, 1, 13] (L' := [(0, .int .i64 a0), (1, .slice A1 l1.length c1), (13, .bool true)]) (w' := w0) (by kernel_rfl) ?_
    refine WR.nil ?_
    refine At.go ?_
    refine WC.condT (by kernel_rfl) (by kernel_rfl) (by kernel_rfl) ?_
    refine WC.seq (by kernel_rfl) ?_
    refine WC.reg [0] (by kernel_rfl) (by kernel_rfl) ?_
    refine WR.runk [0] [] [4] (L' := [(4, .bool false)]) (w' := w0) (by kernel_rfl) ?_
    refine WR.nil ?_
    refine At.go ?_
    refine WC.ret (by kernel_rfl) ?_
    refine At.thenRet ?_
    obtain rfl := Option.some.inj H
    have hS : Sat w0 (rf w0) [] := hS.sel [] (by kernel_rfl)
    exact At.body [.bool false] (by kernel_rfl) ⟨_, rfl, rfl, hS⟩
  · replace H := ite_f H hb1
    refine WR.runk [3, 4, 5] [] [0, 1, 13] (L' := [(0, .int .i64 a0), (1, .slice A1 l1.length c1), (13, .bool (decide (a0 > 4194304)))]) (w' := w0) (by kernel_rfl) ?_
    refine WR.nil ?_
    refine At.go ?_
    refine WC.cond (by kernel_rfl) (decide (a0 > 4194304)) (by kernel_rfl) (by kernel_rfl) (fun hb2 => ?_) (fun hb2 => ?_)
    · replace H := ite_t H hb2
      refine WC.seq (by kernel_rfl) ?_
      refine WC.reg [0] (by kernel_rfl) (by kernel_rfl) ?_
      refine WR.runk [0] [] [4] (L' := [(4, .bool false)]) (w' := w0) (by kernel_rfl) ?_
      refine WR.nil ?_
      refine At.go ?_
      refine WC.ret (by kernel_rfl) ?_
      refine At.thenRet ?_
      obtain rfl := Option.some.inj H
      have hS : Sat w0 (rf w0) [] := hS.sel [] (by kernel_rfl)
      exact At.body [.bool false] (by kernel_rfl) ⟨_, rfl, rfl, hS⟩
    · replace H := ite_f H hb2
      refine WC.skip (by kernel_rfl) ?_
      refine At.go ?_
      refine WC.seq (by kernel_rfl) ?_
      refine WC.reg [0] (by kernel_rfl) (by kernel_rfl) ?_
      refine WR.runk [0] [] [0, 1, 5] (L' := [(0, .int .i64 a0), (1, .slice A1 l1.length c1), (5, .int .i64 (-1))]) (w' := w0) (by kernel_rfl) ?_
      refine WR.nil ?_
      refine At.go ?_
      refine WC.seq (by kernel_rfl) ?_
      refine WC.seq (by kernel_rfl) ?_
      refine WC.reg [0, 1, 2] (by kernel_rfl) (by kernel_rfl) ?_
      refine WR.runk [0, 1, 2] [] [0, 5, 14, 15, 16] (L' := [(0, .int .i64 a0), (5, .int .i64 (-1)), (14, .slice A1 l1.length c1), (15, .int .i64 (l1.length : Int)), (16, .int .i64 0)]) (w' := w0) (by kernel_rfl) ?_
      refine WR.nil ?_
      refine At.go ?_
      refine WC.block (by kernel_rfl) ?_
      have hS : Sat w0 (rf w0) [] := hS.sel [] (by kernel_rfl)
      obtain ⟨o8, e9, H⟩ := bind_ex H
      refine WC.loop (by kernel_rfl) ?_
      refine WL.weaken [0, 5, 14, 15, 16] (L' := [(0, .int .i64 a0), (5, .int .i64 (-1)), (14, .slice A1 l1.length c1), (15, .int .i64 (l1.length : Int)), (16, .int .i64 0)]) (by kernel_rfl) ?_
      refine colophonref03_Right.l1_ok w0 a0 A1 c1 l1 R1 o8 (fun o10 w12 ho13 hS => ?_) (fun o14 w16 ho17 hS => ?_) FU (-1) 0 _ hS e9
      · subst ho13
        dsimp only at H
        refine At.blockRet ?_
        refine At.thenRet ?_
        obtain rfl := Option.some.inj H
        have hS : Sat w12 (rf w0) [] := hS.sel [] (by kernel_rfl)
        exact At.body [.bool o10] (by kernel_rfl) ⟨_, rfl, rfl, hS⟩
      · subst ho17
        dsimp only at H
        refine At.hit ?_
        refine At.go ?_
        refine WC.seq (by kernel_rfl) ?_
        refine WC.reg [0] (by kernel_rfl) (by kernel_rfl) ?_
        refine WR.runk [0] [] [4] (L' := [(4, .bool true)]) (w' := w16) (by kernel_rfl) ?_
        refine WR.nil ?_
        refine At.go ?_
        refine WC.ret (by kernel_rfl) ?_
        obtain rfl := Option.some.inj H
        have hS : Sat w16 (rf w0) [] := hS.sel [] (by kernel_rfl)
        exact At.body [.bool true] (by kernel_rfl) ⟨_, rfl, rfl, hS⟩
/-! ### 11 (*colophon/sparse.Set).Bound -/
def sparse_Set_Bound.f (p0 : Option (Int × Int × Int × (Option (Int × (List Int) × (List Int) × Int)) × (Option (Int × Int × (List Int))) × (Option (Int × Int × (List Int))))) : Option Int := (match p0 with | none => some 0 | some y3 => some y3.1)
def sparse_Set_Bound.post (w : World) (r : Int) (v : Value) (w' : World) : Prop := v = (.int .i64 r : Value) ∧ Sat w' (rf w) []
theorem sparse_Set_Bound.calls (w0 : World) (v0 : Value) (p0 : Option (Int × Int × Int × (Option (Int × (List Int) × (List Int) × Int)) × (Option (Int × Int × (List Int))) × (Option (Int × Int × (List Int))))) (R0 : rd (hp w0) (.ptr 49 (.pair (.int .i64) (.pair (.int .i64) (.pair (.int .i64) (.pair (.ptr 68 (.pair (.int .i64) (.pair (.slice 43 (.int .u64)) (.pair (.slice 3 (.int .i64)) (.int .i64))))) (.pair (.ptr 66 (.pair (.int .i64) (.pair (.int .i64) (.slice 43 (.int .u64))))) (.ptr 66 (.pair (.int .i64) (.pair (.int .i64) (.slice 43 (.int .u64))))))))))) [v0] p0) (r : Int) (H : sparse_Set_Bound.f p0 = some r) :
    Calls Try.prog 11 #[v0] w0 (fun e w' => ∃ v, e = .returned v ∧ sparse_Set_Bound.post w0 r v w') := by
  have hS : Sat w0 (rf w0) [] := Sat.start w0
  unfold sparse_Set_Bound.f at H
  refine calls_of_WC (vs := [v0]) Try.func11 (c := C11) (n := 9) (by kernel_rfl) (by kernel_rfl) (by kernel_rfl) ?_
  refine WC.seq (by kernel_rfl) ?_
  refine WC.reg [0] (by kernel_rfl) (by kernel_rfl) ?_
  refine WR.runk [0] [] [0] (L' := [(0, v0)]) (w' := w0) (by kernel_rfl) ?_
  refine WR.nil ?_
  refine At.go ?_
  refine WC.seq (by kernel_rfl) ?_
  refine WC.seq (by kernel_rfl) ?_
  refine WC.reg [0, 1] (by kernel_rfl) (by kernel_rfl) ?_
  refine WR.runk [0] [1] [0, 3] (L' := [(0, v0), (3, v0)]) (w' := w0) (by kernel_rfl) ?_
  rcases opt_cases p0 with hr1 | ⟨y3, hr1⟩
  · rw [hr1] at H
    dsimp only at H
    have hx2 := rd_ptr_none R0 hr1
    try subst hx2
    refine WR.runk [1] [] [0, 4] (L' := [(0, .pointer none), (4, .bool true)]) (w' := w0) (by kernel_rfl) ?_
    refine WR.nil ?_
    refine At.go ?_
    refine WC.condT (by kernel_rfl) (by kernel_rfl) (by kernel_rfl) ?_
    refine WC.seq (by kernel_rfl) ?_
    refine WC.reg [0] (by kernel_rfl) (by kernel_rfl) ?_
    refine WR.runk [0] [] [2] (L' := [(2, .int .i64 0)]) (w' := w0) (by kernel_rfl) ?_
    refine WR.nil ?_
    refine At.go ?_
    refine WC.ret (by kernel_rfl) ?_
    refine At.thenRet ?_
    obtain rfl := Option.some.inj H
    have hS : Sat w0 (rf w0) [] := hS.sel [] (by kernel_rfl)
    exact At.body [.int .i64 0] (by kernel_rfl) ⟨_, rfl, rfl, hS⟩
  · rw [hr1] at H
    dsimp only at H
    obtain ⟨b4, fr5, u9, u11, u13, hv6, hb7, R10, R12, R14⟩ := P49.open R0 hr1
    have R8 := R0
    rw [hv6, hr1] at R8
    try subst hv6
    replace R10 : rd (hp w0) (.ptr 68 (.pair (.int .i64) (.pair (.slice 43 (.int .u64)) (.pair (.slice 3 (.int .i64)) (.int .i64))))) [u9] y3.2.2.2.1 := R10
    replace R12 : rd (hp w0) (.ptr 66 (.pair (.int .i64) (.pair (.int .i64) (.slice 43 (.int .u64))))) [u11] y3.2.2.2.2.1 := R12
    replace R14 : rd (hp w0) (.ptr 66 (.pair (.int .i64) (.pair (.int .i64) (.slice 43 (.int .u64))))) [u13] y3.2.2.2.2.2 := R14
    refine WR.runk [1] [] [0, 4] (L' := [(0, .pointer (some ⟨b4, 0, none⟩)), (4, .bool false)]) (w' := w0) (by kernel_rfl) ?_
    refine WR.nil ?_
    refine At.go ?_
    refine WC.condF (by kernel_rfl) (by kernel_rfl) (by kernel_rfl) ?_
    refine WC.skip (by kernel_rfl) ?_
    refine At.go ?_
    refine WC.seq (by kernel_rfl) ?_
    refine WC.reg [0, 1, 2, 3, 4] (by kernel_rfl) (by kernel_rfl) ?_
    refine WR.runk [0, 1, 2] [3, 4] [7] (L' := [(7, .pointer (some ⟨b4, 0, none⟩))]) (w' := w0) (by kernel_rfl) ?_
    refine WR.st (St.ofR (RSt.loadRo (t := 3) (k := 0) (v := .int .i64 y3.1) (.tmp 7) (by kernel_rfl) (by kernel_rfl) (by kernel_rfl) hS.sub0 hb7 (by kernel_rfl) rfl ?_))
    refine WR.runk [4] [] [2] (L' := [(2, .int .i64 y3.1)]) (w' := w0) (by kernel_rfl) ?_
    refine WR.nil ?_
    refine At.go ?_
    refine WC.ret (by kernel_rfl) ?_
    obtain rfl := Option.some.inj H
    have hS : Sat w0 (rf w0) [] := hS.sel [] (by kernel_rfl)
    exact At.body [.int .i64 y3.1] (by kernel_rfl) ⟨_, rfl, rfl, hS⟩
/-! ### 15 (*colophon/sparse.Set).Len -/
def sparse_Set_Len.f (p0 : Option (Int × Int × Int × (Option (Int × (List Int) × (List Int) × Int)) × (Option (Int × Int × (List Int))) × (Option (Int × Int × (List Int))))) : Option Int := (match p0 with | none => some 0 | some y3 => some y3.2.1)
def sparse_Set_Len.post (w : World) (r : Int) (v : Value) (w' : World) : Prop := v = (.int .i64 r : Value) ∧ Sat w' (rf w) []
theorem sparse_Set_Len.calls (w0 : World) (v0 : Value) (p0 : Option (Int × Int × Int × (Option (Int × (List Int) × (List Int) × Int)) × (Option (Int × Int × (List Int))) × (Option (Int × Int × (List Int))))) (R0 : rd (hp w0) (.ptr 49 (.pair (.int .i64) (.pair (.int .i64) (.pair (.int .i64) (.pair (.ptr 68 (.pair (.int .i64) (.pair (.slice 43 (.int .u64)) (.pair (.slice 3 (.int .i64)) (.int .i64))))) (.pair (.ptr 66 (.pair (.int .i64) (.pair (.int .i64) (.slice 43 (.int .u64))))) (.ptr 66 (.pair (.int .i64) (.pair (.int .i64) (.slice 43 (.int .u64))))))))))) [v0] p0) (r : Int) (H : sparse_Set_Len.f p0 = some r) :
    Calls Try.prog 15 #[v0] w0 (fun e w' => ∃ v, e = .returned v ∧ sparse_Set_Len.post w0 r v w') := by
  have hS : Sat w0 (rf w0) [] := Sat.start w0
  unfold sparse_Set_Len.f at H
  refine calls_of_WC (vs := [v0]) Try.func15 (c := C15) (n := 9) (by kernel_rfl) (by kernel_rfl) (by kernel_rfl) ?_
  refine WC.seq (by kernel_rfl) ?_
  refine WC.reg [0] (by kernel_rfl) (by kernel_rfl) ?_
  refine WR.runk [0] [] [0] (L' := [(0, v0)]) (w' := w0) (by kernel_rfl) ?_
  refine WR.nil ?_
  refine At.go ?_
  refine WC.seq (by kernel_rfl) ?_
  refine WC.seq (by kernel_rfl) ?_
  refine WC.reg [0, 1] (by kernel_rfl) (by kernel_rfl) ?_
  refine WR.runk [0] [1] [0, 3] (L' := [(0, v0), (3, v0)]) (w' := w0) (by kernel_rfl) ?_
  rcases opt_cases p0 with hr1 | ⟨y3, hr1⟩
  · rw [hr1] at H
    dsimp only at H
    have hx2 := rd_ptr_none R0 hr1
    try subst hx2
    refine WR.runk [1] [] [0, 4] (L' := [(0, .pointer none), (4, .bool true)]) (w' := w0) (by kernel_rfl) ?_
    refine WR.nil ?_
    refine At.go ?_
    refine WC.condT (by kernel_rfl) (by kernel_rfl) (by kernel_rfl) ?_
    refine WC.seq (by kernel_rfl) ?_
    refine WC.reg [0] (by kernel_rfl) (by kernel_rfl) ?_
    refine WR.runk [0] [] [2] (L' := [(2, .int .i64 0)]) (w' := w0) (by kernel_rfl) ?_
    refine WR.nil ?_
    refine At.go ?_
    refine WC.ret (by kernel_rfl) ?_
    refine At.thenRet ?_
    obtain rfl := Option.some.inj H
    have hS : Sat w0 (rf w0) [] := hS.sel [] (by kernel_rfl)
    exact At.body [.int .i64 0] (by kernel_rfl) ⟨_, rfl, rfl, hS⟩
  · rw [hr1] at H
    dsimp only at H
    obtain ⟨b4, fr5, u9, u11, u13, hv6, hb7, R10, R12, R14⟩ := P49.open R0 hr1
    have R8 := R0
    rw [hv6, hr1] at R8
    try subst hv6
    replace R10 : rd (hp w0) (.ptr 68 (.pair (.int .i64) (.pair (.slice 43 (.int .u64)) (.pair (.slice 3 (.int .i64)) (.int .i64))))) [u9] y3.2.2.2.1 := R10
    replace R12 : rd (hp w0) (.ptr 66 (.pair (.int .i64) (.pair (.int .i64) (.slice 43 (.int .u64))))) [u11] y3.2.2.2.2.1 := R12
    replace R14 : rd (hp w0) (.ptr 66 (.pair (.int .i64) (.pair (.int .i64) (.slice 43 (.int .u64))))) [u13] y3.2.2.2.2.2 := R14
    refine WR.runk [1] [] [0, 4] (L' := [(0, .pointer (some ⟨b4, 0, none⟩)), (4, .bool false)]) (w' := w0) (by kernel_rfl) ?_
    refine WR.nil ?_
    refine At.go ?_
    refine WC.condF (by kernel_rfl) (by kernel_rfl) (by kernel_rfl) ?_
    refine WC.skip (by kernel_rfl) ?_
    refine At.go ?_
    refine WC.seq (by kernel_rfl) ?_
    refine WC.reg [0, 1, 2, 3, 4] (by kernel_rfl) (by kernel_rfl) ?_
    refine WR.runk [0, 1, 2] [3, 4] [7] (L' := [(7, .pointer (some ⟨b4, 1, none⟩))]) (w' := w0) (by kernel_rfl) ?_
    refine WR.st (St.ofR (RSt.loadRo (t := 3) (k := 1) (v := .int .i64 y3.2.1) (.tmp 7) (by kernel_rfl) (by kernel_rfl) (by kernel_rfl) hS.sub0 hb7 (by kernel_rfl) rfl ?_))
    refine WR.runk [4] [] [2] (L' := [(2, .int .i64 y3.2.1)]) (w' := w0) (by kernel_rfl) ?_
    refine WR.nil ?_
    refine At.go ?_
    refine WC.ret (by kernel_rfl) ?_
    obtain rfl := Option.some.inj H
    have hS : Sat w0 (rf w0) [] := hS.sel [] (by kernel_rfl)
    exact At.body [.int .i64 y3.2.1] (by kernel_rfl) ⟨_, rfl, rfl, hS⟩
/-! ### 16 colophon/colophonref03.Below -/
def colophonref03_Below.l1 (l0 : List Int) (a1 : Int) : Nat → Int → Int → Option Int
  | 0, _, _ => none
  | k + 1, x5_l1, x10_l1 => (if decide (x10_l1 < (l0.length : Int)) then ((at? l0 x10_l1).bind fun v2 => (if decide (v2 < a1) then colophonref03_Below.l1 l0 a1 k (wi (x5_l1 + 1)) (wi (x10_l1 + 1)) else colophonref03_Below.l1 l0 a1 k x5_l1 (wi (x10_l1 + 1)))) else some x5_l1)
def colophonref03_Below.f (l0 : List Int) (a1 : Int) : Option Int := ((colophonref03_Below.l1 l0 a1 FU 0 0).bind fun o5 => some o5)
def colophonref03_Below.post (w : World) (r : Int) (v : Value) (w' : World) : Prop := v = (.int .i64 r : Value) ∧ Sat w' (rf w) []
theorem colophonref03_Below.l1_ok {Q} (w0 : World) (A0 : Option Addr) (c0 : Nat) (l0 : List Int) (a1 : Int) (R0 : rdS (r0 (.int .i64)) 1 (hp w0) A0 c0 l0) (out : Int) (hn0 : ∀ (w : World), Sat w (rf w0) [] → At Q (.exit 0) 21 [(5, .int .i64 out)] w) :
    ∀ (k : Nat) (x5_l1 : Int) (x10_l1 : Int) (w : World), Sat w (rf w0) [] → colophonref03_Below.l1 l0 a1 k x5_l1 x10_l1 = some out → WL Try.prog (cbody (cbody (cr (cl (cr (cr C16)))))) Q 21 [(1, .int .i64 a1), (5, .int .i64 x5_l1), (8, .slice A0 l0.length c0), (9, .int .i64 (l0.length : Int)), (10, .int .i64 x10_l1)] w := by
  intro k
  induction k with
  | zero => intro x5_l1 x10_l1 w hS H; exact absurd (show none = some out from H) (by simp)
  | succ k ih =>
    intro x5_l1 x10_l1 w hS H
    unfold colophonref03_Below.l1 at H
    refine WL.round ?_
    refine WC.seq (by kernel_rfl) ?_
    refine WC.reg [0] (by kernel_rfl) (by kernel_rfl) ?_
    refine WR.runk [0] [] [1, 5, 8, 9, 10, 11] (L' := [(1, .int .i64 a1), (5, .int .i64 x5_l1), (8, .slice A0 l0.length c0), (9, .int .i64 (l0.length : Int)), (10, .int .i64 x10_l1), (11, .bool (decide (x10_l1 < (l0.length : Int))))]) (w' := w) (by kernel_rfl) ?_
    refine WR.nil ?_
    refine At.go ?_
    refine WC.seq (by kernel_rfl) ?_
    refine WC.cond (by kernel_rfl) (decide (x10_l1 < (l0.length : Int))) (by kernel_rfl) (by kernel_rfl) (fun hb1 => ?_) (fun hb1 => ?_)
    · replace H := ite_t H hb1
      refine WC.skip (by kernel_rfl) ?_
      refine At.go ?_
      refine WC.seq (by kernel_rfl) ?_
      refine WC.block (by kernel_rfl) ?_
      refine WC.seq (by kernel_rfl) ?_
      refine WC.reg [0, 1, 2] (by kernel_rfl) (by kernel_rfl) ?_
      refine WR.runk [] [0, 1, 2] [1, 5, 8, 9, 10] (L' := [(1, .int .i64 a1), (5, .int .i64 x5_l1), (8, .slice A0 l0.length c0), (9, .int .i64 (l0.length : Int)), (10, .int .i64 x10_l1)]) (w' := w) (by kernel_rfl) ?_
      obtain ⟨v2, e3, H⟩ := bind_ex H
      refine WR.st (St.ofP (PSt.idx (k := .i64) (.tmp 8) (.tmp 10) (by kernel_rfl) (by kernel_rfl) E22 (by kernel_rfl) (by kernel_rfl) (rdS.up R0 hS.sub0) e3 ?_))
      refine WR.runk [] [1, 2] [1, 5, 8, 9, 10, 12] (L' := [(1, .int .i64 a1), (5, .int .i64 x5_l1), (8, .slice A0 l0.length c0), (9, .int .i64 (l0.length : Int)), (10, .int .i64 x10_l1), (12, .pointer (some (adr A0 x10_l1.toNat 1)))]) (w' := w) (by kernel_rfl) ?_
      refine WR.st (St.ofR (RSt.loadInt (t := 3) (.tmp 12) (by kernel_rfl) (by kernel_rfl) (by kernel_rfl) (by kernel_rfl) (rdS.up R0 hS.sub0) e3 ?_))
      refine WR.runk [2] [] [1, 5, 7, 8, 9, 10] (L' := [(1, .int .i64 a1), (5, .int .i64 x5_l1), (7, .int .i64 v2), (8, .slice A0 l0.length c0), (9, .int .i64 (l0.length : Int)), (10, .int .i64 x10_l1)]) (w' := w) (by kernel_rfl) ?_
      refine WR.nil ?_
      refine At.go ?_
      refine WC.seq (by kernel_rfl) ?_
      refine WC.reg [0, 1, 2] (by kernel_rfl) (by kernel_rfl) ?_
      refine WR.runk [0, 1, 2] [] [1, 5, 8, 9, 10, 16] (L' := [(1, .int .i64 a1), (5, .int .i64 x5_l1), (8, .slice A0 l0.length c0), (9, .int .i64 (l0.length : Int)), (10, .int .i64 x10_l1), (16, .bool (decide (v2 < a1)))]) (w' := w) (by kernel_rfl) ?_
      refine WR.nil ?_
      refine At.go ?_
      refine WC.cond (by kernel_rfl) (decide (v2 < a1)) (by kernel_rfl) (by kernel_rfl) (fun hb4 => ?_) (fun hb4 => ?_)
      · replace H := ite_t H hb4
        refine WC.reg [0, 1, 2] (by kernel_rfl) (by kernel_rfl) ?_
        refine WR.runk [0, 1, 2] [] [1, 5, 8, 9, 10] (L' := [(1, .int .i64 a1), (5, .int .i64 (wi (x5_l1 + 1))), (8, .slice A0 l0.length c0), (9, .int .i64 (l0.length : Int)), (10, .int .i64 x10_l1)]) (w' := w) (by kernel_rfl) ?_
        refine WR.nil ?_
        refine At.blockNormal ?_
        refine At.go ?_
        refine WC.reg [0, 1] (by kernel_rfl) (by kernel_rfl) ?_
        refine WR.runk [0, 1] [] [1, 5, 8, 9, 10] (L' := [(1, .int .i64 a1), (5, .int .i64 (wi (x5_l1 + 1))), (8, .slice A0 l0.length c0), (9, .int .i64 (l0.length : Int)), (10, .int .i64 (wi (x10_l1 + 1)))]) (w' := w) (by kernel_rfl) ?_
        refine WR.nil ?_
        have hS : Sat w (rf w0) [] := hS.sel [] (by kernel_rfl)
        refine At.again ?_
        refine WL.weaken [1, 5, 8, 9, 10] (L' := [(1, .int .i64 a1), (5, .int .i64 (wi (x5_l1 + 1))), (8, .slice A0 l0.length c0), (9, .int .i64 (l0.length : Int)), (10, .int .i64 (wi (x10_l1 + 1)))]) (by kernel_rfl) ?_
        exact ih (wi (x5_l1 + 1)) (wi (x10_l1 + 1)) _ hS H
      · replace H := ite_f H hb4
        refine WC.skip (by kernel_rfl) ?_
        refine At.blockNormal ?_
        refine At.go ?_
        refine WC.reg [0, 1] (by kernel_rfl) (by kernel_rfl) ?_
        refine WR.runk [0, 1] [] [1, 5, 8, 9, 10] (L' := [(1, .int .i64 a1), (5, .int .i64 x5_l1), (8, .slice A0 l0.length c0), (9, .int .i64 (l0.length : Int)), (10, .int .i64 (wi (x10_l1 + 1)))]) (w' := w) (by kernel_rfl) ?_
        refine WR.nil ?_
        have hS : Sat w (rf w0) [] := hS.sel [] (by kernel_rfl)
        refine At.again ?_
        refine WL.weaken [1, 5, 8, 9, 10] (L' := [(1, .int .i64 a1), (5, .int .i64 x5_l1), (8, .slice A0 l0.length c0), (9, .int .i64 (l0.length : Int)), (10, .int .i64 (wi (x10_l1 + 1)))]) (by kernel_rfl) ?_
        exact ih x5_l1 (wi (x10_l1 + 1)) _ hS H
    · replace H := ite_f H hb1
      refine WC.exit (by kernel_rfl) ?_
      refine At.thenExit ?_
      refine At.thenExit ?_
      obtain rfl := Option.some.inj H
      have hS : Sat w (rf w0) [] := hS.sel [] (by kernel_rfl)
      refine At.weaken [5] (L' := [(5, .int .i64 x5_l1)]) (by kernel_rfl) ?_
      exact hn0 _ hS
theorem colophonref03_Below.calls (w0 : World) (A0 : Option Addr) (c0 : Nat) (l0 : List Int) (R0 : rdS (r0 (.int .i64)) 1 (hp w0) A0 c0 l0) (a1 : Int) (r : Int) (H : colophonref03_Below.f l0 a1 = some r) :
    Calls Try.prog 16 #[.slice A0 l0.length c0, .int .i64 a1] w0 (fun e w' => ∃ v, e = .returned v ∧ colophonref03_Below.post w0 r v w') := by
  have hS : Sat w0 (rf w0) [] := Sat.start w0
  unfold colophonref03_Below.f at H
  refine calls_of_WC (vs := [.slice A0 l0.length c0, .int .i64 a1]) Try.func16 (c := C16) (n := 21) (by kernel_rfl) (by kernel_rfl) (by kernel_rfl) ?_
  refine WC.seq (by kernel_rfl) ?_
  refine WC.reg [0] (by kernel_rfl) (by kernel_rfl) ?_
  refine WR.runk [0] [] [0, 1] (L' := [(0, .slice A0 l0.length c0), (1, .int .i64 a1)]) (w' := w0) (by kernel_rfl) ?_
  refine WR.nil ?_
  refine At.go ?_
  refine WC.seq (by kernel_rfl) ?_
  refine WC.reg [0] (by kernel_rfl) (by kernel_rfl) ?_
  refine WR.runk [0] [] [0, 1, 5] (L' := [(0, .slice A0 l0.length c0), (1, .int .i64 a1), (5, .int .i64 0)]) (w' := w0) (by kernel_rfl) ?_
  refine WR.nil ?_
  refine At.go ?_
  refine WC.seq (by kernel_rfl) ?_
  refine WC.seq (by kernel_rfl) ?_
  refine WC.reg [0, 1, 2] (by kernel_rfl) (by kernel_rfl) ?_
  refine WR.runk [0, 1, 2] [] [1, 5, 8, 9, 10] (L' := [(1, .int .i64 a1), (5, .int .i64 0), (8, .slice A0 l0.length c0), (9, .int .i64 (l0.length : Int)), (10, .int .i64 0)]) (w' := w0) (by kernel_rfl) ?_
  refine WR.nil ?_
  refine At.go ?_
  refine WC.block (by kernel_rfl) ?_
  have hS : Sat w0 (rf w0) [] := hS.sel [] (by kernel_rfl)
  obtain ⟨o5, e6, H⟩ := bind_ex H
  refine WC.loop (by kernel_rfl) ?_
  refine WL.weaken [1, 5, 8, 9, 10] (L' := [(1, .int .i64 a1), (5, .int .i64 0), (8, .slice A0 l0.length c0), (9, .int .i64 (l0.length : Int)), (10, .int .i64 0)]) (by kernel_rfl) ?_
  refine colophonref03_Below.l1_ok w0 A0 c0 l0 a1 R0 o5 (fun w8 hS => ?_) FU 0 0 _ hS e6
  refine At.hit ?_
  refine At.go ?_
  refine WC.seq (by kernel_rfl) ?_
  refine WC.reg [0, 1] (by kernel_rfl) (by kernel_rfl) ?_
  refine WR.runk [0, 1] [] [4] (L' := [(4, .int .i64 o5)]) (w' := w8) (by kernel_rfl) ?_
  refine WR.nil ?_
  refine At.go ?_
  refine WC.ret (by kernel_rfl) ?_
  obtain rfl := Option.some.inj H
  have hS : Sat w8 (rf w0) [] := hS.sel [] (by kernel_rfl)
  exact At.body [.int .i64 o5] (by kernel_rfl) ⟨_, rfl, rfl, hS⟩
/-! ### 28 colophon/colophonref03.Width -/
def colophonref03_Width.l1 : Nat → Int → Int → Option Int
  | 0, _, _ => none
  | k + 1, x5_l1, x6_l1 => (if decide (x6_l1 > 0) then colophonref03_Width.l1 k (wi (x5_l1 + 1)) (wi (Int.tdiv x6_l1 2)) else some x5_l1)
def colophonref03_Width.f (a0 : Int) (a1 : Int) : Option Int := ((chk? (decide (a1 ≠ 0))).bind fun _ => ((colophonref03_Width.l1 FU (-1) (wi (Int.tdiv a0 a1))).bind fun o3 => some (imax o3 0)))
def colophonref03_Width.post (w : World) (r : Int) (v : Value) (w' : World) : Prop := v = (.int .i64 r : Value) ∧ Sat w' (rf w) []
theorem colophonref03_Width.l1_ok {Q} (w0 : World) (out : Int) (hn0 : ∀ (w : World), Sat w (rf w0) [] → At Q (.exit 0) 18 [(5, .int .i64 out)] w) :
    ∀ (k : Nat) (x5_l1 : Int) (x6_l1 : Int) (w : World), Sat w (rf w0) [] → colophonref03_Width.l1 k x5_l1 x6_l1 = some out → WL Try.prog (cbody (cbody (cr (cl (cr (cr C28)))))) Q 18 [(5, .int .i64 x5_l1), (6, .int .i64 x6_l1)] w := by
  intro k
  induction k with
  | zero => intro x5_l1 x6_l1 w hS H; exact absurd (show none = some out from H) (by simp)
  | succ k ih =>
    intro x5_l1 x6_l1 w hS H
    unfold colophonref03_Width.l1 at H
    refine WL.round ?_
    refine WC.seq (by kernel_rfl) ?_
    refine WC.seq (by kernel_rfl) ?_
    refine WC.reg [0, 1] (by kernel_rfl) (by kernel_rfl) ?_
    refine WR.runk [0, 1] [] [5, 6, 11] (L' := [(5, .int .i64 x5_l1), (6, .int .i64 x6_l1), (11, .bool (decide (x6_l1 > 0)))]) (w' := w) (by kernel_rfl) ?_
    refine WR.nil ?_
    refine At.go ?_
    refine WC.cond (by kernel_rfl) (decide (x6_l1 > 0)) (by kernel_rfl) (by kernel_rfl) (fun hb2 => ?_) (fun hb2 => ?_)
    · replace H := ite_t H hb2
      refine WC.skip (by kernel_rfl) ?_
      refine At.go ?_
      refine WC.seq (by kernel_rfl) ?_
      refine WC.block (by kernel_rfl) ?_
      refine WC.reg [0, 1, 2] (by kernel_rfl) (by kernel_rfl) ?_
      refine WR.runk [0, 1, 2] [] [5, 6] (L' := [(5, .int .i64 (wi (x5_l1 + 1))), (6, .int .i64 x6_l1)]) (w' := w) (by kernel_rfl) ?_
      refine WR.nil ?_
      refine At.blockNormal ?_
      refine At.go ?_
      refine WC.reg [0, 1, 2] (by kernel_rfl) (by kernel_rfl) ?_
      refine WR.runk [0, 1, 2] [] [5, 6] (L' := [(5, .int .i64 (wi (x5_l1 + 1))), (6, .int .i64 (wi (Int.tdiv x6_l1 2)))]) (w' := w) (by kernel_rfl) ?_
      refine WR.nil ?_
      have hS : Sat w (rf w0) [] := hS.sel [] (by kernel_rfl)
      refine At.again ?_
      refine WL.weaken [5, 6] (L' := [(5, .int .i64 (wi (x5_l1 + 1))), (6, .int .i64 (wi (Int.tdiv x6_l1 2)))]) (by kernel_rfl) ?_
      exact ih (wi (x5_l1 + 1)) (wi (Int.tdiv x6_l1 2)) _ hS H
    · replace H := ite_f H hb2
      refine WC.exit (by kernel_rfl) ?_
      refine At.thenExit ?_
      refine At.thenExit ?_
      obtain rfl := Option.some.inj H
      have hS : Sat w (rf w0) [] := hS.sel [] (by kernel_rfl)
      refine At.weaken [5] (L' := [(5, .int .i64 x5_l1)]) (by kernel_rfl) ?_
      exact hn0 _ hS
theorem colophonref03_Width.calls (w0 : World) (a0 : Int) (a1 : Int) (r : Int) (H : colophonref03_Width.f a0 a1 = some r) :
    Calls Try.prog 28 #[.int .i64 a0, .int .i64 a1] w0 (fun e w' => ∃ v, e = .returned v ∧ colophonref03_Width.post w0 r v w') := by
  have hS : Sat w0 (rf w0) [] := Sat.start w0
  unfold colophonref03_Width.f at H
  refine calls_of_WC (vs := [.int .i64 a0, .int .i64 a1]) Try.func28 (c := C28) (n := 18) (by kernel_rfl) (by kernel_rfl) (by kernel_rfl) ?_
  refine WC.seq (by kernel_rfl) ?_
  refine WC.reg [0] (by kernel_rfl) (by kernel_rfl) ?_
  refine WR.runk [0] [] [0, 1] (L' := [(0, .int .i64 a0), (1, .int .i64 a1)]) (w' := w0) (by kernel_rfl) ?_
  refine WR.nil ?_
  refine At.go ?_
  refine WC.seq (by kernel_rfl) ?_
  refine WC.reg [0] (by kernel_rfl) (by kernel_rfl) ?_
  refine WR.runk [0] [] [0, 1, 5] (L' := [(0, .int .i64 a0), (1, .int .i64 a1), (5, .int .i64 (-1))]) (w' := w0) (by kernel_rfl) ?_
  refine WR.nil ?_
  refine At.go ?_
  refine WC.seq (by kernel_rfl) ?_
  refine WC.seq (by kernel_rfl) ?_
  refine WC.reg [0, 1, 2, 3] (by kernel_rfl) (by kernel_rfl) ?_
  refine WR.runk [0, 1] [2, 3] [5, 7, 8] (L' := [(5, .int .i64 (-1)), (7, .int .i64 a0), (8, .int .i64 a1)]) (w' := w0) (by kernel_rfl) ?_
  obtain ⟨_, e1, H⟩ := bind_ex H
  refine WR.st (St.ofP (PSt.div (k := .i64) (t := 3) (t2 := 3) (a := a0) (b := a1) .quo (by decide) (.tmp 7) (.tmp 8) (by kernel_rfl) (by kernel_rfl) (by kernel_rfl) (by kernel_rfl) (of_decide_eq_true (chk?_some e1)) ?_))
  refine WR.runk [3] [] [5, 6] (L' := [(5, .int .i64 (-1)), (6, .int .i64 (wi (Int.tdiv a0 a1)))]) (w' := w0) (by kernel_rfl) ?_
  refine WR.nil ?_
  refine At.go ?_
  refine WC.block (by kernel_rfl) ?_
  have hS : Sat w0 (rf w0) [] := hS.sel [] (by kernel_rfl)
  obtain ⟨o3, e4, H⟩ := bind_ex H
  refine WC.loop (by kernel_rfl) ?_
  refine WL.weaken [5, 6] (L' := [(5, .int .i64 (-1)), (6, .int .i64 (wi (Int.tdiv a0 a1)))]) (by kernel_rfl) ?_
  refine colophonref03_Width.l1_ok w0 o3 (fun w6 hS => ?_) FU (-1) (wi (Int.tdiv a0 a1)) _ hS e4
  refine At.hit ?_
  refine At.go ?_
  refine WC.seq (by kernel_rfl) ?_
  refine WC.reg [0, 1, 2] (by kernel_rfl) (by kernel_rfl) ?_
  refine WR.runk [0, 1, 2] [] [4] (L' := [(4, .int .i64 (imax o3 0))]) (w' := w6) (by kernel_rfl) ?_
  refine WR.nil ?_
  refine At.go ?_
  refine WC.ret (by kernel_rfl) ?_
  obtain rfl := Option.some.inj H
  have hS : Sat w6 (rf w0) [] := hS.sel [] (by kernel_rfl)
  exact At.body [.int .i64 (imax o3 0)] (by kernel_rfl) ⟨_, rfl, rfl, hS⟩
end Go.Proofs.Ytomeiphaohjeoaa
