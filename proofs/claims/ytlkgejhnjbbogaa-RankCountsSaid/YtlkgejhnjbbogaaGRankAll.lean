/-
  Printed by gen.py (my own tool): for each Go function a plain Lean function and the proof that a call of it does what that function says.
-/
import Derived.Test.YtlkgejhnjbbogaaGP1b
set_option linter.unusedVariables false
set_option linter.unusedSimpArgs false
set_option maxRecDepth 100000
namespace Go.Proofs.Ytlkgejhnjbbogaa
open Go Go.Gol
/-! ### 6 colophon/colophonlaw02.RankAll -/
def colophonlaw02_RankAll.l1 (l0 : List Int) (y22 : Int × (List Int) × (List Int) × Int) : Nat → Int → Int → Int → Option (Sum Bool (Int × Int))
  | 0, _, _, _ => none
  | k + 1, x4_l1, x5_l1, x17_l1 => (if decide (x17_l1 < (l0.length : Int)) then ((at? l0 x17_l1).bind fun v28 => ((rank_Vec_Rank.f (some y22) x17_l1).bind fun r30 => (if (r30 != x4_l1) then some (.inl false) else ((rank_Vec_Zeros.f (some y22) x17_l1).bind fun r40 => (if (r40 != x5_l1) then some (.inl false) else ((rank_Vec_At.f (some y22) x17_l1).bind fun r50 => (if (r50 != ((iand .u8 v28 1) == 1)) then some (.inl false) else (if ((iand .u8 v28 1) == 1) then ((rank_Vec_Select.f (some y22) x4_l1).bind fun r61 => (if (r61 != x17_l1) then some (.inl false) else colophonlaw02_RankAll.l1 l0 y22 k (wi (x4_l1 + 1)) x5_l1 (wi (x17_l1 + 1)))) else ((rank_Vec_SelectZero.f (some y22) x5_l1).bind fun r71 => (if (r71 != x17_l1) then some (.inl false) else colophonlaw02_RankAll.l1 l0 y22 k x4_l1 (wi (x5_l1 + 1)) (wi (x17_l1 + 1)))))))))))) else some (.inr (x4_l1, x5_l1)))
def colophonlaw02_RankAll.f (l0 : List Int) : Option Bool := (colophonlaw02_first.f.bind fun r1 => (if (!r1) then some false else (if decide ((l0.length : Int) > 1500) then some true else ((colophonlaw02_Vec.f l0).bind fun r12 => (r12.bind fun y22 => ((colophonlaw02_RankAll.l1 l0 y22 FU 0 0 0).bind fun o81 => (match o81 with | .inl o83 => some o83 | .inr o87 => ((rank_Vec_Rank.f (some y22) (l0.length : Int)).bind fun r91 => (if (r91 == o87.1) then ((rank_Vec_Select.f (some y22) o87.1).bind fun r101 => (if (r101 == (-1)) then ((rank_Vec_SelectZero.f (some y22) o87.2).bind fun r111 => (if (r111 == (-1)) then ((rank_Vec_Select.f (some y22) (-1)).bind fun r121 => some (r121 == (-1))) else some false)) else some false)) else some false)))))))))
def colophonlaw02_RankAll.post (w : World) (r : Bool) (v : Value) (w' : World) : Prop := v = (.bool r : Value) ∧ Sat w' (rf w) []
theorem colophonlaw02_RankAll.l1_ok {Q} (w0 : World) (A0 : Option Addr) (c0 : Nat) (l0 : List Int) (y22 : Int × (List Int) × (List Int) × Int) (b25 : Nat) (R0 : rdS (r0 (.int .u8)) 1 (hp w0) A0 c0 l0) (out : Sum Bool (Int × Int)) (hn0 : ∀ (o0 : Bool) (w : World), out = (.inl o0) → Sat w (rf w0) [O47 b25 y22] → At Q .ret 84 [(2, .bool o0)] w) (hn1 : ∀ (o1 : Int × Int) (w : World), out = (.inr o1) → Sat w (rf w0) [O47 b25 y22] → At Q (.exit 0) 84 [(0, .slice A0 l0.length c0), (3, .pointer (some ⟨b25, 0, none⟩)), (4, .int .i64 o1.1), (5, .int .i64 o1.2)] w) :
    ∀ (k : Nat) (x4_l1 : Int) (x5_l1 : Int) (x17_l1 : Int) (w : World), Sat w (rf w0) [O47 b25 y22] → colophonlaw02_RankAll.l1 l0 y22 k x4_l1 x5_l1 x17_l1 = some out → WL Try.prog (cbody (cbody (cr (cl (cr (cr (cr (cr (cr C6))))))))) Q 84 [(0, .slice A0 l0.length c0), (3, .pointer (some ⟨b25, 0, none⟩)), (4, .int .i64 x4_l1), (5, .int .i64 x5_l1), (15, .slice A0 l0.length c0), (16, .int .i64 (l0.length : Int)), (17, .int .i64 x17_l1)] w := by
  intro k
  induction k with
  | zero => intro x4_l1 x5_l1 x17_l1 w hS H; exact absurd (show none = some out from H) (by simp)
  | succ k ih =>
    intro x4_l1 x5_l1 x17_l1 w hS H
    unfold colophonlaw02_RankAll.l1 at H
    refine WL.round ?_
    refine WC.seq (by kernel_rfl) ?_
    refine WC.reg [0] (by kernel_rfl) (by kernel_rfl) ?_
    refine WR.runk [0] [] [0, 3, 4, 5, 15, 16, 17, 18] (L' := [(0, .slice A0 l0.length c0), (3, .pointer (some ⟨b25, 0, none⟩)), (4, .int .i64 x4_l1), (5, .int .i64 x5_l1), (15, .slice A0 l0.length c0), (16, .int .i64 (l0.length : Int)), (17, .int .i64 x17_l1), (18, .bool (decide (x17_l1 < (l0.length : Int))))]) (w' := w) (by kernel_rfl) ?_
    refine WR.nil ?_
    refine At.go ?_
    refine WC.seq (by kernel_rfl) ?_
    refine WC.cond (by kernel_rfl) (decide (x17_l1 < (l0.length : Int))) (by kernel_rfl) (by kernel_rfl) (fun hb27 => ?_) (fun hb27 => ?_)
    · replace H := ite_t H hb27
      refine WC.skip (by kernel_rfl) ?_
      refine At.go ?_
      refine WC.seq (by kernel_rfl) ?_
      refine WC.block (by kernel_rfl) ?_
      refine WC.seq (by kernel_rfl) ?_
      refine WC.reg [0, 1, 2, 3, 4] (by kernel_rfl) (by kernel_rfl) ?_
      refine WR.runk [0] [1, 2, 3, 4] [0, 3, 4, 5, 15, 16, 17, 19] (L' := [(0, .slice A0 l0.length c0), (3, .pointer (some ⟨b25, 0, none⟩)), (4, .int .i64 x4_l1), (5, .int .i64 x5_l1), (15, .slice A0 l0.length c0), (16, .int .i64 (l0.length : Int)), (17, .int .i64 x17_l1), (19, .int .i64 x17_l1)]) (w' := w) (by kernel_rfl) ?_
      obtain ⟨v28, e29, H⟩ := bind_ex H
      refine WR.st (St.ofP (PSt.idx (k := .i64) (.tmp 15) (.tmp 17) (by kernel_rfl) (by kernel_rfl) E22 (by kernel_rfl) (by kernel_rfl) (rdS.up R0 hS.sub0) e29 ?_))
      refine WR.runk [] [2, 3, 4] [0, 3, 4, 5, 15, 16, 17, 19, 20] (L' := [(0, .slice A0 l0.length c0), (3, .pointer (some ⟨b25, 0, none⟩)), (4, .int .i64 x4_l1), (5, .int .i64 x5_l1), (15, .slice A0 l0.length c0), (16, .int .i64 (l0.length : Int)), (17, .int .i64 x17_l1), (19, .int .i64 x17_l1), (20, .pointer (some (adr A0 x17_l1.toNat 1)))]) (w' := w) (by kernel_rfl) ?_
      refine WR.st (St.ofR (RSt.loadInt (t := 5) (.tmp 20) (by kernel_rfl) (by kernel_rfl) (by kernel_rfl) (by kernel_rfl) (rdS.up R0 hS.sub0) e29 ?_))
      refine WR.runk [3, 4] [] [0, 3, 4, 5, 6, 7, 15, 16, 17] (L' := [(0, .slice A0 l0.length c0), (3, .pointer (some ⟨b25, 0, none⟩)), (4, .int .i64 x4_l1), (5, .int .i64 x5_l1), (6, .int .i64 x17_l1), (7, .int .u8 v28), (15, .slice A0 l0.length c0), (16, .int .i64 (l0.length : Int)), (17, .int .i64 x17_l1)]) (w' := w) (by kernel_rfl) ?_
      refine WR.nil ?_
      refine At.go ?_
      refine WC.seq (by kernel_rfl) ?_
      refine WC.seq (by kernel_rfl) ?_
      refine WC.reg [0, 1, 2, 3, 4, 5, 6, 7, 8, 9, 10, 11, 12, 13, 14, 15, 16, 17, 18, 19, 20] (by kernel_rfl) (by kernel_rfl) ?_
      refine WR.runk [0, 1] [2, 3, 4, 5, 6, 7, 8, 9, 10, 11, 12, 13, 14, 15, 16, 17, 18, 19, 20] [0, 3, 4, 5, 6, 7, 15, 16, 17, 22, 23] (L' := [(0, .slice A0 l0.length c0), (3, .pointer (some ⟨b25, 0, none⟩)), (4, .int .i64 x4_l1), (5, .int .i64 x5_l1), (6, .int .i64 x17_l1), (7, .int .u8 v28), (15, .slice A0 l0.length c0), (16, .int .i64 (l0.length : Int)), (17, .int .i64 x17_l1), (22, .pointer (some ⟨b25, 0, none⟩)), (23, .int .i64 x17_l1)]) (w' := w) (by kernel_rfl) ?_
      obtain ⟨r30, e31, H⟩ := bind_ex H
      refine WR.st (St.call (by kernel_rfl) (f := 11) (args := #[.pointer (some ⟨b25, 0, none⟩), .int .i64 x17_l1]) (by kernel_rfl) (rank_Vec_Rank.calls w (.pointer (some ⟨b25, 0, none⟩)) (some y22) (Sat.rdAny 0 hS rfl (fun _ h => O47.rd _ _ _ h)) x17_l1 r30 e31) ?_)
      rintro _ w37 ⟨rfl, hS38⟩
      have hS : Sat w37 (rf w0) [O47 b25 y22] := hS.ext hS38
      refine WR.runk [3, 4, 5] [6, 7, 8, 9, 10, 11, 12, 13, 14, 15, 16, 17, 18, 19, 20] [0, 3, 4, 5, 6, 7, 15, 16, 17, 27] (L' := [(0, .slice A0 l0.length c0), (3, .pointer (some ⟨b25, 0, none⟩)), (4, .int .i64 x4_l1), (5, .int .i64 x5_l1), (6, .int .i64 x17_l1), (7, .int .u8 v28), (15, .slice A0 l0.length c0), (16, .int .i64 (l0.length : Int)), (17, .int .i64 x17_l1), (27, .bool (r30 != x4_l1))]) (w' := w37) (by kernel_rfl) ?_
      refine WR.split 27 (b := (r30 != x4_l1)) (by kernel_rfl) (fun hb39 => ?_) (fun hb39 => ?_)
      · replace H := ite_t H hb39
        refine WR.runk [6, 7, 8, 9, 10, 11, 12, 13, 14, 15, 16, 17, 18, 19, 20] [] [0, 3, 4, 5, 6, 7, 15, 16, 17, 28, 29, 30, 31, 32, 35, 36, 37, 38, 39, 40, 41, 42] (L' := [(0, .slice A0 l0.length c0), (3, .pointer (some ⟨b25, 0, none⟩)), (4, .int .i64 x4_l1), (5, .int .i64 x5_l1), (6, .int .i64 x17_l1), (7, .int .u8 v28), (15, .slice A0 l0.length c0), (16, .int .i64 (l0.length : Int)), (17, .int .i64 x17_l1), (28, undef), (29, undef), (30, undef), (31, undef), (32, undef), (35, undef), (36, undef), (37, undef), (38, undef), (39, undef), (40, undef), (41, undef), (42, .bool true)]) (w' := w37) (by kernel_rfl) ?_
        refine WR.nil ?_
        refine At.go ?_
        refine WC.condT (by kernel_rfl) (by kernel_rfl) (by kernel_rfl) ?_
        refine WC.seq (by kernel_rfl) ?_
        refine WC.reg [0] (by kernel_rfl) (by kernel_rfl) ?_
        refine WR.runk [0] [] [2] (L' := [(2, .bool false)]) (w' := w37) (by kernel_rfl) ?_
        refine WR.nil ?_
        refine At.go ?_
        refine WC.ret (by kernel_rfl) ?_
        refine At.thenRet ?_
        refine At.blockRet ?_
        refine At.thenRet ?_
        refine At.thenRet ?_
        obtain rfl := Option.some.inj H
        have hS : Sat w37 (rf w0) [O47 b25 y22] := hS.sel [0] (by kernel_rfl)
        refine At.weaken [2] (L' := [(2, .bool false)]) (by kernel_rfl) ?_
        exact hn0 false _ rfl hS
      · replace H := ite_f H hb39
        refine WR.runk [6, 7] [8, 9, 10, 11, 12, 13, 14, 15, 16, 17, 18, 19, 20] [0, 3, 4, 5, 6, 7, 15, 16, 17, 27, 28, 29] (L' := [(0, .slice A0 l0.length c0), (3, .pointer (some ⟨b25, 0, none⟩)), (4, .int .i64 x4_l1), (5, .int .i64 x5_l1), (6, .int .i64 x17_l1), (7, .int .u8 v28), (15, .slice A0 l0.length c0), (16, .int .i64 (l0.length : Int)), (17, .int .i64 x17_l1), (27, .bool false), (28, .pointer (some ⟨b25, 0, none⟩)), (29, .int .i64 x17_l1)]) (w' := w37) (by kernel_rfl) ?_
        obtain ⟨r40, e41, H⟩ := bind_ex H
        refine WR.st (St.call (by kernel_rfl) (f := 12) (args := #[.pointer (some ⟨b25, 0, none⟩), .int .i64 x17_l1]) (by kernel_rfl) (rank_Vec_Zeros.calls w37 (.pointer (some ⟨b25, 0, none⟩)) (some y22) (Sat.rdAny 0 hS rfl (fun _ h => O47.rd _ _ _ h)) x17_l1 r40 e41) ?_)
        rintro _ w47 ⟨rfl, hS48⟩
        have hS : Sat w47 (rf w0) [O47 b25 y22] := hS.ext hS48
        refine WR.runk [9, 10, 11, 12] [13, 14, 15, 16, 17, 18, 19, 20] [0, 3, 4, 5, 6, 7, 15, 16, 17, 28, 29, 30, 31, 32, 34] (L' := [(0, .slice A0 l0.length c0), (3, .pointer (some ⟨b25, 0, none⟩)), (4, .int .i64 x4_l1), (5, .int .i64 x5_l1), (6, .int .i64 x17_l1), (7, .int .u8 v28), (15, .slice A0 l0.length c0), (16, .int .i64 (l0.length : Int)), (17, .int .i64 x17_l1), (28, .pointer (some ⟨b25, 0, none⟩)), (29, .int .i64 x17_l1), (30, .int .i64 r40), (31, .int .i64 x5_l1), (32, .bool (r40 != x5_l1)), (34, .bool (r40 != x5_l1))]) (w' := w47) (by kernel_rfl) ?_
        refine WR.split 34 (b := (r40 != x5_l1)) (by kernel_rfl) (fun hb49 => ?_) (fun hb49 => ?_)
        · replace H := ite_t H hb49
          refine WR.runk [13, 14, 15, 16, 17, 18, 19, 20] [] [0, 3, 4, 5, 6, 7, 15, 16, 17, 28, 29, 30, 31, 32, 35, 36, 37, 38, 39, 40, 41, 42] (L' := [(0, .slice A0 l0.length c0), (3, .pointer (some ⟨b25, 0, none⟩)), (4, .int .i64 x4_l1), (5, .int .i64 x5_l1), (6, .int .i64 x17_l1), (7, .int .u8 v28), (15, .slice A0 l0.length c0), (16, .int .i64 (l0.length : Int)), (17, .int .i64 x17_l1), (28, .pointer (some ⟨b25, 0, none⟩)), (29, .int .i64 x17_l1), (30, .int .i64 r40), (31, .int .i64 x5_l1), (32, .bool (r40 != x5_l1)), (35, undef), (36, undef), (37, undef), (38, undef), (39, undef), (40, undef), (41, undef), (42, .bool true)]) (w' := w47) (by kernel_rfl) ?_
          refine WR.nil ?_
          refine At.go ?_
          refine WC.condT (by kernel_rfl) (by kernel_rfl) (by kernel_rfl) ?_
          refine WC.seq (by kernel_rfl) ?_
          refine WC.reg [0] (by kernel_rfl) (by kernel_rfl) ?_
          refine WR.runk [0] [] [2] (L' := [(2, .bool false)]) (w' := w47) (by kernel_rfl) ?_
          refine WR.nil ?_
          refine At.go ?_
          refine WC.ret (by kernel_rfl) ?_
          refine At.thenRet ?_
          refine At.blockRet ?_
          refine At.thenRet ?_
          refine At.thenRet ?_
          obtain rfl := Option.some.inj H
          have hS : Sat w47 (rf w0) [O47 b25 y22] := hS.sel [0] (by kernel_rfl)
          refine At.weaken [2] (L' := [(2, .bool false)]) (by kernel_rfl) ?_
          exact hn0 false _ rfl hS
        · replace H := ite_f H hb49
          refine WR.runk [13, 14] [15, 16, 17, 18, 19, 20] [0, 3, 4, 5, 6, 7, 15, 16, 17, 28, 29, 30, 31, 32, 34, 35, 36] (L' := [(0, .slice A0 l0.length c0), (3, .pointer (some ⟨b25, 0, none⟩)), (4, .int .i64 x4_l1), (5, .int .i64 x5_l1), (6, .int .i64 x17_l1), (7, .int .u8 v28), (15, .slice A0 l0.length c0), (16, .int .i64 (l0.length : Int)), (17, .int .i64 x17_l1), (28, .pointer (some ⟨b25, 0, none⟩)), (29, .int .i64 x17_l1), (30, .int .i64 r40), (31, .int .i64 x5_l1), (32, .bool (r40 != x5_l1)), (34, .bool false), (35, .pointer (some ⟨b25, 0, none⟩)), (36, .int .i64 x17_l1)]) (w' := w47) (by kernel_rfl) ?_
          obtain ⟨r50, e51, H⟩ := bind_ex H
          refine WR.st (St.call (by kernel_rfl) (f := 18) (args := #[.pointer (some ⟨b25, 0, none⟩), .int .i64 x17_l1]) (by kernel_rfl) (rank_Vec_At.calls w47 (.pointer (some ⟨b25, 0, none⟩)) (some y22) (Sat.rdAny 0 hS rfl (fun _ h => O47.rd _ _ _ h)) x17_l1 r50 e51) ?_)
          rintro _ w57 ⟨rfl, hS58⟩
          have hS : Sat w57 (rf w0) [O47 b25 y22] := hS.ext hS58
          refine WR.runk [16, 17, 18, 19, 20] [] [0, 3, 4, 5, 6, 7, 15, 16, 17, 28, 29, 30, 31, 32, 35, 36, 37, 38, 39, 40, 41, 42] (L' := [(0, .slice A0 l0.length c0), (3, .pointer (some ⟨b25, 0, none⟩)), (4, .int .i64 x4_l1), (5, .int .i64 x5_l1), (6, .int .i64 x17_l1), (7, .int .u8 v28), (15, .slice A0 l0.length c0), (16, .int .i64 (l0.length : Int)), (17, .int .i64 x17_l1), (28, .pointer (some ⟨b25, 0, none⟩)), (29, .int .i64 x17_l1), (30, .int .i64 r40), (31, .int .i64 x5_l1), (32, .bool (r40 != x5_l1)), (35, .pointer (some ⟨b25, 0, none⟩)), (36, .int .i64 x17_l1), (37, .bool r50), (38, .int .u8 v28), (39, .int .u8 (iand .u8 v28 1)), (40, .bool ((iand .u8 v28 1) == 1)), (41, .bool (r50 != ((iand .u8 v28 1) == 1))), (42, .bool (r50 != ((iand .u8 v28 1) == 1)))]) (w' := w57) (by kernel_rfl) ?_
          refine WR.nil ?_
          refine At.go ?_
          refine WC.cond (by kernel_rfl) (r50 != ((iand .u8 v28 1) == 1)) (by kernel_rfl) (by kernel_rfl) (fun hb59 => ?_) (fun hb59 => ?_)
          · replace H := ite_t H hb59
            refine WC.seq (by kernel_rfl) ?_
            refine WC.reg [0] (by kernel_rfl) (by kernel_rfl) ?_
            refine WR.runk [0] [] [2] (L' := [(2, .bool false)]) (w' := w57) (by kernel_rfl) ?_
            refine WR.nil ?_
            refine At.go ?_
            refine WC.ret (by kernel_rfl) ?_
            refine At.thenRet ?_
            refine At.blockRet ?_
            refine At.thenRet ?_
            refine At.thenRet ?_
            obtain rfl := Option.some.inj H
            have hS : Sat w57 (rf w0) [O47 b25 y22] := hS.sel [0] (by kernel_rfl)
            refine At.weaken [2] (L' := [(2, .bool false)]) (by kernel_rfl) ?_
            exact hn0 false _ rfl hS
          · replace H := ite_f H hb59
            refine WC.skip (by kernel_rfl) ?_
            refine At.go ?_
            refine WC.seq (by kernel_rfl) ?_
            refine WC.reg [0, 1, 2] (by kernel_rfl) (by kernel_rfl) ?_
            refine WR.runk [0, 1, 2] [] [0, 3, 4, 5, 6, 15, 16, 17, 28, 29, 30, 31, 32, 35, 36, 37, 38, 39, 40, 45] (L' := [(0, .slice A0 l0.length c0), (3, .pointer (some ⟨b25, 0, none⟩)), (4, .int .i64 x4_l1), (5, .int .i64 x5_l1), (6, .int .i64 x17_l1), (15, .slice A0 l0.length c0), (16, .int .i64 (l0.length : Int)), (17, .int .i64 x17_l1), (28, .pointer (some ⟨b25, 0, none⟩)), (29, .int .i64 x17_l1), (30, .int .i64 r40), (31, .int .i64 x5_l1), (32, .bool (r40 != x5_l1)), (35, .pointer (some ⟨b25, 0, none⟩)), (36, .int .i64 x17_l1), (37, .bool r50), (38, .int .u8 v28), (39, .int .u8 (iand .u8 v28 1)), (40, .bool ((iand .u8 v28 1) == 1)), (45, .bool ((iand .u8 v28 1) == 1))]) (w' := w57) (by kernel_rfl) ?_
            refine WR.nil ?_
            refine At.go ?_
            refine WC.cond (by kernel_rfl) ((iand .u8 v28 1) == 1) (by kernel_rfl) (by kernel_rfl) (fun hb60 => ?_) (fun hb60 => ?_)
            · replace H := ite_t H hb60
              refine WC.seq (by kernel_rfl) ?_
              refine WC.seq (by kernel_rfl) ?_
              refine WC.reg [0, 1, 2, 3, 4] (by kernel_rfl) (by kernel_rfl) ?_
              refine WR.runk [0, 1] [2, 3, 4] [0, 3, 4, 5, 6, 15, 16, 17, 28, 29, 30, 31, 32, 35, 36, 37, 38, 39, 40, 46, 47] (L' := [(0, .slice A0 l0.length c0), (3, .pointer (some ⟨b25, 0, none⟩)), (4, .int .i64 x4_l1), (5, .int .i64 x5_l1), (6, .int .i64 x17_l1), (15, .slice A0 l0.length c0), (16, .int .i64 (l0.length : Int)), (17, .int .i64 x17_l1), (28, .pointer (some ⟨b25, 0, none⟩)), (29, .int .i64 x17_l1), (30, .int .i64 r40), (31, .int .i64 x5_l1), (32, .bool (r40 != x5_l1)), (35, .pointer (some ⟨b25, 0, none⟩)), (36, .int .i64 x17_l1), (37, .bool r50), (38, .int .u8 v28), (39, .int .u8 (iand .u8 v28 1)), (40, .bool ((iand .u8 v28 1) == 1)), (46, .pointer (some ⟨b25, 0, none⟩)), (47, .int .i64 x4_l1)]) (w' := w57) (by kernel_rfl) ?_
              obtain ⟨r61, e62, H⟩ := bind_ex H
              refine WR.st (St.call (by kernel_rfl) (f := 13) (args := #[.pointer (some ⟨b25, 0, none⟩), .int .i64 x4_l1]) (by kernel_rfl) (rank_Vec_Select.calls w57 (.pointer (some ⟨b25, 0, none⟩)) (some y22) (Sat.rdAny 0 hS rfl (fun _ h => O47.rd _ _ _ h)) x4_l1 r61 e62) ?_)
              rintro _ w68 ⟨rfl, hS69⟩
              have hS : Sat w68 (rf w0) [O47 b25 y22] := hS.ext hS69
              refine WR.runk [3, 4] [] [0, 3, 4, 5, 15, 16, 17, 28, 29, 30, 31, 32, 35, 36, 37, 38, 39, 40, 50] (L' := [(0, .slice A0 l0.length c0), (3, .pointer (some ⟨b25, 0, none⟩)), (4, .int .i64 x4_l1), (5, .int .i64 x5_l1), (15, .slice A0 l0.length c0), (16, .int .i64 (l0.length : Int)), (17, .int .i64 x17_l1), (28, .pointer (some ⟨b25, 0, none⟩)), (29, .int .i64 x17_l1), (30, .int .i64 r40), (31, .int .i64 x5_l1), (32, .bool (r40 != x5_l1)), (35, .pointer (some ⟨b25, 0, none⟩)), (36, .int .i64 x17_l1), (37, .bool r50), (38, .int .u8 v28), (39, .int .u8 (iand .u8 v28 1)), (40, .bool ((iand .u8 v28 1) == 1)), (50, .bool (r61 != x17_l1))]) (w' := w68) (by kernel_rfl) ?_
              refine WR.nil ?_
              refine At.go ?_
              refine WC.cond (by kernel_rfl) (r61 != x17_l1) (by kernel_rfl) (by kernel_rfl) (fun hb70 => ?_) (fun hb70 => ?_)
              · replace H := ite_t H hb70
                refine WC.seq (by kernel_rfl) ?_
                refine WC.reg [0] (by kernel_rfl) (by kernel_rfl) ?_
                refine WR.runk [0] [] [2] (L' := [(2, .bool false)]) (w' := w68) (by kernel_rfl) ?_
                refine WR.nil ?_
                refine At.go ?_
                refine WC.ret (by kernel_rfl) ?_
                refine At.thenRet ?_
                refine At.blockRet ?_
                refine At.thenRet ?_
                refine At.thenRet ?_
                obtain rfl := Option.some.inj H
                have hS : Sat w68 (rf w0) [O47 b25 y22] := hS.sel [0] (by kernel_rfl)
                refine At.weaken [2] (L' := [(2, .bool false)]) (by kernel_rfl) ?_
                exact hn0 false _ rfl hS
              · replace H := ite_f H hb70
                refine WC.skip (by kernel_rfl) ?_
                refine At.go ?_
                refine WC.reg [0, 1, 2] (by kernel_rfl) (by kernel_rfl) ?_
                refine WR.runk [0, 1, 2] [] [0, 3, 4, 5, 15, 16, 17, 28, 29, 30, 31, 32, 35, 36, 37, 38, 39, 40] (L' := [(0, .slice A0 l0.length c0), (3, .pointer (some ⟨b25, 0, none⟩)), (4, .int .i64 (wi (x4_l1 + 1))), (5, .int .i64 x5_l1), (15, .slice A0 l0.length c0), (16, .int .i64 (l0.length : Int)), (17, .int .i64 x17_l1), (28, .pointer (some ⟨b25, 0, none⟩)), (29, .int .i64 x17_l1), (30, .int .i64 r40), (31, .int .i64 x5_l1), (32, .bool (r40 != x5_l1)), (35, .pointer (some ⟨b25, 0, none⟩)), (36, .int .i64 x17_l1), (37, .bool r50), (38, .int .u8 v28), (39, .int .u8 (iand .u8 v28 1)), (40, .bool ((iand .u8 v28 1) == 1))]) (w' := w68) (by kernel_rfl) ?_
                refine WR.nil ?_
                refine At.blockNormal ?_
                refine At.go ?_
                refine WC.reg [0, 1] (by kernel_rfl) (by kernel_rfl) ?_
                refine WR.runk [0, 1] [] [0, 3, 4, 5, 15, 16, 17, 28, 29, 30, 31, 32, 35, 36, 37, 38, 39, 40] (L' := [(0, .slice A0 l0.length c0), (3, .pointer (some ⟨b25, 0, none⟩)), (4, .int .i64 (wi (x4_l1 + 1))), (5, .int .i64 x5_l1), (15, .slice A0 l0.length c0), (16, .int .i64 (l0.length : Int)), (17, .int .i64 (wi (x17_l1 + 1))), (28, .pointer (some ⟨b25, 0, none⟩)), (29, .int .i64 x17_l1), (30, .int .i64 r40), (31, .int .i64 x5_l1), (32, .bool (r40 != x5_l1)), (35, .pointer (some ⟨b25, 0, none⟩)), (36, .int .i64 x17_l1), (37, .bool r50), (38, .int .u8 v28), (39, .int .u8 (iand .u8 v28 1)), (40, .bool ((iand .u8 v28 1) == 1))]) (w' := w68) (by kernel_rfl) ?_
                refine WR.nil ?_
                have hS : Sat w68 (rf w0) [O47 b25 y22] := hS.sel [0] (by kernel_rfl)
                refine At.again ?_
                refine WL.weaken [0, 3, 4, 5, 15, 16, 17] (L' := [(0, .slice A0 l0.length c0), (3, .pointer (some ⟨b25, 0, none⟩)), (4, .int .i64 (wi (x4_l1 + 1))), (5, .int .i64 x5_l1), (15, .slice A0 l0.length c0), (16, .int .i64 (l0.length : Int)), (17, .int .i64 (wi (x17_l1 + 1)))]) (by kernel_rfl) ?_
                exact ih (wi (x4_l1 + 1)) x5_l1 (wi (x17_l1 + 1)) _ hS H
            · replace H := ite_f H hb60
              refine WC.seq (by kernel_rfl) ?_
              refine WC.seq (by kernel_rfl) ?_
              refine WC.reg [0, 1, 2, 3, 4] (by kernel_rfl) (by kernel_rfl) ?_
              refine WR.runk [0, 1] [2, 3, 4] [0, 3, 4, 5, 6, 15, 16, 17, 28, 29, 30, 31, 32, 35, 36, 37, 38, 39, 40, 53, 54] (L' := [(0, .slice A0 l0.length c0), (3, .pointer (some ⟨b25, 0, none⟩)), (4, .int .i64 x4_l1), (5, .int .i64 x5_l1), (6, .int .i64 x17_l1), (15, .slice A0 l0.length c0), (16, .int .i64 (l0.length : Int)), (17, .int .i64 x17_l1), (28, .pointer (some ⟨b25, 0, none⟩)), (29, .int .i64 x17_l1), (30, .int .i64 r40), (31, .int .i64 x5_l1), (32, .bool (r40 != x5_l1)), (35, .pointer (some ⟨b25, 0, none⟩)), (36, .int .i64 x17_l1), (37, .bool r50), (38, .int .u8 v28), (39, .int .u8 (iand .u8 v28 1)), (40, .bool ((iand .u8 v28 1) == 1)), (53, .pointer (some ⟨b25, 0, none⟩)), (54, .int .i64 x5_l1)]) (w' := w57) (by kernel_rfl) ?_
              obtain ⟨r71, e72, H⟩ := bind_ex H
              refine WR.st (St.call (by kernel_rfl) (f := 14) (args := #[.pointer (some ⟨b25, 0, none⟩), .int .i64 x5_l1]) (by kernel_rfl) (rank_Vec_SelectZero.calls w57 (.pointer (some ⟨b25, 0, none⟩)) (some y22) (Sat.rdAny 0 hS rfl (fun _ h => O47.rd _ _ _ h)) x5_l1 r71 e72) ?_)
              rintro _ w78 ⟨rfl, hS79⟩
              have hS : Sat w78 (rf w0) [O47 b25 y22] := hS.ext hS79
              refine WR.runk [3, 4] [] [0, 3, 4, 5, 15, 16, 17, 28, 29, 30, 31, 32, 35, 36, 37, 38, 39, 40, 57] (L' := [(0, .slice A0 l0.length c0), (3, .pointer (some ⟨b25, 0, none⟩)), (4, .int .i64 x4_l1), (5, .int .i64 x5_l1), (15, .slice A0 l0.length c0), (16, .int .i64 (l0.length : Int)), (17, .int .i64 x17_l1), (28, .pointer (some ⟨b25, 0, none⟩)), (29, .int .i64 x17_l1), (30, .int .i64 r40), (31, .int .i64 x5_l1), (32, .bool (r40 != x5_l1)), (35, .pointer (some ⟨b25, 0, none⟩)), (36, .int .i64 x17_l1), (37, .bool r50), (38, .int .u8 v28), (39, .int .u8 (iand .u8 v28 1)), (40, .bool ((iand .u8 v28 1) == 1)), (57, .bool (r71 != x17_l1))]) (w' := w78) (by kernel_rfl) ?_
              refine WR.nil ?_
              refine At.go ?_
              refine WC.cond (by kernel_rfl) (r71 != x17_l1) (by kernel_rfl) (by kernel_rfl) (fun hb80 => ?_) (fun hb80 => ?_)
              · replace H := ite_t H hb80
                refine WC.seq (by kernel_rfl) ?_
                refine WC.reg [0] (by kernel_rfl) (by kernel_rfl) ?_
                refine WR.runk [0] [] [2] (L' := [(2, .bool false)]) (w' := w78) (by kernel_rfl) ?_
                refine WR.nil ?_
                refine At.go ?_
                refine WC.ret (by kernel_rfl) ?_
                refine At.thenRet ?_
                refine At.blockRet ?_
                refine At.thenRet ?_
                refine At.thenRet ?_
                obtain rfl := Option.some.inj H
                have hS : Sat w78 (rf w0) [O47 b25 y22] := hS.sel [0] (by kernel_rfl)
                refine At.weaken [2] (L' := [(2, .bool false)]) (by kernel_rfl) ?_
                exact hn0 false _ rfl hS
              · replace H := ite_f H hb80
                refine WC.skip (by kernel_rfl) ?_
                refine At.go ?_
                refine WC.reg [0, 1, 2] (by kernel_rfl) (by kernel_rfl) ?_
                refine WR.runk [0, 1, 2] [] [0, 3, 4, 5, 15, 16, 17, 28, 29, 30, 31, 32, 35, 36, 37, 38, 39, 40] (L' := [(0, .slice A0 l0.length c0), (3, .pointer (some ⟨b25, 0, none⟩)), (4, .int .i64 x4_l1), (5, .int .i64 (wi (x5_l1 + 1))), (15, .slice A0 l0.length c0), (16, .int .i64 (l0.length : Int)), (17, .int .i64 x17_l1), (28, .pointer (some ⟨b25, 0, none⟩)), (29, .int .i64 x17_l1), (30, .int .i64 r40), (31, .int .i64 x5_l1), (32, .bool (r40 != x5_l1)), (35, .pointer (some ⟨b25, 0, none⟩)), (36, .int .i64 x17_l1), (37, .bool r50), (38, .int .u8 v28), (39, .int .u8 (iand .u8 v28 1)), (40, .bool ((iand .u8 v28 1) == 1))]) (w' := w78) (by kernel_rfl) ?_
                refine WR.nil ?_
                refine At.blockNormal ?_
                refine At.go ?_
                refine WC.reg [0, 1] (by kernel_rfl) (by kernel_rfl) ?_
                refine WR.runk [0, 1] [] [0, 3, 4, 5, 15, 16, 17, 28, 29, 30, 31, 32, 35, 36, 37, 38, 39, 40] (L' := [(0, .slice A0 l0.length c0), (3, .pointer (some ⟨b25, 0, none⟩)), (4, .int .i64 x4_l1), (5, .int .i64 (wi (x5_l1 + 1))), (15, .slice A0 l0.length c0), (16, .int .i64 (l0.length : Int)), (17, .int .i64 (wi (x17_l1 + 1))), (28, .pointer (some ⟨b25, 0, none⟩)), (29, .int .i64 x17_l1), (30, .int .i64 r40), (31, .int .i64 x5_l1), (32, .bool (r40 != x5_l1)), (35, .pointer (some ⟨b25, 0, none⟩)), (36, .int .i64 x17_l1), (37, .bool r50), (38, .int .u8 v28), (39, .int .u8 (iand .u8 v28 1)), (40, .bool ((iand .u8 v28 1) == 1))]) (w' := w78) (by kernel_rfl) ?_
                refine WR.nil ?_
                have hS : Sat w78 (rf w0) [O47 b25 y22] := hS.sel [0] (by kernel_rfl)
                refine At.again ?_
                refine WL.weaken [0, 3, 4, 5, 15, 16, 17] (L' := [(0, .slice A0 l0.length c0), (3, .pointer (some ⟨b25, 0, none⟩)), (4, .int .i64 x4_l1), (5, .int .i64 (wi (x5_l1 + 1))), (15, .slice A0 l0.length c0), (16, .int .i64 (l0.length : Int)), (17, .int .i64 (wi (x17_l1 + 1)))]) (by kernel_rfl) ?_
                exact ih x4_l1 (wi (x5_l1 + 1)) (wi (x17_l1 + 1)) _ hS H
    · replace H := ite_f H hb27
      refine WC.exit (by kernel_rfl) ?_
      refine At.thenExit ?_
      refine At.thenExit ?_
      obtain rfl := Option.some.inj H
      have hS : Sat w (rf w0) [O47 b25 y22] := hS.sel [0] (by kernel_rfl)
      refine At.weaken [0, 3, 4, 5] (L' := [(0, .slice A0 l0.length c0), (3, .pointer (some ⟨b25, 0, none⟩)), (4, .int .i64 x4_l1), (5, .int .i64 x5_l1)]) (by kernel_rfl) ?_
      exact hn1 (x4_l1, x5_l1) _ rfl hS
theorem colophonlaw02_RankAll.calls (w0 : World) (A0 : Option Addr) (c0 : Nat) (l0 : List Int) (R0 : rdS (r0 (.int .u8)) 1 (hp w0) A0 c0 l0) (r : Bool) (H : colophonlaw02_RankAll.f l0 = some r) :
    Calls Try.prog 6 #[.slice A0 l0.length c0] w0 (fun e w' => ∃ v, e = .returned v ∧ colophonlaw02_RankAll.post w0 r v w') := by
  have hS : Sat w0 (rf w0) [] := Sat.start w0
  unfold colophonlaw02_RankAll.f at H
  refine calls_of_WC (vs := [.slice A0 l0.length c0]) Try.func6 (c := C6) (n := 84) (by kernel_rfl) (by kernel_rfl) (by kernel_rfl) ?_
  refine WC.seq (by kernel_rfl) ?_
  refine WC.reg [0] (by kernel_rfl) (by kernel_rfl) ?_
  refine WR.runk [0] [] [0] (L' := [(0, .slice A0 l0.length c0)]) (w' := w0) (by kernel_rfl) ?_
  refine WR.nil ?_
  refine At.go ?_
  refine WC.seq (by kernel_rfl) ?_
  refine WC.seq (by kernel_rfl) ?_
  refine WC.reg [0, 1] (by kernel_rfl) (by kernel_rfl) ?_
  obtain ⟨r1, e2, H⟩ := bind_ex H
  refine WR.st (St.call (by kernel_rfl) (f := 9) (args := #[]) (by kernel_rfl) (colophonlaw02_first.calls w0  r1 e2) ?_)
  rintro _ w8 ⟨rfl, hS9⟩
  have hS : Sat w8 (rf w0) [] := hS.ext hS9
  refine WR.runk [1] [] [0, 9] (L' := [(0, .slice A0 l0.length c0), (9, .bool (!r1))]) (w' := w8) (by kernel_rfl) ?_
  refine WR.nil ?_
  refine At.go ?_
  refine WC.cond (by kernel_rfl) (!r1) (by kernel_rfl) (by kernel_rfl) (fun hb10 => ?_) (fun hb10 => ?_)
  · replace H := ite_t H hb10
    refine WC.seq (by kernel_rfl) ?_
    refine WC.reg [0] (by kernel_rfl) (by kernel_rfl) ?_
    refine WR.runk [0] [] [2] (L' := [(2, .bool false)]) (w' := w8) (by kernel_rfl) ?_
    refine WR.nil ?_
    refine At.go ?_
    refine WC.ret (by kernel_rfl) ?_
    refine At.thenRet ?_
    obtain rfl := Option.some.inj H
    have hS : Sat w8 (rf w0) [] := hS.sel [] (by kernel_rfl)
    exact At.body [.bool false] (by kernel_rfl) ⟨_, rfl, rfl, hS⟩
  · replace H := ite_f H hb10
    refine WC.skip (by kernel_rfl) ?_
    refine At.go ?_
    refine WC.seq (by kernel_rfl) ?_
    refine WC.seq (by kernel_rfl) ?_
    refine WC.reg [0, 1, 2] (by kernel_rfl) (by kernel_rfl) ?_
    refine WR.runk [0, 1, 2] [] [0, 12] (L' := [(0, .slice A0 l0.length c0), (12, .bool (decide ((l0.length : Int) > 1500)))]) (w' := w8) (by kernel_rfl) ?_
    refine WR.nil ?_
    refine At.go ?_
    refine WC.cond (by kernel_rfl) (decide ((l0.length : Int) > 1500)) (by kernel_rfl) (by kernel_rfl) (fun hb11 => ?_) (fun hb11 => ?_)
    · replace H := ite_t H hb11
      refine WC.seq (by kernel_rfl) ?_
      refine WC.reg [0] (by kernel_rfl) (by kernel_rfl) ?_
      refine WR.runk [0] [] [2] (L' := [(2, .bool true)]) (w' := w8) (by kernel_rfl) ?_
      refine WR.nil ?_
      refine At.go ?_
      refine WC.ret (by kernel_rfl) ?_
      refine At.thenRet ?_
      obtain rfl := Option.some.inj H
      have hS : Sat w8 (rf w0) [] := hS.sel [] (by kernel_rfl)
      exact At.body [.bool true] (by kernel_rfl) ⟨_, rfl, rfl, hS⟩
    · replace H := ite_f H hb11
      refine WC.skip (by kernel_rfl) ?_
      refine At.go ?_
      refine WC.seq (by kernel_rfl) ?_
      refine WC.reg [0, 1, 2] (by kernel_rfl) (by kernel_rfl) ?_
      refine WR.runk [0] [1, 2] [0, 13] (L' := [(0, .slice A0 l0.length c0), (13, .slice A0 l0.length c0)]) (w' := w8) (by kernel_rfl) ?_
      obtain ⟨r12, e13, H⟩ := bind_ex H
      refine WR.st (St.call (by kernel_rfl) (f := 10) (args := #[.slice A0 l0.length c0]) (by kernel_rfl) (colophonlaw02_Vec.calls w8 A0 c0 l0 (rdS.up R0 hS.sub0) r12 e13) ?_)
      rintro pv21 w19 ⟨_, rfl, hS20⟩
      have hS : Sat w19 (rf w0) [optP O47 pv21 r12] := hS.ext hS20
      refine WR.runk [2] [] [0, 3] (L' := [(0, .slice A0 l0.length c0), (3, pv21)]) (w' := w19) (by kernel_rfl) ?_
      refine WR.nil ?_
      refine At.go ?_
      refine WC.seq (by kernel_rfl) ?_
      refine WC.reg [0, 1] (by kernel_rfl) (by kernel_rfl) ?_
      refine WR.runk [0, 1] [] [0, 3, 4, 5] (L' := [(0, .slice A0 l0.length c0), (3, pv21), (4, .int .i64 0), (5, .int .i64 0)]) (w' := w19) (by kernel_rfl) ?_
      refine WR.nil ?_
      refine At.go ?_
      refine WC.seq (by kernel_rfl) ?_
      refine WC.seq (by kernel_rfl) ?_
      refine WC.reg [0, 1, 2] (by kernel_rfl) (by kernel_rfl) ?_
      refine WR.runk [0, 1, 2] [] [0, 3, 4, 5, 15, 16, 17] (L' := [(0, .slice A0 l0.length c0), (3, pv21), (4, .int .i64 0), (5, .int .i64 0), (15, .slice A0 l0.length c0), (16, .int .i64 (l0.length : Int)), (17, .int .i64 0)]) (w' := w19) (by kernel_rfl) ?_
      refine WR.nil ?_
      refine At.go ?_
      refine WC.block (by kernel_rfl) ?_
      obtain ⟨y22, hr23, H⟩ := bind_ex H
      obtain ⟨b25, hv24, hN130⟩ := optP.some hS hr23
      subst hv24
      have hS : Sat w19 (rf w0) [O47 b25 y22] := hN130
      have hS : Sat w19 (rf w0) [O47 b25 y22] := hS.sel [0] (by kernel_rfl)
      obtain ⟨o81, e82, H⟩ := bind_ex H
      refine WC.loop (by kernel_rfl) ?_
      refine WL.weaken [0, 3, 4, 5, 15, 16, 17] (L' := [(0, .slice A0 l0.length c0), (3, .pointer (some ⟨b25, 0, none⟩)), (4, .int .i64 0), (5, .int .i64 0), (15, .slice A0 l0.length c0), (16, .int .i64 (l0.length : Int)), (17, .int .i64 0)]) (by kernel_rfl) ?_
      refine colophonlaw02_RankAll.l1_ok w0 A0 c0 l0 y22 b25 R0 o81 (fun o83 w85 ho86 hS => ?_) (fun o87 w89 ho90 hS => ?_) FU 0 0 0 _ hS e82
      · subst ho86
        dsimp only at H
        refine At.blockRet ?_
        refine At.thenRet ?_
        obtain rfl := Option.some.inj H
        have hS : Sat w85 (rf w0) [] := hS.sel [] (by kernel_rfl)
        exact At.body [.bool o83] (by kernel_rfl) ⟨_, rfl, rfl, hS⟩
      · subst ho90
        dsimp only at H
        refine At.hit ?_
        refine At.go ?_
        refine WC.seq (by kernel_rfl) ?_
        refine WC.reg [0, 1, 2, 3, 4, 5, 6, 7, 8, 9, 10, 11, 12, 13, 14, 15, 16, 17, 18, 19, 20, 21, 22, 23] (by kernel_rfl) (by kernel_rfl) ?_
        refine WR.runk [0, 1, 2] [3, 4, 5, 6, 7, 8, 9, 10, 11, 12, 13, 14, 15, 16, 17, 18, 19, 20, 21, 22, 23] [3, 4, 5, 61, 63] (L' := [(3, .pointer (some ⟨b25, 0, none⟩)), (4, .int .i64 o87.1), (5, .int .i64 o87.2), (61, .pointer (some ⟨b25, 0, none⟩)), (63, .int .i64 (l0.length : Int))]) (w' := w89) (by kernel_rfl) ?_
        obtain ⟨r91, e92, H⟩ := bind_ex H
        refine WR.st (St.call (by kernel_rfl) (f := 11) (args := #[.pointer (some ⟨b25, 0, none⟩), .int .i64 (l0.length : Int)]) (by kernel_rfl) (rank_Vec_Rank.calls w89 (.pointer (some ⟨b25, 0, none⟩)) (some y22) (Sat.rdAny 0 hS rfl (fun _ h => O47.rd _ _ _ h)) (l0.length : Int) r91 e92) ?_)
        rintro _ w98 ⟨rfl, hS99⟩
        have hS : Sat w98 (rf w0) [O47 b25 y22] := hS.ext hS99
        refine WR.runk [4, 5, 6] [7, 8, 9, 10, 11, 12, 13, 14, 15, 16, 17, 18, 19, 20, 21, 22, 23] [3, 4, 5, 67] (L' := [(3, .pointer (some ⟨b25, 0, none⟩)), (4, .int .i64 o87.1), (5, .int .i64 o87.2), (67, .bool (r91 == o87.1))]) (w' := w98) (by kernel_rfl) ?_
        refine WR.split 67 (b := (r91 == o87.1)) (by kernel_rfl) (fun hb100 => ?_) (fun hb100 => ?_)
        · replace H := ite_t H hb100
          refine WR.runk [7, 8] [9, 10, 11, 12, 13, 14, 15, 16, 17, 18, 19, 20, 21, 22, 23] [3, 5, 67, 68, 69] (L' := [(3, .pointer (some ⟨b25, 0, none⟩)), (5, .int .i64 o87.2), (67, .bool true), (68, .pointer (some ⟨b25, 0, none⟩)), (69, .int .i64 o87.1)]) (w' := w98) (by kernel_rfl) ?_
          obtain ⟨r101, e102, H⟩ := bind_ex H
          refine WR.st (St.call (by kernel_rfl) (f := 13) (args := #[.pointer (some ⟨b25, 0, none⟩), .int .i64 o87.1]) (by kernel_rfl) (rank_Vec_Select.calls w98 (.pointer (some ⟨b25, 0, none⟩)) (some y22) (Sat.rdAny 0 hS rfl (fun _ h => O47.rd _ _ _ h)) o87.1 r101 e102) ?_)
          rintro _ w108 ⟨rfl, hS109⟩
          have hS : Sat w108 (rf w0) [O47 b25 y22] := hS.ext hS109
          refine WR.runk [10, 11, 12] [13, 14, 15, 16, 17, 18, 19, 20, 21, 22, 23] [3, 5, 73] (L' := [(3, .pointer (some ⟨b25, 0, none⟩)), (5, .int .i64 o87.2), (73, .bool (r101 == (-1)))]) (w' := w108) (by kernel_rfl) ?_
          refine WR.split 73 (b := (r101 == (-1))) (by kernel_rfl) (fun hb110 => ?_) (fun hb110 => ?_)
          · replace H := ite_t H hb110
            refine WR.runk [13, 14] [15, 16, 17, 18, 19, 20, 21, 22, 23] [3, 73, 74, 75] (L' := [(3, .pointer (some ⟨b25, 0, none⟩)), (73, .bool true), (74, .pointer (some ⟨b25, 0, none⟩)), (75, .int .i64 o87.2)]) (w' := w108) (by kernel_rfl) ?_
            obtain ⟨r111, e112, H⟩ := bind_ex H
            refine WR.st (St.call (by kernel_rfl) (f := 14) (args := #[.pointer (some ⟨b25, 0, none⟩), .int .i64 o87.2]) (by kernel_rfl) (rank_Vec_SelectZero.calls w108 (.pointer (some ⟨b25, 0, none⟩)) (some y22) (Sat.rdAny 0 hS rfl (fun _ h => O47.rd _ _ _ h)) o87.2 r111 e112) ?_)
            rintro _ w118 ⟨rfl, hS119⟩
            have hS : Sat w118 (rf w0) [O47 b25 y22] := hS.ext hS119
            refine WR.runk [16, 17, 18] [19, 20, 21, 22, 23] [3, 79] (L' := [(3, .pointer (some ⟨b25, 0, none⟩)), (79, .bool (r111 == (-1)))]) (w' := w118) (by kernel_rfl) ?_
            refine WR.split 79 (b := (r111 == (-1))) (by kernel_rfl) (fun hb120 => ?_) (fun hb120 => ?_)
            · replace H := ite_t H hb120
              refine WR.runk [19] [20, 21, 22, 23] [79, 80] (L' := [(79, .bool true), (80, .pointer (some ⟨b25, 0, none⟩))]) (w' := w118) (by kernel_rfl) ?_
              obtain ⟨r121, e122, H⟩ := bind_ex H
              refine WR.st (St.call (by kernel_rfl) (f := 13) (args := #[.pointer (some ⟨b25, 0, none⟩), .int .i64 (-1)]) (by kernel_rfl) (rank_Vec_Select.calls w118 (.pointer (some ⟨b25, 0, none⟩)) (some y22) (Sat.rdAny 0 hS rfl (fun _ h => O47.rd _ _ _ h)) (-1) r121 e122) ?_)
              rintro _ w128 ⟨rfl, hS129⟩
              have hS : Sat w128 (rf w0) [O47 b25 y22] := hS.ext hS129
              refine WR.runk [21, 22, 23] [] [2] (L' := [(2, .bool (r121 == (-1)))]) (w' := w128) (by kernel_rfl) ?_
              refine WR.nil ?_
              refine At.go ?_
              refine WC.ret (by kernel_rfl) ?_
              obtain rfl := Option.some.inj H
              have hS : Sat w128 (rf w0) [] := hS.sel [] (by kernel_rfl)
              exact At.body [.bool (r121 == (-1))] (by kernel_rfl) ⟨_, rfl, rfl, hS⟩
            · replace H := ite_f H hb120
              refine WR.runk [19, 20, 21, 22, 23] [] [2] (L' := [(2, .bool false)]) (w' := w118) (by kernel_rfl) ?_
              refine WR.nil ?_
              refine At.go ?_
              refine WC.ret (by kernel_rfl) ?_
              obtain rfl := Option.some.inj H
              have hS : Sat w118 (rf w0) [] := hS.sel [] (by kernel_rfl)
              exact At.body [.bool false] (by kernel_rfl) ⟨_, rfl, rfl, hS⟩
          · replace H := ite_f H hb110
            refine WR.runk [13, 14, 15, 16, 17, 18, 19, 20, 21, 22, 23] [] [2] (L' := [(2, .bool false)]) (w' := w108) (by kernel_rfl) ?_
            refine WR.nil ?_
            refine At.go ?_
            refine WC.ret (by kernel_rfl) ?_
            obtain rfl := Option.some.inj H
            have hS : Sat w108 (rf w0) [] := hS.sel [] (by kernel_rfl)
            exact At.body [.bool false] (by kernel_rfl) ⟨_, rfl, rfl, hS⟩
        · replace H := ite_f H hb100
          refine WR.runk [7, 8, 9, 10, 11, 12, 13, 14, 15, 16, 17, 18, 19, 20, 21, 22, 23] [] [2] (L' := [(2, .bool false)]) (w' := w98) (by kernel_rfl) ?_
          refine WR.nil ?_
          refine At.go ?_
          refine WC.ret (by kernel_rfl) ?_
          obtain rfl := Option.some.inj H
          have hS : Sat w98 (rf w0) [] := hS.sel [] (by kernel_rfl)
          exact At.body [.bool false] (by kernel_rfl) ⟨_, rfl, rfl, hS⟩
end Go.Proofs.Ytlkgejhnjbbogaa
