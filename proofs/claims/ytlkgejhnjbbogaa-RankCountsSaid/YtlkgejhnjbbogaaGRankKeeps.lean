/-
  Printed by gen.py (my own tool): for each Go function a plain Lean function and the proof that a call of it does what that function says.
-/
import Derived.Test.YtlkgejhnjbbogaaGP1b
set_option linter.unusedVariables false
set_option linter.unusedSimpArgs false
set_option maxRecDepth 100000
namespace Go.Proofs.Ytlkgejhnjbbogaa
open Go Go.Gol
/-! ### 8 colophon/colophonlaw02.RankKeeps -/
def colophonlaw02_RankKeeps.l1 (l0 : List Int) : Nat → Int → (Int × Int × (List Int)) → Option (Int × Int × (List Int))
  | 0, _, _ => none
  | k + 1, x33_l1, q27_l1 => (if decide (x33_l1 < (l0.length : Int)) then ((at? l0 x33_l1).bind fun v29 => ((pack_Ints_Set.f q27_l1 x33_l1 (IntKind.wrap .u64 (iand .u8 v29 1))).bind fun r31 => colophonlaw02_RankKeeps.l1 l0 k (wi (x33_l1 + 1)) r31.2)) else some q27_l1)
def colophonlaw02_RankKeeps.f (l0 : List Int) (a1 : Int) : Option Bool := (colophonlaw02_first.f.bind fun r1 => (if (!r1) then some false else (if ((l0.length : Int) == 0) then some true else (if decide ((l0.length : Int) > 2000) then some true else ((pack_New.f 1 (l0.length : Int)).bind fun r13 => (r13.1.bind fun y23 => ((colophonlaw02_RankKeeps.l1 l0 FU 0 y23).bind fun o40 => ((rank_New.f (some o40)).bind fun r45 => ((chk? (decide ((IntKind.wrap .u64 (l0.length : Int)) ≠ 0))).bind fun _ => ((rank_Vec_At.f r45.1 (wi (Int.tmod (IntKind.wrap .u64 a1) (IntKind.wrap .u64 (l0.length : Int))))).bind fun r56 => ((pack_Ints_Get.f (some o40) (wi (Int.tmod (IntKind.wrap .u64 a1) (IntKind.wrap .u64 (l0.length : Int))))).bind fun r65 => ((pack_Ints_Set.f o40 (wi (Int.tmod (IntKind.wrap .u64 a1) (IntKind.wrap .u64 (l0.length : Int)))) (IntKind.wrap .u64 (1 - r65))).bind fun r74 => ((rank_New.f (some r74.2)).bind fun r83 => (if (r45.2 == 0) then (if (r83.2 == 0) then ((rank_Vec_At.f r45.1 (wi (Int.tmod (IntKind.wrap .u64 a1) (IntKind.wrap .u64 (l0.length : Int))))).bind fun r95 => (if (r95 == r56) then ((rank_Vec_At.f r83.1 (wi (Int.tmod (IntKind.wrap .u64 a1) (IntKind.wrap .u64 (l0.length : Int))))).bind fun r105 => (if (r105 != r56) then ((rank_Vec_Ones.f r45.1).bind fun r115 => ((rank_Vec_Ones.f r83.1).bind fun r124 => some (r115 != r124))) else some false)) else some false)) else some false) else some false))))))))))))))
def colophonlaw02_RankKeeps.post (w : World) (r : Bool) (v : Value) (w' : World) : Prop := v = (.bool r : Value) ∧ Sat w' (rf w) []
theorem colophonlaw02_RankKeeps.l1_ok {Q} (w0 : World) (A0 : Option Addr) (c0 : Nat) (l0 : List Int) (a1 : Int) (b26 : Nat) (R0 : rdS (r0 (.int .u8)) 1 (hp w0) A0 c0 l0) (out : (Int × Int × (List Int))) (hn0 : ∀ (w : World), Sat w (rf w0) [O52 b26 out] → At Q (.exit 0) 99 [(0, .slice A0 l0.length c0), (1, .int .i64 a1), (5, .pointer (some ⟨b26, 0, none⟩))] w) :
    ∀ (k : Nat) (x33_l1 : Int) (q27_l1 : Int × Int × (List Int)) (w : World), Sat w (rf w0) [O52 b26 q27_l1] → colophonlaw02_RankKeeps.l1 l0 k x33_l1 q27_l1 = some out → WL Try.prog (cbody (cbody (cr (cl (cr (cr (cr (cr C8)))))))) Q 99 [(0, .slice A0 l0.length c0), (1, .int .i64 a1), (5, .pointer (some ⟨b26, 0, none⟩)), (31, .slice A0 l0.length c0), (32, .int .i64 (l0.length : Int)), (33, .int .i64 x33_l1)] w := by
  intro k
  induction k with
  | zero => intro x33_l1 q27_l1 w hS H; exact absurd (show none = some out from H) (by simp)
  | succ k ih =>
    intro x33_l1 q27_l1 w hS H
    unfold colophonlaw02_RankKeeps.l1 at H
    refine WL.round ?_
    refine WC.seq (by kernel_rfl) ?_
    refine WC.reg [0] (by kernel_rfl) (by kernel_rfl) ?_
    refine WR.runk [0] [] [0, 1, 5, 31, 32, 33, 34] (L' := [(0, .slice A0 l0.length c0), (1, .int .i64 a1), (5, .pointer (some ⟨b26, 0, none⟩)), (31, .slice A0 l0.length c0), (32, .int .i64 (l0.length : Int)), (33, .int .i64 x33_l1), (34, .bool (decide (x33_l1 < (l0.length : Int))))]) (w' := w) (by kernel_rfl) ?_
    refine WR.nil ?_
    refine At.go ?_
    refine WC.seq (by kernel_rfl) ?_
    refine WC.cond (by kernel_rfl) (decide (x33_l1 < (l0.length : Int))) (by kernel_rfl) (by kernel_rfl) (fun hb28 => ?_) (fun hb28 => ?_)
    · replace H := ite_t H hb28
      refine WC.skip (by kernel_rfl) ?_
      refine At.go ?_
      refine WC.seq (by kernel_rfl) ?_
      refine WC.block (by kernel_rfl) ?_
      refine WC.seq (by kernel_rfl) ?_
      refine WC.reg [0, 1, 2, 3, 4] (by kernel_rfl) (by kernel_rfl) ?_
      refine WR.runk [0] [1, 2, 3, 4] [0, 1, 5, 31, 32, 33, 35] (L' := [(0, .slice A0 l0.length c0), (1, .int .i64 a1), (5, .pointer (some ⟨b26, 0, none⟩)), (31, .slice A0 l0.length c0), (32, .int .i64 (l0.length : Int)), (33, .int .i64 x33_l1), (35, .int .i64 x33_l1)]) (w' := w) (by kernel_rfl) ?_
      obtain ⟨v29, e30, H⟩ := bind_ex H
      refine WR.st (St.ofP (PSt.idx (k := .i64) (.tmp 31) (.tmp 33) (by kernel_rfl) (by kernel_rfl) E22 (by kernel_rfl) (by kernel_rfl) (rdS.up R0 hS.sub0) e30 ?_))
      refine WR.runk [] [2, 3, 4] [0, 1, 5, 31, 32, 33, 35, 36] (L' := [(0, .slice A0 l0.length c0), (1, .int .i64 a1), (5, .pointer (some ⟨b26, 0, none⟩)), (31, .slice A0 l0.length c0), (32, .int .i64 (l0.length : Int)), (33, .int .i64 x33_l1), (35, .int .i64 x33_l1), (36, .pointer (some (adr A0 x33_l1.toNat 1)))]) (w' := w) (by kernel_rfl) ?_
      refine WR.st (St.ofR (RSt.loadInt (t := 5) (.tmp 36) (by kernel_rfl) (by kernel_rfl) (by kernel_rfl) (by kernel_rfl) (rdS.up R0 hS.sub0) e30 ?_))
      refine WR.runk [3, 4] [] [0, 1, 5, 7, 8, 31, 32, 33] (L' := [(0, .slice A0 l0.length c0), (1, .int .i64 a1), (5, .pointer (some ⟨b26, 0, none⟩)), (7, .int .i64 x33_l1), (8, .int .u8 v29), (31, .slice A0 l0.length c0), (32, .int .i64 (l0.length : Int)), (33, .int .i64 x33_l1)]) (w' := w) (by kernel_rfl) ?_
      refine WR.nil ?_
      refine At.go ?_
      refine WC.reg [0, 1, 2, 3, 4, 5] (by kernel_rfl) (by kernel_rfl) ?_
      refine WR.runk [0, 1, 2, 3, 4] [5] [0, 1, 5, 31, 32, 33, 38, 39, 42] (L' := [(0, .slice A0 l0.length c0), (1, .int .i64 a1), (5, .pointer (some ⟨b26, 0, none⟩)), (31, .slice A0 l0.length c0), (32, .int .i64 (l0.length : Int)), (33, .int .i64 x33_l1), (38, .pointer (some ⟨b26, 0, none⟩)), (39, .int .i64 x33_l1), (42, .int .u64 (IntKind.wrap .u64 (iand .u8 v29 1)))]) (w' := w) (by kernel_rfl) ?_
      obtain ⟨r31, e32, H⟩ := bind_ex H
      obtain ⟨B37, hso36, hsub34, hcs35, hb33⟩ := Sat.lend [O52 b26 q27_l1] (cs := []) hS
      refine WR.st (St.call (by kernel_rfl) (f := 21) (args := #[.pointer (some ⟨b26, 0, none⟩), .int .i64 x33_l1, .int .u64 (IntKind.wrap .u64 (iand .u8 v29 1))]) (by kernel_rfl) (pack_Ints_Set.calls B37 w b26 q27_l1 hso36 x33_l1 (IntKind.wrap .u64 (iand .u8 v29 1)) r31 e32) ?_)
      rintro _ w38 ⟨rfl, hS39⟩
      have hS : Sat w38 (rf w0) [O52 b26 r31.2] := hb33 _ _ hS39
      refine WR.runk [] [] [0, 1, 5, 31, 32, 33] (L' := [(0, .slice A0 l0.length c0), (1, .int .i64 a1), (5, .pointer (some ⟨b26, 0, none⟩)), (31, .slice A0 l0.length c0), (32, .int .i64 (l0.length : Int)), (33, .int .i64 x33_l1)]) (w' := w38) (by kernel_rfl) ?_
      refine WR.nil ?_
      refine At.blockNormal ?_
      refine At.go ?_
      refine WC.reg [0, 1] (by kernel_rfl) (by kernel_rfl) ?_
      refine WR.runk [0, 1] [] [0, 1, 5, 31, 32, 33] (L' := [(0, .slice A0 l0.length c0), (1, .int .i64 a1), (5, .pointer (some ⟨b26, 0, none⟩)), (31, .slice A0 l0.length c0), (32, .int .i64 (l0.length : Int)), (33, .int .i64 (wi (x33_l1 + 1)))]) (w' := w38) (by kernel_rfl) ?_
      refine WR.nil ?_
      have hS : Sat w38 (rf w0) [O52 b26 r31.2] := hS.sel [0] (by kernel_rfl)
      refine At.again ?_
      refine WL.weaken [0, 1, 5, 31, 32, 33] (L' := [(0, .slice A0 l0.length c0), (1, .int .i64 a1), (5, .pointer (some ⟨b26, 0, none⟩)), (31, .slice A0 l0.length c0), (32, .int .i64 (l0.length : Int)), (33, .int .i64 (wi (x33_l1 + 1)))]) (by kernel_rfl) ?_
      exact ih (wi (x33_l1 + 1)) r31.2 _ hS H
    · replace H := ite_f H hb28
      refine WC.exit (by kernel_rfl) ?_
      refine At.thenExit ?_
      refine At.thenExit ?_
      obtain rfl := Option.some.inj H
      have hS : Sat w (rf w0) [O52 b26 q27_l1] := hS.sel [0] (by kernel_rfl)
      refine At.weaken [0, 1, 5] (L' := [(0, .slice A0 l0.length c0), (1, .int .i64 a1), (5, .pointer (some ⟨b26, 0, none⟩))]) (by kernel_rfl) ?_
      exact hn0 _ hS
theorem colophonlaw02_RankKeeps.calls (w0 : World) (A0 : Option Addr) (c0 : Nat) (l0 : List Int) (R0 : rdS (r0 (.int .u8)) 1 (hp w0) A0 c0 l0) (a1 : Int) (r : Bool) (H : colophonlaw02_RankKeeps.f l0 a1 = some r) :
    Calls Try.prog 8 #[.slice A0 l0.length c0, .int .i64 a1] w0 (fun e w' => ∃ v, e = .returned v ∧ colophonlaw02_RankKeeps.post w0 r v w') := by
  have hS : Sat w0 (rf w0) [] := Sat.start w0
  unfold colophonlaw02_RankKeeps.f at H
  refine calls_of_WC (vs := [.slice A0 l0.length c0, .int .i64 a1]) Try.func8 (c := C8) (n := 99) (by kernel_rfl) (by kernel_rfl) (by kernel_rfl) ?_
  refine WC.seq (by kernel_rfl) ?_
  refine WC.reg [0] (by kernel_rfl) (by kernel_rfl) ?_
  refine WR.runk [0] [] [0, 1] (L' := [(0, .slice A0 l0.length c0), (1, .int .i64 a1)]) (w' := w0) (by kernel_rfl) ?_
  refine WR.nil ?_
  refine At.go ?_
  refine WC.seq (by kernel_rfl) ?_
  refine WC.seq (by kernel_rfl) ?_
  refine WC.reg [0, 1] (by kernel_rfl) (by kernel_rfl) ?_
  obtain ⟨r1, e2, H⟩ := bind_ex H
  refine WR.st (St.call (by kernel_rfl) (f := 9) (args := #[]) (by kernel_rfl) (colophonlaw02_first.calls w0  r1 e2) ?_)
  rintro _ w8 ⟨rfl, hS9⟩
  have hS : Sat w8 (rf w0) [] := hS.ext hS9
  refine WR.runk [1] [] [0, 1, 16] (L' := [(0, .slice A0 l0.length c0), (1, .int .i64 a1), (16, .bool (!r1))]) (w' := w8) (by kernel_rfl) ?_
  refine WR.nil ?_
  refine At.go ?_
  refine WC.cond (by kernel_rfl) (!r1) (by kernel_rfl) (by kernel_rfl) (fun hb10 => ?_) (fun hb10 => ?_)
  · replace H := ite_t H hb10
    refine WC.seq (by kernel_rfl) ?_
    refine WC.reg [0] (by kernel_rfl) (by kernel_rfl) ?_
    refine WR.runk [0] [] [4] (L' := [(4, .bool false)]) (w' := w8) (by kernel_rfl) ?_
    refine WR.nil ?_
    refine At.go ?_
    refine WC.ret (by kernel_rfl) ?_
    refine At.thenRet ?_
    obtain rfl := Option.some.inj H
    have hS : Sat w8 (rf w0) [] := hS.sel [] (by kernel_rfl)
    exact At.body [.bool false] (by kernel_rfl) ⟨_, rfl, rfl, hS⟩
  · replace H := ite_f H hb10
    refine WC.skip (by kernel_rfl) ?_
    refine At.go ?_
    refine WC.seq (by kernel_rfl) ?_
    refine WC.seq (by kernel_rfl) ?_
    refine WC.reg [0, 1, 2, 3, 4, 5, 6, 7] (by kernel_rfl) (by kernel_rfl) ?_
    refine WR.runk [0, 1, 2, 3] [4, 5, 6, 7] [0, 1, 20] (L' := [(0, .slice A0 l0.length c0), (1, .int .i64 a1), (20, .bool ((l0.length : Int) == 0))]) (w' := w8) (by kernel_rfl) ?_
    refine WR.split 20 (b := ((l0.length : Int) == 0)) (by kernel_rfl) (fun hb11 => ?_) (fun hb11 => ?_)
    · replace H := ite_t H hb11
      refine WR.runk [4, 5, 6, 7] [] [0, 1, 24] (L' := [(0, .slice A0 l0.length c0), (1, .int .i64 a1), (24, .bool true)]) (w' := w8) (by kernel_rfl) ?_
      refine WR.nil ?_
      refine At.go ?_
      refine WC.condT (by kernel_rfl) (by kernel_rfl) (by kernel_rfl) ?_
      refine WC.seq (by kernel_rfl) ?_
      refine WC.reg [0] (by kernel_rfl) (by kernel_rfl) ?_
      refine WR.runk [0] [] [4] (L' := [(4, .bool true)]) (w' := w8) (by kernel_rfl) ?_
      refine WR.nil ?_
      refine At.go ?_
      refine WC.ret (by kernel_rfl) ?_
      refine At.thenRet ?_
      obtain rfl := Option.some.inj H
      have hS : Sat w8 (rf w0) [] := hS.sel [] (by kernel_rfl)
      exact At.body [.bool true] (by kernel_rfl) ⟨_, rfl, rfl, hS⟩
    · replace H := ite_f H hb11
      refine WR.runk [4, 5, 6, 7] [] [0, 1, 24] (L' := [(0, .slice A0 l0.length c0), (1, .int .i64 a1), (24, .bool (decide ((l0.length : Int) > 2000)))]) (w' := w8) (by kernel_rfl) ?_
      refine WR.nil ?_
      refine At.go ?_
      refine WC.cond (by kernel_rfl) (decide ((l0.length : Int) > 2000)) (by kernel_rfl) (by kernel_rfl) (fun hb12 => ?_) (fun hb12 => ?_)
      · replace H := ite_t H hb12
        refine WC.seq (by kernel_rfl) ?_
        refine WC.reg [0] (by kernel_rfl) (by kernel_rfl) ?_
        refine WR.runk [0] [] [4] (L' := [(4, .bool true)]) (w' := w8) (by kernel_rfl) ?_
        refine WR.nil ?_
        refine At.go ?_
        refine WC.ret (by kernel_rfl) ?_
        refine At.thenRet ?_
        obtain rfl := Option.some.inj H
        have hS : Sat w8 (rf w0) [] := hS.sel [] (by kernel_rfl)
        exact At.body [.bool true] (by kernel_rfl) ⟨_, rfl, rfl, hS⟩
      · replace H := ite_f H hb12
        refine WC.skip (by kernel_rfl) ?_
        refine At.go ?_
        refine WC.seq (by kernel_rfl) ?_
        refine WC.reg [0, 1, 2, 3, 4, 5, 6, 7] (by kernel_rfl) (by kernel_rfl) ?_
        refine WR.runk [0, 1] [2, 3, 4, 5, 6, 7] [0, 1, 27] (L' := [(0, .slice A0 l0.length c0), (1, .int .i64 a1), (27, .int .i64 (l0.length : Int))]) (w' := w8) (by kernel_rfl) ?_
        obtain ⟨r13, e14, H⟩ := bind_ex H
        refine WR.st (St.call (by kernel_rfl) (f := 20) (args := #[.int .i64 1, .int .i64 (l0.length : Int)]) (by kernel_rfl) (pack_New.calls w8 1 (l0.length : Int) r13 e14) ?_)
        rintro _ w20 ⟨pv22, rfl, hS21⟩
        have hS : Sat w20 (rf w0) [optP O52 pv22 r13.1] := hS.ext hS21
        refine WR.runk [3, 4, 5, 6, 7] [] [0, 1, 5] (L' := [(0, .slice A0 l0.length c0), (1, .int .i64 a1), (5, pv22)]) (w' := w20) (by kernel_rfl) ?_
        refine WR.nil ?_
        refine At.go ?_
        refine WC.seq (by kernel_rfl) ?_
        refine WC.seq (by kernel_rfl) ?_
        refine WC.reg [0, 1, 2] (by kernel_rfl) (by kernel_rfl) ?_
        refine WR.runk [0, 1, 2] [] [0, 1, 5, 31, 32, 33] (L' := [(0, .slice A0 l0.length c0), (1, .int .i64 a1), (5, pv22), (31, .slice A0 l0.length c0), (32, .int .i64 (l0.length : Int)), (33, .int .i64 0)]) (w' := w20) (by kernel_rfl) ?_
        refine WR.nil ?_
        refine At.go ?_
        refine WC.block (by kernel_rfl) ?_
        obtain ⟨y23, hr24, H⟩ := bind_ex H
        obtain ⟨b26, hv25, hN133⟩ := optP.some hS hr24
        subst hv25
        have hS : Sat w20 (rf w0) [O52 b26 y23] := hN133
        have hS : Sat w20 (rf w0) [O52 b26 y23] := hS.sel [0] (by kernel_rfl)
        obtain ⟨o40, e41, H⟩ := bind_ex H
        refine WC.loop (by kernel_rfl) ?_
        refine WL.weaken [0, 1, 5, 31, 32, 33] (L' := [(0, .slice A0 l0.length c0), (1, .int .i64 a1), (5, .pointer (some ⟨b26, 0, none⟩)), (31, .slice A0 l0.length c0), (32, .int .i64 (l0.length : Int)), (33, .int .i64 0)]) (by kernel_rfl) ?_
        refine colophonlaw02_RankKeeps.l1_ok w0 A0 c0 l0 a1 b26 R0 o40 (fun w43 hS => ?_) FU 0 y23 _ hS e41
        refine At.hit ?_
        refine At.go ?_
        refine WC.seq (by kernel_rfl) ?_
        refine WC.reg [0, 1, 2, 3, 4, 5, 6] (by kernel_rfl) (by kernel_rfl) ?_
        refine WR.runk [0] [1, 2, 3, 4, 5, 6] [0, 1, 5, 46] (L' := [(0, .slice A0 l0.length c0), (1, .int .i64 a1), (5, .pointer (some ⟨b26, 0, none⟩)), (46, .pointer (some ⟨b26, 0, none⟩))]) (w' := w43) (by kernel_rfl) ?_
        obtain ⟨r45, e46, H⟩ := bind_ex H
        refine WR.st (St.call (by kernel_rfl) (f := 22) (args := #[.pointer (some ⟨b26, 0, none⟩)]) (by kernel_rfl) (rank_New.calls w43 (.pointer (some ⟨b26, 0, none⟩)) (some o40) (Sat.rdAny 0 hS rfl (fun _ h => O52.rd _ _ _ h)) r45 e46) ?_)
        rintro _ w52 ⟨pv54, rfl, hS53⟩
        have hS : Sat w52 (rf w0) [optP O47 pv54 r45.1, O52 b26 o40] := hS.ext hS53
        refine WR.runk [2, 3, 4, 5, 6] [] [0, 1, 5, 9, 10] (L' := [(0, .slice A0 l0.length c0), (1, .int .i64 a1), (5, .pointer (some ⟨b26, 0, none⟩)), (9, pv54), (10, .int .i64 r45.2)]) (w' := w52) (by kernel_rfl) ?_
        refine WR.nil ?_
        refine At.go ?_
        refine WC.seq (by kernel_rfl) ?_
        refine WC.reg [0, 1, 2, 3, 4, 5, 6, 7] (by kernel_rfl) (by kernel_rfl) ?_
        refine WR.runk [0, 1, 2, 3, 4] [5, 6, 7] [5, 9, 10, 51, 54] (L' := [(5, .pointer (some ⟨b26, 0, none⟩)), (9, pv54), (10, .int .i64 r45.2), (51, .int .u64 (IntKind.wrap .u64 a1)), (54, .int .u64 (IntKind.wrap .u64 (l0.length : Int)))]) (w' := w52) (by kernel_rfl) ?_
        obtain ⟨_, e55, H⟩ := bind_ex H
        refine WR.st (St.ofP (PSt.div (k := .u64) (t := 29) (t2 := 29) (a := (IntKind.wrap .u64 a1)) (b := (IntKind.wrap .u64 (l0.length : Int))) .rem (by decide) (.tmp 51) (.tmp 54) (by kernel_rfl) (by kernel_rfl) (by kernel_rfl) (by kernel_rfl) (of_decide_eq_true (chk?_some e55)) ?_))
        refine WR.runk [6, 7] [] [5, 9, 10, 11] (L' := [(5, .pointer (some ⟨b26, 0, none⟩)), (9, pv54), (10, .int .i64 r45.2), (11, .int .i64 (wi (Int.tmod (IntKind.wrap .u64 a1) (IntKind.wrap .u64 (l0.length : Int)))))]) (w' := w52) (by kernel_rfl) ?_
        refine WR.nil ?_
        refine At.go ?_
        refine WC.seq (by kernel_rfl) ?_
        refine WC.reg [0, 1, 2, 3] (by kernel_rfl) (by kernel_rfl) ?_
        refine WR.runk [0, 1] [2, 3] [5, 9, 10, 11, 57, 58] (L' := [(5, .pointer (some ⟨b26, 0, none⟩)), (9, pv54), (10, .int .i64 r45.2), (11, .int .i64 (wi (Int.tmod (IntKind.wrap .u64 a1) (IntKind.wrap .u64 (l0.length : Int))))), (57, pv54), (58, .int .i64 (wi (Int.tmod (IntKind.wrap .u64 a1) (IntKind.wrap .u64 (l0.length : Int)))))]) (w' := w52) (by kernel_rfl) ?_
        obtain ⟨r56, e57, H⟩ := bind_ex H
        refine WR.st (St.call (by kernel_rfl) (f := 18) (args := #[pv54, .int .i64 (wi (Int.tmod (IntKind.wrap .u64 a1) (IntKind.wrap .u64 (l0.length : Int))))]) (by kernel_rfl) (rank_Vec_At.calls w52 (pv54) r45.1 (Sat.rdAny 0 hS rfl (fun _ h => optP.rdd (t := 47) (κ := (.pair (.int .i64) (.pair (.slice 40 (.int .u64)) (.pair (.slice 3 (.int .i64)) (.int .i64))))) (O := O47) O47.rd h)) (wi (Int.tmod (IntKind.wrap .u64 a1) (IntKind.wrap .u64 (l0.length : Int)))) r56 e57) ?_)
        rintro _ w63 ⟨rfl, hS64⟩
        have hS : Sat w63 (rf w0) [optP O47 pv54 r45.1, O52 b26 o40] := hS.ext hS64
        refine WR.runk [3] [] [5, 9, 10, 11, 12] (L' := [(5, .pointer (some ⟨b26, 0, none⟩)), (9, pv54), (10, .int .i64 r45.2), (11, .int .i64 (wi (Int.tmod (IntKind.wrap .u64 a1) (IntKind.wrap .u64 (l0.length : Int))))), (12, .bool r56)]) (w' := w63) (by kernel_rfl) ?_
        refine WR.nil ?_
        refine At.go ?_
        refine WC.seq (by kernel_rfl) ?_
        refine WC.reg [0, 1, 2, 3, 4, 5, 6] (by kernel_rfl) (by kernel_rfl) ?_
        refine WR.runk [0, 1, 2, 3] [4, 5, 6] [5, 9, 10, 11, 12, 60, 61, 62, 63] (L' := [(5, .pointer (some ⟨b26, 0, none⟩)), (9, pv54), (10, .int .i64 r45.2), (11, .int .i64 (wi (Int.tmod (IntKind.wrap .u64 a1) (IntKind.wrap .u64 (l0.length : Int))))), (12, .bool r56), (60, .pointer (some ⟨b26, 0, none⟩)), (61, .int .i64 (wi (Int.tmod (IntKind.wrap .u64 a1) (IntKind.wrap .u64 (l0.length : Int))))), (62, .pointer (some ⟨b26, 0, none⟩)), (63, .int .i64 (wi (Int.tmod (IntKind.wrap .u64 a1) (IntKind.wrap .u64 (l0.length : Int)))))]) (w' := w63) (by kernel_rfl) ?_
        obtain ⟨r65, e66, H⟩ := bind_ex H
        refine WR.st (St.call (by kernel_rfl) (f := 23) (args := #[.pointer (some ⟨b26, 0, none⟩), .int .i64 (wi (Int.tmod (IntKind.wrap .u64 a1) (IntKind.wrap .u64 (l0.length : Int))))]) (by kernel_rfl) (pack_Ints_Get.calls w63 (.pointer (some ⟨b26, 0, none⟩)) (some o40) (Sat.rdAny 1 hS rfl (fun _ h => O52.rd _ _ _ h)) (wi (Int.tmod (IntKind.wrap .u64 a1) (IntKind.wrap .u64 (l0.length : Int)))) r65 e66) ?_)
        rintro _ w72 ⟨rfl, hS73⟩
        have hS : Sat w72 (rf w0) [optP O47 pv54 r45.1, O52 b26 o40] := hS.ext hS73
        refine WR.runk [5] [6] [5, 9, 10, 11, 12, 60, 61, 65] (L' := [(5, .pointer (some ⟨b26, 0, none⟩)), (9, pv54), (10, .int .i64 r45.2), (11, .int .i64 (wi (Int.tmod (IntKind.wrap .u64 a1) (IntKind.wrap .u64 (l0.length : Int))))), (12, .bool r56), (60, .pointer (some ⟨b26, 0, none⟩)), (61, .int .i64 (wi (Int.tmod (IntKind.wrap .u64 a1) (IntKind.wrap .u64 (l0.length : Int))))), (65, .int .u64 (IntKind.wrap .u64 (1 - r65)))]) (w' := w72) (by kernel_rfl) ?_
        have hS : Sat w72 (rf w0) [O52 b26 o40, optP O47 pv54 r45.1] := hS.sel [1, 0] (by kernel_rfl)
        obtain ⟨r74, e75, H⟩ := bind_ex H
        obtain ⟨B80, hso79, hsub77, hcs78, hb76⟩ := Sat.lend [O52 b26 o40] (cs := [optP O47 pv54 r45.1]) hS
        refine WR.st (St.call (by kernel_rfl) (f := 21) (args := #[.pointer (some ⟨b26, 0, none⟩), .int .i64 (wi (Int.tmod (IntKind.wrap .u64 a1) (IntKind.wrap .u64 (l0.length : Int)))), .int .u64 (IntKind.wrap .u64 (1 - r65))]) (by kernel_rfl) (pack_Ints_Set.calls B80 w72 b26 o40 hso79 (wi (Int.tmod (IntKind.wrap .u64 a1) (IntKind.wrap .u64 (l0.length : Int)))) (IntKind.wrap .u64 (1 - r65)) r74 e75) ?_)
        rintro _ w81 ⟨rfl, hS82⟩
        have hS : Sat w81 (rf w0) [O52 b26 r74.2, optP O47 pv54 r45.1] := hb76 _ _ hS82
        refine WR.runk [] [] [5, 9, 10, 11, 12] (L' := [(5, .pointer (some ⟨b26, 0, none⟩)), (9, pv54), (10, .int .i64 r45.2), (11, .int .i64 (wi (Int.tmod (IntKind.wrap .u64 a1) (IntKind.wrap .u64 (l0.length : Int))))), (12, .bool r56)]) (w' := w81) (by kernel_rfl) ?_
        refine WR.nil ?_
        refine At.go ?_
        refine WC.seq (by kernel_rfl) ?_
        refine WC.reg [0, 1, 2, 3, 4, 5, 6] (by kernel_rfl) (by kernel_rfl) ?_
        refine WR.runk [0] [1, 2, 3, 4, 5, 6] [9, 10, 11, 12, 68] (L' := [(9, pv54), (10, .int .i64 r45.2), (11, .int .i64 (wi (Int.tmod (IntKind.wrap .u64 a1) (IntKind.wrap .u64 (l0.length : Int))))), (12, .bool r56), (68, .pointer (some ⟨b26, 0, none⟩))]) (w' := w81) (by kernel_rfl) ?_
        obtain ⟨r83, e84, H⟩ := bind_ex H
        refine WR.st (St.call (by kernel_rfl) (f := 22) (args := #[.pointer (some ⟨b26, 0, none⟩)]) (by kernel_rfl) (rank_New.calls w81 (.pointer (some ⟨b26, 0, none⟩)) (some r74.2) (Sat.rdAny 0 hS rfl (fun _ h => O52.rd _ _ _ h)) r83 e84) ?_)
        rintro _ w90 ⟨pv92, rfl, hS91⟩
        have hS : Sat w90 (rf w0) [optP O47 pv92 r83.1, O52 b26 r74.2, optP O47 pv54 r45.1] := hS.ext hS91
        refine WR.runk [2, 3, 4, 5, 6] [] [9, 10, 11, 12, 13, 14] (L' := [(9, pv54), (10, .int .i64 r45.2), (11, .int .i64 (wi (Int.tmod (IntKind.wrap .u64 a1) (IntKind.wrap .u64 (l0.length : Int))))), (12, .bool r56), (13, pv92), (14, .int .i64 r83.2)]) (w' := w90) (by kernel_rfl) ?_
        refine WR.nil ?_
        refine At.go ?_
        refine WC.seq (by kernel_rfl) ?_
        refine WC.reg [0, 1, 2, 3, 4, 5, 6, 7, 8, 9, 10, 11, 12, 13, 14, 15, 16, 17, 18, 19, 20, 21, 22, 23, 24, 25, 26, 27] (by kernel_rfl) (by kernel_rfl) ?_
        refine WR.runk [0, 1, 2] [3, 4, 5, 6, 7, 8, 9, 10, 11, 12, 13, 14, 15, 16, 17, 18, 19, 20, 21, 22, 23, 24, 25, 26, 27] [9, 11, 12, 13, 14, 74] (L' := [(9, pv54), (11, .int .i64 (wi (Int.tmod (IntKind.wrap .u64 a1) (IntKind.wrap .u64 (l0.length : Int))))), (12, .bool r56), (13, pv92), (14, .int .i64 r83.2), (74, .bool (r45.2 == 0))]) (w' := w90) (by kernel_rfl) ?_
        refine WR.split 74 (b := (r45.2 == 0)) (by kernel_rfl) (fun hb93 => ?_) (fun hb93 => ?_)
        · replace H := ite_t H hb93
          refine WR.runk [3, 4, 5, 6] [7, 8, 9, 10, 11, 12, 13, 14, 15, 16, 17, 18, 19, 20, 21, 22, 23, 24, 25, 26, 27] [9, 11, 12, 13, 78] (L' := [(9, pv54), (11, .int .i64 (wi (Int.tmod (IntKind.wrap .u64 a1) (IntKind.wrap .u64 (l0.length : Int))))), (12, .bool r56), (13, pv92), (78, .bool (r83.2 == 0))]) (w' := w90) (by kernel_rfl) ?_
          refine WR.split 78 (b := (r83.2 == 0)) (by kernel_rfl) (fun hb94 => ?_) (fun hb94 => ?_)
          · replace H := ite_t H hb94
            refine WR.runk [7, 8] [9, 10, 11, 12, 13, 14, 15, 16, 17, 18, 19, 20, 21, 22, 23, 24, 25, 26, 27] [9, 11, 12, 13, 78, 79, 80] (L' := [(9, pv54), (11, .int .i64 (wi (Int.tmod (IntKind.wrap .u64 a1) (IntKind.wrap .u64 (l0.length : Int))))), (12, .bool r56), (13, pv92), (78, .bool true), (79, pv54), (80, .int .i64 (wi (Int.tmod (IntKind.wrap .u64 a1) (IntKind.wrap .u64 (l0.length : Int)))))]) (w' := w90) (by kernel_rfl) ?_
            obtain ⟨r95, e96, H⟩ := bind_ex H
            refine WR.st (St.call (by kernel_rfl) (f := 18) (args := #[pv54, .int .i64 (wi (Int.tmod (IntKind.wrap .u64 a1) (IntKind.wrap .u64 (l0.length : Int))))]) (by kernel_rfl) (rank_Vec_At.calls w90 (pv54) r45.1 (Sat.rdAny 2 hS rfl (fun _ h => optP.rdd (t := 47) (κ := (.pair (.int .i64) (.pair (.slice 40 (.int .u64)) (.pair (.slice 3 (.int .i64)) (.int .i64))))) (O := O47) O47.rd h)) (wi (Int.tmod (IntKind.wrap .u64 a1) (IntKind.wrap .u64 (l0.length : Int)))) r95 e96) ?_)
            rintro _ w102 ⟨rfl, hS103⟩
            have hS : Sat w102 (rf w0) [optP O47 pv92 r83.1, O52 b26 r74.2, optP O47 pv54 r45.1] := hS.ext hS103
            refine WR.runk [10, 11, 12, 13] [14, 15, 16, 17, 18, 19, 20, 21, 22, 23, 24, 25, 26, 27] [9, 11, 12, 13, 85] (L' := [(9, pv54), (11, .int .i64 (wi (Int.tmod (IntKind.wrap .u64 a1) (IntKind.wrap .u64 (l0.length : Int))))), (12, .bool r56), (13, pv92), (85, .bool (r95 == r56))]) (w' := w102) (by kernel_rfl) ?_
            refine WR.split 85 (b := (r95 == r56)) (by kernel_rfl) (fun hb104 => ?_) (fun hb104 => ?_)
            · replace H := ite_t H hb104
              refine WR.runk [14, 15] [16, 17, 18, 19, 20, 21, 22, 23, 24, 25, 26, 27] [9, 12, 13, 85, 86, 87] (L' := [(9, pv54), (12, .bool r56), (13, pv92), (85, .bool true), (86, pv92), (87, .int .i64 (wi (Int.tmod (IntKind.wrap .u64 a1) (IntKind.wrap .u64 (l0.length : Int)))))]) (w' := w102) (by kernel_rfl) ?_
              obtain ⟨r105, e106, H⟩ := bind_ex H
              refine WR.st (St.call (by kernel_rfl) (f := 18) (args := #[pv92, .int .i64 (wi (Int.tmod (IntKind.wrap .u64 a1) (IntKind.wrap .u64 (l0.length : Int))))]) (by kernel_rfl) (rank_Vec_At.calls w102 (pv92) r83.1 (Sat.rdAny 0 hS rfl (fun _ h => optP.rdd (t := 47) (κ := (.pair (.int .i64) (.pair (.slice 40 (.int .u64)) (.pair (.slice 3 (.int .i64)) (.int .i64))))) (O := O47) O47.rd h)) (wi (Int.tmod (IntKind.wrap .u64 a1) (IntKind.wrap .u64 (l0.length : Int)))) r105 e106) ?_)
              rintro _ w112 ⟨rfl, hS113⟩
              have hS : Sat w112 (rf w0) [optP O47 pv92 r83.1, O52 b26 r74.2, optP O47 pv54 r45.1] := hS.ext hS113
              refine WR.runk [17, 18, 19, 20] [21, 22, 23, 24, 25, 26, 27] [9, 13, 92] (L' := [(9, pv54), (13, pv92), (92, .bool (r105 != r56))]) (w' := w112) (by kernel_rfl) ?_
              refine WR.split 92 (b := (r105 != r56)) (by kernel_rfl) (fun hb114 => ?_) (fun hb114 => ?_)
              · replace H := ite_t H hb114
                refine WR.runk [21] [22, 23, 24, 25, 26, 27] [13, 92, 93] (L' := [(13, pv92), (92, .bool true), (93, pv54)]) (w' := w112) (by kernel_rfl) ?_
                obtain ⟨r115, e116, H⟩ := bind_ex H
                refine WR.st (St.call (by kernel_rfl) (f := 15) (args := #[pv54]) (by kernel_rfl) (rank_Vec_Ones.calls w112 (pv54) r45.1 (Sat.rdAny 2 hS rfl (fun _ h => optP.rdd (t := 47) (κ := (.pair (.int .i64) (.pair (.slice 40 (.int .u64)) (.pair (.slice 3 (.int .i64)) (.int .i64))))) (O := O47) O47.rd h)) r115 e116) ?_)
                rintro _ w122 ⟨rfl, hS123⟩
                have hS : Sat w122 (rf w0) [optP O47 pv92 r83.1, O52 b26 r74.2, optP O47 pv54 r45.1] := hS.ext hS123
                refine WR.runk [23] [24, 25, 26, 27] [92, 94, 95] (L' := [(92, .bool true), (94, .int .i64 r115), (95, pv92)]) (w' := w122) (by kernel_rfl) ?_
                obtain ⟨r124, e125, H⟩ := bind_ex H
                refine WR.st (St.call (by kernel_rfl) (f := 15) (args := #[pv92]) (by kernel_rfl) (rank_Vec_Ones.calls w122 (pv92) r83.1 (Sat.rdAny 0 hS rfl (fun _ h => optP.rdd (t := 47) (κ := (.pair (.int .i64) (.pair (.slice 40 (.int .u64)) (.pair (.slice 3 (.int .i64)) (.int .i64))))) (O := O47) O47.rd h)) r124 e125) ?_)
                rintro _ w131 ⟨rfl, hS132⟩
                have hS : Sat w131 (rf w0) [optP O47 pv92 r83.1, O52 b26 r74.2, optP O47 pv54 r45.1] := hS.ext hS132
                refine WR.runk [25, 26, 27] [] [4] (L' := [(4, .bool (r115 != r124))]) (w' := w131) (by kernel_rfl) ?_
                refine WR.nil ?_
                refine At.go ?_
                refine WC.ret (by kernel_rfl) ?_
                obtain rfl := Option.some.inj H
                have hS : Sat w131 (rf w0) [] := hS.sel [] (by kernel_rfl)
                exact At.body [.bool (r115 != r124)] (by kernel_rfl) ⟨_, rfl, rfl, hS⟩
              · replace H := ite_f H hb114
                refine WR.runk [21, 22, 23, 24, 25, 26, 27] [] [4] (L' := [(4, .bool false)]) (w' := w112) (by kernel_rfl) ?_
                refine WR.nil ?_
                refine At.go ?_
                refine WC.ret (by kernel_rfl) ?_
                obtain rfl := Option.some.inj H
                have hS : Sat w112 (rf w0) [] := hS.sel [] (by kernel_rfl)
                exact At.body [.bool false] (by kernel_rfl) ⟨_, rfl, rfl, hS⟩
            · replace H := ite_f H hb104
              refine WR.runk [14, 15, 16, 17, 18, 19, 20, 21, 22, 23, 24, 25, 26, 27] [] [4] (L' := [(4, .bool false)]) (w' := w102) (by kernel_rfl) ?_
              refine WR.nil ?_
              refine At.go ?_
              refine WC.ret (by kernel_rfl) ?_
              obtain rfl := Option.some.inj H
              have hS : Sat w102 (rf w0) [] := hS.sel [] (by kernel_rfl)
              exact At.body [.bool false] (by kernel_rfl) ⟨_, rfl, rfl, hS⟩
          · replace H := ite_f H hb94
            refine WR.runk [7, 8, 9, 10, 11, 12, 13, 14, 15, 16, 17, 18, 19, 20, 21, 22, 23, 24, 25, 26, 27] [] [4] (L' := [(4, .bool false)]) (w' := w90) (by kernel_rfl) ?_
            refine WR.nil ?_
            refine At.go ?_
            refine WC.ret (by kernel_rfl) ?_
            obtain rfl := Option.some.inj H
            have hS : Sat w90 (rf w0) [] := hS.sel [] (by kernel_rfl)
            exact At.body [.bool false] (by kernel_rfl) ⟨_, rfl, rfl, hS⟩
        · replace H := ite_f H hb93
          refine WR.runk [3, 4, 5, 6, 7, 8, 9, 10, 11, 12, 13, 14, 15, 16, 17, 18, 19, 20, 21, 22, 23, 24, 25, 26, 27] [] [4] (L' := [(4, .bool false)]) (w' := w90) (by kernel_rfl) ?_
          refine WR.nil ?_
          refine At.go ?_
          refine WC.ret (by kernel_rfl) ?_
          obtain rfl := Option.some.inj H
          have hS : Sat w90 (rf w0) [] := hS.sel [] (by kernel_rfl)
          exact At.body [.bool false] (by kernel_rfl) ⟨_, rfl, rfl, hS⟩
end Go.Proofs.Ytlkgejhnjbbogaa
