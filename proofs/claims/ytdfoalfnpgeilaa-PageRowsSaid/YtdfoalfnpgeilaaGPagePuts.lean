/-
  Printed by gen.py (my own tool): for each Go function a plain Lean function and the proof that a call of it does what that function says.
-/
import Derived.Test.YtdfoalfnpgeilaaGP1
set_option linter.unusedVariables false
set_option linter.unusedSimpArgs false
set_option maxRecDepth 100000
namespace Go.Proofs.Ytdfoalfnpgeilaa
open Go Go.Gol
/-! ### 3 colophon/colophonlaw05.PagePuts -/
def colophonlaw05_PagePuts.l1 (l1 : List Int) (y67 : List Int) : Nat → Int → Option (Sum Bool Unit)
  | 0, _ => none
  | k + 1, x90_l1 => (if decide (x90_l1 < (y67.length : Int)) then ((at? y67 x90_l1).bind fun v73 => (if (v73 != 0) then some (.inl false) else colophonlaw05_PagePuts.l1 l1 y67 k (wi (x90_l1 + 1)))) else some (.inr ()))
def colophonlaw05_PagePuts.f (a0 : Int) (l1 : List Int) : Option Bool := (colophonlaw05_first.f.bind fun r1 => (if (!r1) then some false else (if decide ((l1.length : Int) > 2000) then some true else ((app? 140737488355328 (([] : List Int) : List Int) l1).bind fun y15 => ((page_Put.f a0 y15).bind fun r19 => ((colophonref05_Put.f a0 l1).bind fun r30 => (if (r19.2 != r30.2) then some false else (if (!((bs r19.1).toList == (bs r30.1).toList)) then some false else (if (!((bs y15).toList == (bs l1).toList)) then some false else (if (r30.2 != 0) then some ((r19.1.length : Int) == 0) else ((page_Get.f r19.1).bind fun r45 => (if (r45.2.2 != 0) then some false else (if (r45.1 != a0) then some false else (if ((r45.2.1.length : Int) != 256) then some false else ((sub? r45.2.1 0 (l1.length : Int)).bind fun y61 => (if (!((bs y61).toList == (bs l1).toList)) then some false else ((sub? r45.2.1 (l1.length : Int) (r45.2.1.length : Int)).bind fun y67 => ((colophonlaw05_PagePuts.l1 l1 y67 FU 0).bind fun o76 => (match o76 with | .inl o78 => some o78 | .inr o82 => some true)))))))))))))))))))
def colophonlaw05_PagePuts.post (w : World) (r : Bool) (v : Value) (w' : World) : Prop := v = (.bool r : Value) ∧ Sat w' (rf w) []
theorem colophonlaw05_PagePuts.l1_ok {Q} (w0 : World) (l1 : List Int) (r45 : Int × (List Int) × Int) (A54 : Option Addr) (c55 : Nat) (y67 : List Int) (A69 : Option Addr) (c70 : Nat) (T71 : SubT 1 A54 c55 r45.2.1 A69 c70 y67) (out : Sum Bool Unit) (hn0 : ∀ (o0 : Bool) (w : World), out = (.inl o0) → Sat w (rf w0) [] → At Q .ret 97 [(4, .bool o0)] w) (hn1 : ∀ (o1 : Unit) (w : World), out = (.inr o1) → Sat w (rf w0) [] → At Q (.exit 0) 97 [] w) :
    ∀ (k : Nat) (x90_l1 : Int) (w : World), Sat w (rf w0) [osl 5 (r0 (.int .u8)) 1 A54 c55 r45.2.1] → colophonlaw05_PagePuts.l1 l1 y67 k x90_l1 = some out → WL Try.prog (cbody (cbody (cr (cl (cr (cr (cr (cr (cr (cr (cr (cr (cr (cr C3)))))))))))))) Q 97 [(88, .slice A69 y67.length c70), (89, .int .i64 (y67.length : Int)), (90, .int .i64 x90_l1)] w := by
  intro k
  induction k with
  | zero => intro x90_l1 w hS H; exact absurd (show none = some out from H) (by simp)
  | succ k ih =>
    intro x90_l1 w hS H
    unfold colophonlaw05_PagePuts.l1 at H
    refine WL.round ?_
    refine WC.seq (by kernel_rfl) ?_
    refine WC.reg [0] (by kernel_rfl) (by kernel_rfl) ?_
    refine WR.runk [0] [] [88, 89, 90, 91] (L' := [(88, .slice A69 y67.length c70), (89, .int .i64 (y67.length : Int)), (90, .int .i64 x90_l1), (91, .bool (decide (x90_l1 < (y67.length : Int))))]) (w' := w) (by kernel_rfl) ?_
    refine WR.nil ?_
    refine At.go ?_
    refine WC.seq (by kernel_rfl) ?_
    refine WC.cond (by kernel_rfl) (decide (x90_l1 < (y67.length : Int))) (by kernel_rfl) (by kernel_rfl) (fun hb72 => ?_) (fun hb72 => ?_)
    · replace H := ite_t H hb72
      refine WC.skip (by kernel_rfl) ?_
      refine At.go ?_
      refine WC.seq (by kernel_rfl) ?_
      refine WC.block (by kernel_rfl) ?_
      refine WC.seq (by kernel_rfl) ?_
      refine WC.reg [0, 1, 2] (by kernel_rfl) (by kernel_rfl) ?_
      refine WR.runk [] [0, 1, 2] [88, 89, 90] (L' := [(88, .slice A69 y67.length c70), (89, .int .i64 (y67.length : Int)), (90, .int .i64 x90_l1)]) (w' := w) (by kernel_rfl) ?_
      obtain ⟨v73, e74, H⟩ := bind_ex H
      refine WR.st (St.ofP (PSt.idx (k := .i64) (.tmp 88) (.tmp 90) (by kernel_rfl) (by kernel_rfl) E22 (by kernel_rfl) (by kernel_rfl) (T71.rd _ _ (Sat.rdAt 0 hS rfl)) e74 ?_))
      refine WR.runk [] [1, 2] [88, 89, 90, 92] (L' := [(88, .slice A69 y67.length c70), (89, .int .i64 (y67.length : Int)), (90, .int .i64 x90_l1), (92, .pointer (some (adr A69 x90_l1.toNat 1)))]) (w' := w) (by kernel_rfl) ?_
      refine WR.st (St.ofR (RSt.loadInt (t := 5) (.tmp 92) (by kernel_rfl) (by kernel_rfl) (by kernel_rfl) (by kernel_rfl) (T71.rd _ _ (Sat.rdAt 0 hS rfl)) e74 ?_))
      refine WR.runk [2] [] [14, 88, 89, 90] (L' := [(14, .int .u8 v73), (88, .slice A69 y67.length c70), (89, .int .i64 (y67.length : Int)), (90, .int .i64 x90_l1)]) (w' := w) (by kernel_rfl) ?_
      refine WR.nil ?_
      refine At.go ?_
      refine WC.seq (by kernel_rfl) ?_
      refine WC.reg [0, 1] (by kernel_rfl) (by kernel_rfl) ?_
      refine WR.runk [0, 1] [] [88, 89, 90, 95] (L' := [(88, .slice A69 y67.length c70), (89, .int .i64 (y67.length : Int)), (90, .int .i64 x90_l1), (95, .bool (v73 != 0))]) (w' := w) (by kernel_rfl) ?_
      refine WR.nil ?_
      refine At.go ?_
      refine WC.cond (by kernel_rfl) (v73 != 0) (by kernel_rfl) (by kernel_rfl) (fun hb75 => ?_) (fun hb75 => ?_)
      · replace H := ite_t H hb75
        refine WC.seq (by kernel_rfl) ?_
        refine WC.reg [0] (by kernel_rfl) (by kernel_rfl) ?_
        refine WR.runk [0] [] [4] (L' := [(4, .bool false)]) (w' := w) (by kernel_rfl) ?_
        refine WR.nil ?_
        refine At.go ?_
        refine WC.ret (by kernel_rfl) ?_
        refine At.blockRet ?_
        refine At.thenRet ?_
        refine At.thenRet ?_
        obtain rfl := Option.some.inj H
        have hS : Sat w (rf w0) [] := hS.sel [] (by kernel_rfl)
        refine At.weaken [4] (L' := [(4, .bool false)]) (by kernel_rfl) ?_
        exact hn0 false _ rfl hS
      · replace H := ite_f H hb75
        refine WC.skip (by kernel_rfl) ?_
        refine At.blockNormal ?_
        refine At.go ?_
        refine WC.reg [0, 1] (by kernel_rfl) (by kernel_rfl) ?_
        refine WR.runk [0, 1] [] [88, 89, 90] (L' := [(88, .slice A69 y67.length c70), (89, .int .i64 (y67.length : Int)), (90, .int .i64 (wi (x90_l1 + 1)))]) (w' := w) (by kernel_rfl) ?_
        refine WR.nil ?_
        have hS : Sat w (rf w0) [osl 5 (r0 (.int .u8)) 1 A54 c55 r45.2.1] := hS.sel [0] (by kernel_rfl)
        refine At.again ?_
        refine WL.weaken [88, 89, 90] (L' := [(88, .slice A69 y67.length c70), (89, .int .i64 (y67.length : Int)), (90, .int .i64 (wi (x90_l1 + 1)))]) (by kernel_rfl) ?_
        exact ih (wi (x90_l1 + 1)) _ hS H
    · replace H := ite_f H hb72
      refine WC.exit (by kernel_rfl) ?_
      refine At.thenExit ?_
      refine At.thenExit ?_
      obtain rfl := Option.some.inj H
      have hS : Sat w (rf w0) [] := hS.sel [] (by kernel_rfl)
      refine At.weaken [] (L' := []) (by kernel_rfl) ?_
      exact hn1 () _ rfl hS
theorem colophonlaw05_PagePuts.calls (w0 : World) (a0 : Int) (A1 : Option Addr) (c1 : Nat) (l1 : List Int) (R1 : rdS (r0 (.int .u8)) 1 (hp w0) A1 c1 l1) (r : Bool) (H : colophonlaw05_PagePuts.f a0 l1 = some r) :
    Calls Try.prog 3 #[.int .i64 a0, .slice A1 l1.length c1] w0 (fun e w' => ∃ v, e = .returned v ∧ colophonlaw05_PagePuts.post w0 r v w') := by
  have hS : Sat w0 (rf w0) [] := Sat.start w0
  unfold colophonlaw05_PagePuts.f at H
  refine calls_of_WC (vs := [.int .i64 a0, .slice A1 l1.length c1]) Try.func3 (c := C3) (n := 97) (by kernel_rfl) (by kernel_rfl) (by kernel_rfl) ?_
  refine WC.seq (by kernel_rfl) ?_
  refine WC.reg [0] (by kernel_rfl) (by kernel_rfl) ?_
  refine WR.runk [0] [] [0, 1] (L' := [(0, .int .i64 a0), (1, .slice A1 l1.length c1)]) (w' := w0) (by kernel_rfl) ?_
  refine WR.nil ?_
  refine At.go ?_
  refine WC.seq (by kernel_rfl) ?_
  refine WC.seq (by kernel_rfl) ?_
  refine WC.reg [0, 1] (by kernel_rfl) (by kernel_rfl) ?_
  obtain ⟨r1, e2, H⟩ := bind_ex H
  refine WR.st (St.call (by kernel_rfl) (f := 8) (args := #[]) (by kernel_rfl) (colophonlaw05_first.calls w0  r1 e2) ?_)
  rintro _ w8 ⟨rfl, hS9⟩
  have hS : Sat w8 (rf w0) [] := hS.ext hS9
  refine WR.runk [1] [] [0, 1, 16] (L' := [(0, .int .i64 a0), (1, .slice A1 l1.length c1), (16, .bool (!r1))]) (w' := w8) (by kernel_rfl) ?_
  refine WR.nil ?_
  refine At.go ?_
  refine WC.cond (by kernel_rfl) (!r1) (by kernel_rfl) (by kernel_rfl) (fun hb10 => ?_) (fun hb10 => ?_)
  · replace H := ite_t H hb10
    refine WC.seq (by kernel_rfl) ?_
    refine WC.reg [0] (by kernel_rfl) (by kernel_rfl) ?_
    refine WR.runk [0] [] [4] (L' := [(4, .bool false)]) (w' := w8) (by kernel_rfl) ?_
    refine WR.nil ?_
    refine At.go ?_
    refine WC.ret (by kernel_rfl) ?_
    refine At.thenRet ?_
    obtain rfl := Option.some.inj H
    have hS : Sat w8 (rf w0) [] := hS.sel [] (by kernel_rfl)
    exact At.body [.bool false] (by kernel_rfl) ⟨_, rfl, rfl, hS⟩
  · replace H := ite_f H hb10
    refine WC.skip (by kernel_rfl) ?_
    refine At.go ?_
    refine WC.seq (by kernel_rfl) ?_
    refine WC.seq (by kernel_rfl) ?_
    refine WC.reg [0, 1, 2] (by kernel_rfl) (by kernel_rfl) ?_
    refine WR.runk [0, 1, 2] [] [0, 1, 19] (L' := [(0, .int .i64 a0), (1, .slice A1 l1.length c1), (19, .bool (decide ((l1.length : Int) > 2000)))]) (w' := w8) (by kernel_rfl) ?_
    refine WR.nil ?_
    refine At.go ?_
    refine WC.cond (by kernel_rfl) (decide ((l1.length : Int) > 2000)) (by kernel_rfl) (by kernel_rfl) (fun hb11 => ?_) (fun hb11 => ?_)
    · replace H := ite_t H hb11
      refine WC.seq (by kernel_rfl) ?_
      refine WC.reg [0] (by kernel_rfl) (by kernel_rfl) ?_
      refine WR.runk [0] [] [4] (L' := [(4, .bool true)]) (w' := w8) (by kernel_rfl) ?_
      refine WR.nil ?_
      refine At.go ?_
      refine WC.ret (by kernel_rfl) ?_
      refine At.thenRet ?_
      obtain rfl := Option.some.inj H
      have hS : Sat w8 (rf w0) [] := hS.sel [] (by kernel_rfl)
      exact At.body [.bool true] (by kernel_rfl) ⟨_, rfl, rfl, hS⟩
    · replace H := ite_f H hb11
      refine WC.skip (by kernel_rfl) ?_
      refine At.go ?_
      refine WC.seq (by kernel_rfl) ?_
      refine WC.reg [0, 1, 2, 3] (by kernel_rfl) (by kernel_rfl) ?_
      refine WR.runk [] [0, 1, 2, 3] [0, 1] (L' := [(0, .int .i64 a0), (1, .slice A1 l1.length c1)]) (w' := w8) (by kernel_rfl) ?_
      refine WR.st (St.box hS (by kernel_rfl) (.cells #[] 5) (fun b12 => .slice (some ⟨b12, 0, none⟩) 0 0) (fun _ => by kernel_rfl) (fun b12 w13 hS => ?_))
      refine WR.runk [1] [2, 3] [0, 1, 20, 21] (L' := [(0, .int .i64 a0), (1, .slice A1 l1.length c1), (20, .slice (some ⟨b12, 0, none⟩) 0 0), (21, .slice A1 l1.length c1)]) (w' := w13) (by kernel_rfl) ?_
      have hS : Sat w13 (rf w0) [osl 5 (r0 (.int .u8)) 1 (some ⟨b12, 0, none⟩) (([] : List Int) : List Int).length (([] : List Int) : List Int)] := Sat.toOsl' (r0 (.int .u8)) 1 (([] : List Int) : List Int) hS rfl (rdL.nil _ _)
      obtain ⟨y15, e14, H⟩ := bind_ex H
      refine WR.st (St.append' (.tmp 20) (.tmp 21) (by kernel_rfl) (by kernel_rfl) E22 (r0_one _) hS (by kernel_rfl) (by kernel_rfl) (rdS.up R1 hS.sub0) 140737488355328 (by kernel_rfl) (by kernel_rfl) e14 (fun A16 c17 w18 hS => ?_))
      refine WR.runk [3] [] [0, 1, 5] (L' := [(0, .int .i64 a0), (1, .slice A1 l1.length c1), (5, .slice A16 y15.length c17)]) (w' := w18) (by kernel_rfl) ?_
      refine WR.nil ?_
      refine At.go ?_
      refine WC.seq (by kernel_rfl) ?_
      refine WC.reg [0, 1, 2, 3, 4, 5, 6, 7] (by kernel_rfl) (by kernel_rfl) ?_
      refine WR.runk [0, 1] [2, 3, 4, 5, 6, 7] [0, 1, 5, 24, 25] (L' := [(0, .int .i64 a0), (1, .slice A1 l1.length c1), (5, .slice A16 y15.length c17), (24, .int .i64 a0), (25, .slice A16 y15.length c17)]) (w' := w18) (by kernel_rfl) ?_
      obtain ⟨r19, e20, H⟩ := bind_ex H
      refine WR.st (St.call (by kernel_rfl) (f := 9) (args := #[.int .i64 a0, .slice A16 y15.length c17]) (by kernel_rfl) (page_Put.calls w18 a0 A16 c17 y15 (Sat.rdAt 0 hS rfl) r19 e20) ?_)
      rintro _ w26 ⟨A28, c29, rfl, hS27⟩
      have hS : Sat w26 (rf w0) [osl 5 (r0 (.int .u8)) 1 A28 c29 r19.1, osl 5 (r0 (.int .u8)) 1 A16 c17 y15] := hS.ext hS27
      refine WR.runk [3, 4, 5, 6, 7] [] [0, 1, 5, 6, 7] (L' := [(0, .int .i64 a0), (1, .slice A1 l1.length c1), (5, .slice A16 y15.length c17), (6, .slice A28 r19.1.length c29), (7, .int .i64 r19.2)]) (w' := w26) (by kernel_rfl) ?_
      refine WR.nil ?_
      refine At.go ?_
      refine WC.seq (by kernel_rfl) ?_
      refine WC.reg [0, 1, 2, 3, 4, 5, 6, 7] (by kernel_rfl) (by kernel_rfl) ?_
      refine WR.runk [0, 1] [2, 3, 4, 5, 6, 7] [0, 1, 5, 6, 7, 30, 31] (L' := [(0, .int .i64 a0), (1, .slice A1 l1.length c1), (5, .slice A16 y15.length c17), (6, .slice A28 r19.1.length c29), (7, .int .i64 r19.2), (30, .int .i64 a0), (31, .slice A1 l1.length c1)]) (w' := w26) (by kernel_rfl) ?_
      obtain ⟨r30, e31, H⟩ := bind_ex H
      refine WR.st (St.call (by kernel_rfl) (f := 10) (args := #[.int .i64 a0, .slice A1 l1.length c1]) (by kernel_rfl) (colophonref05_Put.calls w26 a0 A1 c1 l1 (rdS.up R1 hS.sub0) r30 e31) ?_)
      rintro _ w37 ⟨A39, c40, rfl, hS38⟩
      have hS : Sat w37 (rf w0) [osl 5 (r0 (.int .u8)) 1 A39 c40 r30.1, osl 5 (r0 (.int .u8)) 1 A28 c29 r19.1, osl 5 (r0 (.int .u8)) 1 A16 c17 y15] := hS.ext hS38
      refine WR.runk [3, 4, 5, 6, 7] [] [0, 1, 5, 6, 7, 8, 9] (L' := [(0, .int .i64 a0), (1, .slice A1 l1.length c1), (5, .slice A16 y15.length c17), (6, .slice A28 r19.1.length c29), (7, .int .i64 r19.2), (8, .slice A39 r30.1.length c40), (9, .int .i64 r30.2)]) (w' := w37) (by kernel_rfl) ?_
      refine WR.nil ?_
      refine At.go ?_
      refine WC.seq (by kernel_rfl) ?_
      refine WC.seq (by kernel_rfl) ?_
      refine WC.reg [0, 1, 2, 3, 4, 5, 6, 7, 8, 9, 10, 11, 12, 13, 14, 15, 16] (by kernel_rfl) (by kernel_rfl) ?_
      refine WR.runk [0, 1, 2, 3] [4, 5, 6, 7, 8, 9, 10, 11, 12, 13, 14, 15, 16] [0, 1, 5, 6, 8, 9, 38] (L' := [(0, .int .i64 a0), (1, .slice A1 l1.length c1), (5, .slice A16 y15.length c17), (6, .slice A28 r19.1.length c29), (8, .slice A39 r30.1.length c40), (9, .int .i64 r30.2), (38, .bool (r19.2 != r30.2))]) (w' := w37) (by kernel_rfl) ?_
      refine WR.split 38 (b := (r19.2 != r30.2)) (by kernel_rfl) (fun hb41 => ?_) (fun hb41 => ?_)
      · replace H := ite_t H hb41
        refine WR.runk [4, 5, 6, 7, 8, 9, 10, 11, 12, 13, 14, 15, 16] [] [0, 1, 6, 9, 51] (L' := [(0, .int .i64 a0), (1, .slice A1 l1.length c1), (6, .slice A28 r19.1.length c29), (9, .int .i64 r30.2), (51, .bool true)]) (w' := w37) (by kernel_rfl) ?_
        refine WR.nil ?_
        refine At.go ?_
        refine WC.condT (by kernel_rfl) (by kernel_rfl) (by kernel_rfl) ?_
        refine WC.seq (by kernel_rfl) ?_
        refine WC.reg [0] (by kernel_rfl) (by kernel_rfl) ?_
        refine WR.runk [0] [] [4] (L' := [(4, .bool false)]) (w' := w37) (by kernel_rfl) ?_
        refine WR.nil ?_
        refine At.go ?_
        refine WC.ret (by kernel_rfl) ?_
        refine At.thenRet ?_
        obtain rfl := Option.some.inj H
        have hS : Sat w37 (rf w0) [] := hS.sel [] (by kernel_rfl)
        exact At.body [.bool false] (by kernel_rfl) ⟨_, rfl, rfl, hS⟩
      · replace H := ite_f H hb41
        refine WR.runk [4] [5, 6, 7, 8, 9, 10, 11, 12, 13, 14, 15, 16] [0, 1, 5, 6, 8, 9, 38, 39] (L' := [(0, .int .i64 a0), (1, .slice A1 l1.length c1), (5, .slice A16 y15.length c17), (6, .slice A28 r19.1.length c29), (8, .slice A39 r30.1.length c40), (9, .int .i64 r30.2), (38, .bool false), (39, .slice A28 r19.1.length c29)]) (w' := w37) (by kernel_rfl) ?_
        refine WR.st (St.ofR (RSt.toStr (src := 22) (dst := 9) (e := 5) (.tmp 39) (by kernel_rfl) (by kernel_rfl) (by kernel_rfl) (by kernel_rfl) (by kernel_rfl) (by kernel_rfl) (Sat.rdAt 1 hS rfl) ?_))
        refine WR.runk [6] [7, 8, 9, 10, 11, 12, 13, 14, 15, 16] [0, 1, 5, 6, 9, 38, 40, 41] (L' := [(0, .int .i64 a0), (1, .slice A1 l1.length c1), (5, .slice A16 y15.length c17), (6, .slice A28 r19.1.length c29), (9, .int .i64 r30.2), (38, .bool false), (40, .string (bs r19.1)), (41, .slice A39 r30.1.length c40)]) (w' := w37) (by kernel_rfl) ?_
        refine WR.st (St.ofR (RSt.toStr (src := 22) (dst := 9) (e := 5) (.tmp 41) (by kernel_rfl) (by kernel_rfl) (by kernel_rfl) (by kernel_rfl) (by kernel_rfl) (by kernel_rfl) (Sat.rdAt 0 hS rfl) ?_))
        refine WR.runk [8, 9, 10] [11, 12, 13, 14, 15, 16] [0, 1, 5, 6, 9, 45] (L' := [(0, .int .i64 a0), (1, .slice A1 l1.length c1), (5, .slice A16 y15.length c17), (6, .slice A28 r19.1.length c29), (9, .int .i64 r30.2), (45, .bool (!((bs r19.1).toList == (bs r30.1).toList)))]) (w' := w37) (by kernel_rfl) ?_
        refine WR.split 45 (b := (!((bs r19.1).toList == (bs r30.1).toList))) (by kernel_rfl) (fun hb42 => ?_) (fun hb42 => ?_)
        · replace H := ite_t H hb42
          refine WR.runk [11, 12, 13, 14, 15, 16] [] [0, 1, 6, 9, 51] (L' := [(0, .int .i64 a0), (1, .slice A1 l1.length c1), (6, .slice A28 r19.1.length c29), (9, .int .i64 r30.2), (51, .bool true)]) (w' := w37) (by kernel_rfl) ?_
          refine WR.nil ?_
          refine At.go ?_
          refine WC.condT (by kernel_rfl) (by kernel_rfl) (by kernel_rfl) ?_
          refine WC.seq (by kernel_rfl) ?_
          refine WC.reg [0] (by kernel_rfl) (by kernel_rfl) ?_
          refine WR.runk [0] [] [4] (L' := [(4, .bool false)]) (w' := w37) (by kernel_rfl) ?_
          refine WR.nil ?_
          refine At.go ?_
          refine WC.ret (by kernel_rfl) ?_
          refine At.thenRet ?_
          obtain rfl := Option.some.inj H
          have hS : Sat w37 (rf w0) [] := hS.sel [] (by kernel_rfl)
          exact At.body [.bool false] (by kernel_rfl) ⟨_, rfl, rfl, hS⟩
        · replace H := ite_f H hb42
          refine WR.runk [11] [12, 13, 14, 15, 16] [0, 1, 6, 9, 45, 46] (L' := [(0, .int .i64 a0), (1, .slice A1 l1.length c1), (6, .slice A28 r19.1.length c29), (9, .int .i64 r30.2), (45, .bool false), (46, .slice A16 y15.length c17)]) (w' := w37) (by kernel_rfl) ?_
          refine WR.st (St.ofR (RSt.toStr (src := 22) (dst := 9) (e := 5) (.tmp 46) (by kernel_rfl) (by kernel_rfl) (by kernel_rfl) (by kernel_rfl) (by kernel_rfl) (by kernel_rfl) (Sat.rdAt 2 hS rfl) ?_))
          refine WR.runk [13] [14, 15, 16] [0, 1, 6, 9, 45, 47, 48] (L' := [(0, .int .i64 a0), (1, .slice A1 l1.length c1), (6, .slice A28 r19.1.length c29), (9, .int .i64 r30.2), (45, .bool false), (47, .string (bs y15)), (48, .slice A1 l1.length c1)]) (w' := w37) (by kernel_rfl) ?_
          refine WR.st (St.ofR (RSt.toStr (src := 22) (dst := 9) (e := 5) (.tmp 48) (by kernel_rfl) (by kernel_rfl) (by kernel_rfl) (by kernel_rfl) (by kernel_rfl) (by kernel_rfl) (rdS.up R1 hS.sub0) ?_))
          refine WR.runk [15, 16] [] [0, 1, 6, 9, 51] (L' := [(0, .int .i64 a0), (1, .slice A1 l1.length c1), (6, .slice A28 r19.1.length c29), (9, .int .i64 r30.2), (51, .bool (!((bs y15).toList == (bs l1).toList)))]) (w' := w37) (by kernel_rfl) ?_
          refine WR.nil ?_
          refine At.go ?_
          refine WC.cond (by kernel_rfl) (!((bs y15).toList == (bs l1).toList)) (by kernel_rfl) (by kernel_rfl) (fun hb43 => ?_) (fun hb43 => ?_)
          · replace H := ite_t H hb43
            refine WC.seq (by kernel_rfl) ?_
            refine WC.reg [0] (by kernel_rfl) (by kernel_rfl) ?_
            refine WR.runk [0] [] [4] (L' := [(4, .bool false)]) (w' := w37) (by kernel_rfl) ?_
            refine WR.nil ?_
            refine At.go ?_
            refine WC.ret (by kernel_rfl) ?_
            refine At.thenRet ?_
            obtain rfl := Option.some.inj H
            have hS : Sat w37 (rf w0) [] := hS.sel [] (by kernel_rfl)
            exact At.body [.bool false] (by kernel_rfl) ⟨_, rfl, rfl, hS⟩
          · replace H := ite_f H hb43
            refine WC.skip (by kernel_rfl) ?_
            refine At.go ?_
            refine WC.seq (by kernel_rfl) ?_
            refine WC.seq (by kernel_rfl) ?_
            refine WC.reg [0, 1] (by kernel_rfl) (by kernel_rfl) ?_
            refine WR.runk [0, 1] [] [0, 1, 6, 53] (L' := [(0, .int .i64 a0), (1, .slice A1 l1.length c1), (6, .slice A28 r19.1.length c29), (53, .bool (r30.2 != 0))]) (w' := w37) (by kernel_rfl) ?_
            refine WR.nil ?_
            refine At.go ?_
            refine WC.cond (by kernel_rfl) (r30.2 != 0) (by kernel_rfl) (by kernel_rfl) (fun hb44 => ?_) (fun hb44 => ?_)
            · replace H := ite_t H hb44
              refine WC.seq (by kernel_rfl) ?_
              refine WC.reg [0, 1, 2, 3] (by kernel_rfl) (by kernel_rfl) ?_
              refine WR.runk [0, 1, 2, 3] [] [4] (L' := [(4, .bool ((r19.1.length : Int) == 0))]) (w' := w37) (by kernel_rfl) ?_
              refine WR.nil ?_
              refine At.go ?_
              refine WC.ret (by kernel_rfl) ?_
              refine At.thenRet ?_
              obtain rfl := Option.some.inj H
              have hS : Sat w37 (rf w0) [] := hS.sel [] (by kernel_rfl)
              exact At.body [.bool ((r19.1.length : Int) == 0)] (by kernel_rfl) ⟨_, rfl, rfl, hS⟩
            · replace H := ite_f H hb44
              refine WC.skip (by kernel_rfl) ?_
              refine At.go ?_
              refine WC.seq (by kernel_rfl) ?_
              refine WC.reg [0, 1, 2, 3, 4, 5, 6, 7, 8] (by kernel_rfl) (by kernel_rfl) ?_
              refine WR.runk [0] [1, 2, 3, 4, 5, 6, 7, 8] [0, 1, 58] (L' := [(0, .int .i64 a0), (1, .slice A1 l1.length c1), (58, .slice A28 r19.1.length c29)]) (w' := w37) (by kernel_rfl) ?_
              obtain ⟨r45, e46, H⟩ := bind_ex H
              refine WR.st (St.call (by kernel_rfl) (f := 11) (args := #[.slice A28 r19.1.length c29]) (by kernel_rfl) (page_Get.calls w37 A28 c29 r19.1 (Sat.rdAt 1 hS rfl) r45 e46) ?_)
              rintro _ w52 ⟨A54, c55, rfl, hS53⟩
              have hS : Sat w52 (rf w0) [osl 5 (r0 (.int .u8)) 1 A54 c55 r45.2.1, osl 5 (r0 (.int .u8)) 1 A39 c40 r30.1, osl 5 (r0 (.int .u8)) 1 A28 c29 r19.1, osl 5 (r0 (.int .u8)) 1 A16 c17 y15] := hS.ext hS53
              refine WR.runk [2, 3, 4, 5, 6, 7, 8] [] [0, 1, 10, 11, 12] (L' := [(0, .int .i64 a0), (1, .slice A1 l1.length c1), (10, .int .i64 r45.1), (11, .slice A54 r45.2.1.length c55), (12, .int .i64 r45.2.2)]) (w' := w52) (by kernel_rfl) ?_
              refine WR.nil ?_
              refine At.go ?_
              refine WC.seq (by kernel_rfl) ?_
              refine WC.seq (by kernel_rfl) ?_
              refine WC.drawn (by kernel_rfl) (by kernel_rfl) 22 (by kernel_rfl) (fun w56 hw57 => ?_)
              have hS := hS.heap hw57.1 hw57.2
              refine WD.weaken [0, 1, 10, 11, 12] (L' := [(0, .int .i64 a0), (1, .slice A1 l1.length c1), (10, .int .i64 r45.1), (11, .slice A54 r45.2.1.length c55), (12, .int .i64 r45.2.2)]) (by kernel_rfl) ?_
              refine WD.pure (i := 0) (v := .int .i64 r45.2.2) (by kernel_rfl) (by kernel_rfl) (fun _ => by kernel_rfl) ?_
              refine WD.weaken [0, 1, 10, 11, 63] (L' := [(0, .int .i64 a0), (1, .slice A1 l1.length c1), (10, .int .i64 r45.1), (11, .slice A54 r45.2.1.length c55), (63, .int .i64 r45.2.2)]) (by kernel_rfl) ?_
              refine WD.pure (i := 1) (v := .bool (r45.2.2 != 0)) (by kernel_rfl) (by kernel_rfl) (fun _ => by kernel_rfl) ?_
              refine WD.weaken [0, 1, 10, 11, 64] (L' := [(0, .int .i64 a0), (1, .slice A1 l1.length c1), (10, .int .i64 r45.1), (11, .slice A54 r45.2.1.length c55), (64, .bool (r45.2.2 != 0))]) (by kernel_rfl) ?_
              refine WD.pure (i := 2) (v := .bool (r45.2.2 != 0)) (by kernel_rfl) (by kernel_rfl) (fun _ => by kernel_rfl) ?_
              refine WD.weaken [0, 1, 10, 11, 65] (L' := [(0, .int .i64 a0), (1, .slice A1 l1.length c1), (10, .int .i64 r45.1), (11, .slice A54 r45.2.1.length c55), (65, .bool (r45.2.2 != 0))]) (by kernel_rfl) ?_
              refine WD.split 65 (b := (r45.2.2 != 0)) (by kernel_rfl) (fun hb58 => ?_) (fun hb58 => ?_)
              · replace H := ite_t H hb58
                refine WD.weaken [0, 1, 10, 11, 65] (L' := [(0, .int .i64 a0), (1, .slice A1 l1.length c1), (10, .int .i64 r45.1), (11, .slice A54 r45.2.1.length c55), (65, .bool true)]) (by kernel_rfl) ?_
                refine WD.skip (i := 3) (by kernel_rfl) (by kernel_rfl) ?_
                refine WD.weaken [0, 1, 11, 65, 66] (L' := [(0, .int .i64 a0), (1, .slice A1 l1.length c1), (11, .slice A54 r45.2.1.length c55), (65, .bool true), (66, undef)]) (by kernel_rfl) ?_
                refine WD.skip (i := 4) (by kernel_rfl) (by kernel_rfl) ?_
                refine WD.weaken [1, 11, 65, 66, 67] (L' := [(1, .slice A1 l1.length c1), (11, .slice A54 r45.2.1.length c55), (65, .bool true), (66, undef), (67, undef)]) (by kernel_rfl) ?_
                refine WD.skip (i := 5) (by kernel_rfl) (by kernel_rfl) ?_
                refine WD.weaken [1, 11, 65, 68] (L' := [(1, .slice A1 l1.length c1), (11, .slice A54 r45.2.1.length c55), (65, .bool true), (68, undef)]) (by kernel_rfl) ?_
                refine WD.pure (i := 6) (v := .bool true) (by kernel_rfl) (by kernel_rfl) (fun _ => by kernel_rfl) ?_
                refine WD.weaken [1, 11, 69] (L' := [(1, .slice A1 l1.length c1), (11, .slice A54 r45.2.1.length c55), (69, .bool true)]) (by kernel_rfl) ?_
                refine WD.pure (i := 7) (v := .bool true) (by kernel_rfl) (by kernel_rfl) (fun _ => by kernel_rfl) ?_
                refine WD.weaken [1, 11, 70] (L' := [(1, .slice A1 l1.length c1), (11, .slice A54 r45.2.1.length c55), (70, .bool true)]) (by kernel_rfl) ?_
                refine WD.skip (i := 8) (by kernel_rfl) (by kernel_rfl) ?_
                refine WD.weaken [1, 11, 70, 71] (L' := [(1, .slice A1 l1.length c1), (11, .slice A54 r45.2.1.length c55), (70, .bool true), (71, undef)]) (by kernel_rfl) ?_
                refine WD.skip (i := 9) (by kernel_rfl) (by kernel_rfl) ?_
                refine WD.weaken [1, 11, 70, 72] (L' := [(1, .slice A1 l1.length c1), (11, .slice A54 r45.2.1.length c55), (70, .bool true), (72, undef)]) (by kernel_rfl) ?_
                refine WD.skip (i := 10) (by kernel_rfl) (by kernel_rfl) ?_
                refine WD.weaken [1, 11, 70, 73] (L' := [(1, .slice A1 l1.length c1), (11, .slice A54 r45.2.1.length c55), (70, .bool true), (73, undef)]) (by kernel_rfl) ?_
                refine WD.pure (i := 11) (v := .bool true) (by kernel_rfl) (by kernel_rfl) (fun _ => by kernel_rfl) ?_
                refine WD.weaken [1, 11, 74] (L' := [(1, .slice A1 l1.length c1), (11, .slice A54 r45.2.1.length c55), (74, .bool true)]) (by kernel_rfl) ?_
                refine WD.pure (i := 12) (v := .bool true) (by kernel_rfl) (by kernel_rfl) (fun _ => by kernel_rfl) ?_
                refine WD.weaken [1, 11, 75] (L' := [(1, .slice A1 l1.length c1), (11, .slice A54 r45.2.1.length c55), (75, .bool true)]) (by kernel_rfl) ?_
                refine WD.skip (i := 13) (by kernel_rfl) (by kernel_rfl) ?_
                refine WD.weaken [1, 11, 75, 76] (L' := [(1, .slice A1 l1.length c1), (11, .slice A54 r45.2.1.length c55), (75, .bool true), (76, undef)]) (by kernel_rfl) ?_
                refine WD.skip (i := 14) (by kernel_rfl) (by kernel_rfl) ?_
                refine WD.weaken [1, 11, 75, 76, 77] (L' := [(1, .slice A1 l1.length c1), (11, .slice A54 r45.2.1.length c55), (75, .bool true), (76, undef), (77, undef)]) (by kernel_rfl) ?_
                refine WD.skip (i := 15) (by kernel_rfl) (by kernel_rfl) ?_
                refine WD.weaken [1, 11, 75, 76, 78] (L' := [(1, .slice A1 l1.length c1), (11, .slice A54 r45.2.1.length c55), (75, .bool true), (76, undef), (78, undef)]) (by kernel_rfl) ?_
                refine WD.skip (i := 16) (by kernel_rfl) (by kernel_rfl) ?_
                refine WD.weaken [1, 11, 75, 79] (L' := [(1, .slice A1 l1.length c1), (11, .slice A54 r45.2.1.length c55), (75, .bool true), (79, undef)]) (by kernel_rfl) ?_
                refine WD.skip (i := 17) (by kernel_rfl) (by kernel_rfl) ?_
                refine WD.weaken [1, 11, 75, 80] (L' := [(1, .slice A1 l1.length c1), (11, .slice A54 r45.2.1.length c55), (75, .bool true), (80, undef)]) (by kernel_rfl) ?_
                refine WD.skip (i := 18) (by kernel_rfl) (by kernel_rfl) ?_
                refine WD.weaken [1, 11, 75, 80, 81] (L' := [(1, .slice A1 l1.length c1), (11, .slice A54 r45.2.1.length c55), (75, .bool true), (80, undef), (81, undef)]) (by kernel_rfl) ?_
                refine WD.skip (i := 19) (by kernel_rfl) (by kernel_rfl) ?_
                refine WD.weaken [1, 11, 75, 80, 82] (L' := [(1, .slice A1 l1.length c1), (11, .slice A54 r45.2.1.length c55), (75, .bool true), (80, undef), (82, undef)]) (by kernel_rfl) ?_
                refine WD.skip (i := 20) (by kernel_rfl) (by kernel_rfl) ?_
                refine WD.weaken [1, 11, 75, 83] (L' := [(1, .slice A1 l1.length c1), (11, .slice A54 r45.2.1.length c55), (75, .bool true), (83, undef)]) (by kernel_rfl) ?_
                refine WD.pure (i := 21) (v := .bool true) (by kernel_rfl) (by kernel_rfl) (fun _ => by kernel_rfl) ?_
                refine WD.weaken [1, 11, 84] (L' := [(1, .slice A1 l1.length c1), (11, .slice A54 r45.2.1.length c55), (84, .bool true)]) (by kernel_rfl) ?_
                refine WD.nil (by kernel_rfl) ?_
                refine At.go ?_
                refine WC.condT (by kernel_rfl) (by kernel_rfl) (by kernel_rfl) ?_
                refine WC.seq (by kernel_rfl) ?_
                refine WC.reg [0] (by kernel_rfl) (by kernel_rfl) ?_
                refine WR.runk [0] [] [4] (L' := [(4, .bool false)]) (w' := w56) (by kernel_rfl) ?_
                refine WR.nil ?_
                refine At.go ?_
                refine WC.ret (by kernel_rfl) ?_
                refine At.thenRet ?_
                obtain rfl := Option.some.inj H
                have hS : Sat w56 (rf w0) [] := hS.sel [] (by kernel_rfl)
                exact At.body [.bool false] (by kernel_rfl) ⟨_, rfl, rfl, hS⟩
              · replace H := ite_f H hb58
                refine WD.weaken [0, 1, 10, 11, 65] (L' := [(0, .int .i64 a0), (1, .slice A1 l1.length c1), (10, .int .i64 r45.1), (11, .slice A54 r45.2.1.length c55), (65, .bool false)]) (by kernel_rfl) ?_
                refine WD.pure (i := 3) (v := .int .i64 r45.1) (by kernel_rfl) (by kernel_rfl) (fun _ => by kernel_rfl) ?_
                refine WD.weaken [0, 1, 11, 65, 66] (L' := [(0, .int .i64 a0), (1, .slice A1 l1.length c1), (11, .slice A54 r45.2.1.length c55), (65, .bool false), (66, .int .i64 r45.1)]) (by kernel_rfl) ?_
                refine WD.pure (i := 4) (v := .int .i64 a0) (by kernel_rfl) (by kernel_rfl) (fun _ => by kernel_rfl) ?_
                refine WD.weaken [1, 11, 65, 66, 67] (L' := [(1, .slice A1 l1.length c1), (11, .slice A54 r45.2.1.length c55), (65, .bool false), (66, .int .i64 r45.1), (67, .int .i64 a0)]) (by kernel_rfl) ?_
                refine WD.pure (i := 5) (v := .bool (r45.1 != a0)) (by kernel_rfl) (by kernel_rfl) (fun _ => by kernel_rfl) ?_
                refine WD.weaken [1, 11, 65, 68] (L' := [(1, .slice A1 l1.length c1), (11, .slice A54 r45.2.1.length c55), (65, .bool false), (68, .bool (r45.1 != a0))]) (by kernel_rfl) ?_
                refine WD.pure (i := 6) (v := .bool (r45.1 != a0)) (by kernel_rfl) (by kernel_rfl) (fun _ => by kernel_rfl) ?_
                refine WD.weaken [1, 11, 69] (L' := [(1, .slice A1 l1.length c1), (11, .slice A54 r45.2.1.length c55), (69, .bool (r45.1 != a0))]) (by kernel_rfl) ?_
                refine WD.pure (i := 7) (v := .bool (r45.1 != a0)) (by kernel_rfl) (by kernel_rfl) (fun _ => by kernel_rfl) ?_
                refine WD.weaken [1, 11, 70] (L' := [(1, .slice A1 l1.length c1), (11, .slice A54 r45.2.1.length c55), (70, .bool (r45.1 != a0))]) (by kernel_rfl) ?_
                refine WD.split 70 (b := (r45.1 != a0)) (by kernel_rfl) (fun hb59 => ?_) (fun hb59 => ?_)
                · replace H := ite_t H hb59
                  refine WD.weaken [1, 11, 70] (L' := [(1, .slice A1 l1.length c1), (11, .slice A54 r45.2.1.length c55), (70, .bool true)]) (by kernel_rfl) ?_
                  refine WD.skip (i := 8) (by kernel_rfl) (by kernel_rfl) ?_
                  refine WD.weaken [1, 11, 70, 71] (L' := [(1, .slice A1 l1.length c1), (11, .slice A54 r45.2.1.length c55), (70, .bool true), (71, undef)]) (by kernel_rfl) ?_
                  refine WD.skip (i := 9) (by kernel_rfl) (by kernel_rfl) ?_
                  refine WD.weaken [1, 11, 70, 72] (L' := [(1, .slice A1 l1.length c1), (11, .slice A54 r45.2.1.length c55), (70, .bool true), (72, undef)]) (by kernel_rfl) ?_
                  refine WD.skip (i := 10) (by kernel_rfl) (by kernel_rfl) ?_
                  refine WD.weaken [1, 11, 70, 73] (L' := [(1, .slice A1 l1.length c1), (11, .slice A54 r45.2.1.length c55), (70, .bool true), (73, undef)]) (by kernel_rfl) ?_
                  refine WD.pure (i := 11) (v := .bool true) (by kernel_rfl) (by kernel_rfl) (fun _ => by kernel_rfl) ?_
                  refine WD.weaken [1, 11, 74] (L' := [(1, .slice A1 l1.length c1), (11, .slice A54 r45.2.1.length c55), (74, .bool true)]) (by kernel_rfl) ?_
                  refine WD.pure (i := 12) (v := .bool true) (by kernel_rfl) (by kernel_rfl) (fun _ => by kernel_rfl) ?_
                  refine WD.weaken [1, 11, 75] (L' := [(1, .slice A1 l1.length c1), (11, .slice A54 r45.2.1.length c55), (75, .bool true)]) (by kernel_rfl) ?_
                  refine WD.skip (i := 13) (by kernel_rfl) (by kernel_rfl) ?_
                  refine WD.weaken [1, 11, 75, 76] (L' := [(1, .slice A1 l1.length c1), (11, .slice A54 r45.2.1.length c55), (75, .bool true), (76, undef)]) (by kernel_rfl) ?_
                  refine WD.skip (i := 14) (by kernel_rfl) (by kernel_rfl) ?_
                  refine WD.weaken [1, 11, 75, 76, 77] (L' := [(1, .slice A1 l1.length c1), (11, .slice A54 r45.2.1.length c55), (75, .bool true), (76, undef), (77, undef)]) (by kernel_rfl) ?_
                  refine WD.skip (i := 15) (by kernel_rfl) (by kernel_rfl) ?_
                  refine WD.weaken [1, 11, 75, 76, 78] (L' := [(1, .slice A1 l1.length c1), (11, .slice A54 r45.2.1.length c55), (75, .bool true), (76, undef), (78, undef)]) (by kernel_rfl) ?_
                  refine WD.skip (i := 16) (by kernel_rfl) (by kernel_rfl) ?_
                  refine WD.weaken [1, 11, 75, 79] (L' := [(1, .slice A1 l1.length c1), (11, .slice A54 r45.2.1.length c55), (75, .bool true), (79, undef)]) (by kernel_rfl) ?_
                  refine WD.skip (i := 17) (by kernel_rfl) (by kernel_rfl) ?_
                  refine WD.weaken [1, 11, 75, 80] (L' := [(1, .slice A1 l1.length c1), (11, .slice A54 r45.2.1.length c55), (75, .bool true), (80, undef)]) (by kernel_rfl) ?_
                  refine WD.skip (i := 18) (by kernel_rfl) (by kernel_rfl) ?_
                  refine WD.weaken [1, 11, 75, 80, 81] (L' := [(1, .slice A1 l1.length c1), (11, .slice A54 r45.2.1.length c55), (75, .bool true), (80, undef), (81, undef)]) (by kernel_rfl) ?_
                  refine WD.skip (i := 19) (by kernel_rfl) (by kernel_rfl) ?_
                  refine WD.weaken [1, 11, 75, 80, 82] (L' := [(1, .slice A1 l1.length c1), (11, .slice A54 r45.2.1.length c55), (75, .bool true), (80, undef), (82, undef)]) (by kernel_rfl) ?_
                  refine WD.skip (i := 20) (by kernel_rfl) (by kernel_rfl) ?_
                  refine WD.weaken [1, 11, 75, 83] (L' := [(1, .slice A1 l1.length c1), (11, .slice A54 r45.2.1.length c55), (75, .bool true), (83, undef)]) (by kernel_rfl) ?_
                  refine WD.pure (i := 21) (v := .bool true) (by kernel_rfl) (by kernel_rfl) (fun _ => by kernel_rfl) ?_
                  refine WD.weaken [1, 11, 84] (L' := [(1, .slice A1 l1.length c1), (11, .slice A54 r45.2.1.length c55), (84, .bool true)]) (by kernel_rfl) ?_
                  refine WD.nil (by kernel_rfl) ?_
                  refine At.go ?_
                  refine WC.condT (by kernel_rfl) (by kernel_rfl) (by kernel_rfl) ?_
                  refine WC.seq (by kernel_rfl) ?_
                  refine WC.reg [0] (by kernel_rfl) (by kernel_rfl) ?_
                  refine WR.runk [0] [] [4] (L' := [(4, .bool false)]) (w' := w56) (by kernel_rfl) ?_
                  refine WR.nil ?_
                  refine At.go ?_
                  refine WC.ret (by kernel_rfl) ?_
                  refine At.thenRet ?_
                  obtain rfl := Option.some.inj H
                  have hS : Sat w56 (rf w0) [] := hS.sel [] (by kernel_rfl)
                  exact At.body [.bool false] (by kernel_rfl) ⟨_, rfl, rfl, hS⟩
                · replace H := ite_f H hb59
                  refine WD.weaken [1, 11, 70] (L' := [(1, .slice A1 l1.length c1), (11, .slice A54 r45.2.1.length c55), (70, .bool false)]) (by kernel_rfl) ?_
                  refine WD.pure (i := 8) (v := .slice A54 r45.2.1.length c55) (by kernel_rfl) (by kernel_rfl) (fun _ => by kernel_rfl) ?_
                  refine WD.weaken [1, 11, 70, 71] (L' := [(1, .slice A1 l1.length c1), (11, .slice A54 r45.2.1.length c55), (70, .bool false), (71, .slice A54 r45.2.1.length c55)]) (by kernel_rfl) ?_
                  refine WD.pure (i := 9) (v := .int .i64 (r45.2.1.length : Int)) (by kernel_rfl) (by kernel_rfl) (fun _ => by kernel_rfl) ?_
                  refine WD.weaken [1, 11, 70, 72] (L' := [(1, .slice A1 l1.length c1), (11, .slice A54 r45.2.1.length c55), (70, .bool false), (72, .int .i64 (r45.2.1.length : Int))]) (by kernel_rfl) ?_
                  refine WD.pure (i := 10) (v := .bool ((r45.2.1.length : Int) != 256)) (by kernel_rfl) (by kernel_rfl) (fun _ => by kernel_rfl) ?_
                  refine WD.weaken [1, 11, 70, 73] (L' := [(1, .slice A1 l1.length c1), (11, .slice A54 r45.2.1.length c55), (70, .bool false), (73, .bool ((r45.2.1.length : Int) != 256))]) (by kernel_rfl) ?_
                  refine WD.pure (i := 11) (v := .bool ((r45.2.1.length : Int) != 256)) (by kernel_rfl) (by kernel_rfl) (fun _ => by kernel_rfl) ?_
                  refine WD.weaken [1, 11, 74] (L' := [(1, .slice A1 l1.length c1), (11, .slice A54 r45.2.1.length c55), (74, .bool ((r45.2.1.length : Int) != 256))]) (by kernel_rfl) ?_
                  refine WD.pure (i := 12) (v := .bool ((r45.2.1.length : Int) != 256)) (by kernel_rfl) (by kernel_rfl) (fun _ => by kernel_rfl) ?_
                  refine WD.weaken [1, 11, 75] (L' := [(1, .slice A1 l1.length c1), (11, .slice A54 r45.2.1.length c55), (75, .bool ((r45.2.1.length : Int) != 256))]) (by kernel_rfl) ?_
                  refine WD.split 75 (b := ((r45.2.1.length : Int) != 256)) (by kernel_rfl) (fun hb60 => ?_) (fun hb60 => ?_)
                  · replace H := ite_t H hb60
                    refine WD.weaken [1, 11, 75] (L' := [(1, .slice A1 l1.length c1), (11, .slice A54 r45.2.1.length c55), (75, .bool true)]) (by kernel_rfl) ?_
                    refine WD.skip (i := 13) (by kernel_rfl) (by kernel_rfl) ?_
                    refine WD.weaken [1, 11, 75, 76] (L' := [(1, .slice A1 l1.length c1), (11, .slice A54 r45.2.1.length c55), (75, .bool true), (76, undef)]) (by kernel_rfl) ?_
                    refine WD.skip (i := 14) (by kernel_rfl) (by kernel_rfl) ?_
                    refine WD.weaken [1, 11, 75, 76, 77] (L' := [(1, .slice A1 l1.length c1), (11, .slice A54 r45.2.1.length c55), (75, .bool true), (76, undef), (77, undef)]) (by kernel_rfl) ?_
                    refine WD.skip (i := 15) (by kernel_rfl) (by kernel_rfl) ?_
                    refine WD.weaken [1, 11, 75, 76, 78] (L' := [(1, .slice A1 l1.length c1), (11, .slice A54 r45.2.1.length c55), (75, .bool true), (76, undef), (78, undef)]) (by kernel_rfl) ?_
                    refine WD.skip (i := 16) (by kernel_rfl) (by kernel_rfl) ?_
                    refine WD.weaken [1, 11, 75, 79] (L' := [(1, .slice A1 l1.length c1), (11, .slice A54 r45.2.1.length c55), (75, .bool true), (79, undef)]) (by kernel_rfl) ?_
                    refine WD.skip (i := 17) (by kernel_rfl) (by kernel_rfl) ?_
                    refine WD.weaken [1, 11, 75, 80] (L' := [(1, .slice A1 l1.length c1), (11, .slice A54 r45.2.1.length c55), (75, .bool true), (80, undef)]) (by kernel_rfl) ?_
                    refine WD.skip (i := 18) (by kernel_rfl) (by kernel_rfl) ?_
                    refine WD.weaken [1, 11, 75, 80, 81] (L' := [(1, .slice A1 l1.length c1), (11, .slice A54 r45.2.1.length c55), (75, .bool true), (80, undef), (81, undef)]) (by kernel_rfl) ?_
                    refine WD.skip (i := 19) (by kernel_rfl) (by kernel_rfl) ?_
                    refine WD.weaken [1, 11, 75, 80, 82] (L' := [(1, .slice A1 l1.length c1), (11, .slice A54 r45.2.1.length c55), (75, .bool true), (80, undef), (82, undef)]) (by kernel_rfl) ?_
                    refine WD.skip (i := 20) (by kernel_rfl) (by kernel_rfl) ?_
                    refine WD.weaken [1, 11, 75, 83] (L' := [(1, .slice A1 l1.length c1), (11, .slice A54 r45.2.1.length c55), (75, .bool true), (83, undef)]) (by kernel_rfl) ?_
                    refine WD.pure (i := 21) (v := .bool true) (by kernel_rfl) (by kernel_rfl) (fun _ => by kernel_rfl) ?_
                    refine WD.weaken [1, 11, 84] (L' := [(1, .slice A1 l1.length c1), (11, .slice A54 r45.2.1.length c55), (84, .bool true)]) (by kernel_rfl) ?_
                    refine WD.nil (by kernel_rfl) ?_
                    refine At.go ?_
                    refine WC.condT (by kernel_rfl) (by kernel_rfl) (by kernel_rfl) ?_
                    refine WC.seq (by kernel_rfl) ?_
                    refine WC.reg [0] (by kernel_rfl) (by kernel_rfl) ?_
                    refine WR.runk [0] [] [4] (L' := [(4, .bool false)]) (w' := w56) (by kernel_rfl) ?_
                    refine WR.nil ?_
                    refine At.go ?_
                    refine WC.ret (by kernel_rfl) ?_
                    refine At.thenRet ?_
                    obtain rfl := Option.some.inj H
                    have hS : Sat w56 (rf w0) [] := hS.sel [] (by kernel_rfl)
                    exact At.body [.bool false] (by kernel_rfl) ⟨_, rfl, rfl, hS⟩
                  · replace H := ite_f H hb60
                    refine WD.weaken [1, 11, 75] (L' := [(1, .slice A1 l1.length c1), (11, .slice A54 r45.2.1.length c55), (75, .bool false)]) (by kernel_rfl) ?_
                    refine WD.pure (i := 13) (v := .slice A54 r45.2.1.length c55) (by kernel_rfl) (by kernel_rfl) (fun _ => by kernel_rfl) ?_
                    refine WD.weaken [1, 11, 75, 76] (L' := [(1, .slice A1 l1.length c1), (11, .slice A54 r45.2.1.length c55), (75, .bool false), (76, .slice A54 r45.2.1.length c55)]) (by kernel_rfl) ?_
                    refine WD.pure (i := 14) (v := .slice A1 l1.length c1) (by kernel_rfl) (by kernel_rfl) (fun _ => by kernel_rfl) ?_
                    refine WD.weaken [1, 11, 75, 76, 77] (L' := [(1, .slice A1 l1.length c1), (11, .slice A54 r45.2.1.length c55), (75, .bool false), (76, .slice A54 r45.2.1.length c55), (77, .slice A1 l1.length c1)]) (by kernel_rfl) ?_
                    refine WD.pure (i := 15) (v := .int .i64 (l1.length : Int)) (by kernel_rfl) (by kernel_rfl) (fun _ => by kernel_rfl) ?_
                    refine WD.weaken [1, 11, 75, 76, 78] (L' := [(1, .slice A1 l1.length c1), (11, .slice A54 r45.2.1.length c55), (75, .bool false), (76, .slice A54 r45.2.1.length c55), (78, .int .i64 (l1.length : Int))]) (by kernel_rfl) ?_
                    obtain ⟨y61, e62, H⟩ := bind_ex H
                    refine WD.ofP (i := 16) (by kernel_rfl) (PSt.sub (A := A54) (c := c55) (.tmp 76) none (some (.tmp 78)) none (by kernel_rfl) (by kernel_rfl) E22 (by kernel_rfl) (Sat.rdAt 0 hS rfl).1 e62 rfl (Exists.intro IntKind.i64 (by kernel_rfl)) trivial (fun A63 c64 T65 => ?_))
                    refine WD.weaken [1, 11, 75, 79] (L' := [(1, .slice A1 l1.length c1), (11, .slice A54 r45.2.1.length c55), (75, .bool false), (79, .slice A63 y61.length c64)]) (by kernel_rfl) ?_
                    refine WD.ofR (i := 17) (by kernel_rfl) (RSt.toStr (src := 22) (dst := 9) (e := 5) (.tmp 79) (by kernel_rfl) (by kernel_rfl) (by kernel_rfl) (by kernel_rfl) (by kernel_rfl) (by kernel_rfl) (T65.rd _ _ (Sat.rdAt 0 hS rfl)) ?_)
                    refine WD.weaken [1, 11, 75, 80] (L' := [(1, .slice A1 l1.length c1), (11, .slice A54 r45.2.1.length c55), (75, .bool false), (80, .string (bs y61))]) (by kernel_rfl) ?_
                    refine WD.pure (i := 18) (v := .slice A1 l1.length c1) (by kernel_rfl) (by kernel_rfl) (fun _ => by kernel_rfl) ?_
                    refine WD.weaken [1, 11, 75, 80, 81] (L' := [(1, .slice A1 l1.length c1), (11, .slice A54 r45.2.1.length c55), (75, .bool false), (80, .string (bs y61)), (81, .slice A1 l1.length c1)]) (by kernel_rfl) ?_
                    refine WD.ofR (i := 19) (by kernel_rfl) (RSt.toStr (src := 22) (dst := 9) (e := 5) (.tmp 81) (by kernel_rfl) (by kernel_rfl) (by kernel_rfl) (by kernel_rfl) (by kernel_rfl) (by kernel_rfl) (rdS.up R1 hS.sub0) ?_)
                    refine WD.weaken [1, 11, 75, 80, 82] (L' := [(1, .slice A1 l1.length c1), (11, .slice A54 r45.2.1.length c55), (75, .bool false), (80, .string (bs y61)), (82, .string (bs l1))]) (by kernel_rfl) ?_
                    refine WD.pure (i := 20) (v := .bool (!((bs y61).toList == (bs l1).toList))) (by kernel_rfl) (by kernel_rfl) (fun _ => by kernel_rfl) ?_
                    refine WD.weaken [1, 11, 75, 83] (L' := [(1, .slice A1 l1.length c1), (11, .slice A54 r45.2.1.length c55), (75, .bool false), (83, .bool (!((bs y61).toList == (bs l1).toList)))]) (by kernel_rfl) ?_
                    refine WD.pure (i := 21) (v := .bool (!((bs y61).toList == (bs l1).toList))) (by kernel_rfl) (by kernel_rfl) (fun _ => by kernel_rfl) ?_
                    refine WD.weaken [1, 11, 84] (L' := [(1, .slice A1 l1.length c1), (11, .slice A54 r45.2.1.length c55), (84, .bool (!((bs y61).toList == (bs l1).toList)))]) (by kernel_rfl) ?_
                    refine WD.nil (by kernel_rfl) ?_
                    refine At.go ?_
                    refine WC.cond (by kernel_rfl) (!((bs y61).toList == (bs l1).toList)) (by kernel_rfl) (by kernel_rfl) (fun hb66 => ?_) (fun hb66 => ?_)
                    · replace H := ite_t H hb66
                      refine WC.seq (by kernel_rfl) ?_
                      refine WC.reg [0] (by kernel_rfl) (by kernel_rfl) ?_
                      refine WR.runk [0] [] [4] (L' := [(4, .bool false)]) (w' := w56) (by kernel_rfl) ?_
                      refine WR.nil ?_
                      refine At.go ?_
                      refine WC.ret (by kernel_rfl) ?_
                      refine At.thenRet ?_
                      obtain rfl := Option.some.inj H
                      have hS : Sat w56 (rf w0) [] := hS.sel [] (by kernel_rfl)
                      exact At.body [.bool false] (by kernel_rfl) ⟨_, rfl, rfl, hS⟩
                    · replace H := ite_f H hb66
                      refine WC.skip (by kernel_rfl) ?_
                      refine At.go ?_
                      refine WC.seq (by kernel_rfl) ?_
                      refine WC.seq (by kernel_rfl) ?_
                      refine WC.reg [0, 1, 2, 3, 4, 5] (by kernel_rfl) (by kernel_rfl) ?_
                      refine WR.runk [0, 1, 2] [3, 4, 5] [85, 87] (L' := [(85, .slice A54 r45.2.1.length c55), (87, .int .i64 (l1.length : Int))]) (w' := w56) (by kernel_rfl) ?_
                      obtain ⟨y67, e68, H⟩ := bind_ex H
                      refine WR.st (St.ofP (PSt.sub (A := A54) (c := c55) (.tmp 85) (some (.tmp 87)) none none (by kernel_rfl) (by kernel_rfl) E22 (by kernel_rfl) (Sat.rdAt 0 hS rfl).1 e68 (Exists.intro IntKind.i64 (by kernel_rfl)) ⟨rfl, rfl⟩ trivial (fun A69 c70 T71 => ?_)))
                      refine WR.runk [4, 5] [] [88, 89, 90] (L' := [(88, .slice A69 y67.length c70), (89, .int .i64 (y67.length : Int)), (90, .int .i64 0)]) (w' := w56) (by kernel_rfl) ?_
                      refine WR.nil ?_
                      refine At.go ?_
                      refine WC.block (by kernel_rfl) ?_
                      have hS : Sat w56 (rf w0) [osl 5 (r0 (.int .u8)) 1 A54 c55 r45.2.1] := hS.sel [0] (by kernel_rfl)
                      obtain ⟨o76, e77, H⟩ := bind_ex H
                      refine WC.loop (by kernel_rfl) ?_
                      refine WL.weaken [88, 89, 90] (L' := [(88, .slice A69 y67.length c70), (89, .int .i64 (y67.length : Int)), (90, .int .i64 0)]) (by kernel_rfl) ?_
                      refine colophonlaw05_PagePuts.l1_ok w0 l1 r45 A54 c55 y67 A69 c70 T71 o76 (fun o78 w80 ho81 hS => ?_) (fun o82 w84 ho85 hS => ?_) FU 0 _ hS e77
                      · subst ho81
                        dsimp only at H
                        refine At.blockRet ?_
                        refine At.thenRet ?_
                        obtain rfl := Option.some.inj H
                        have hS : Sat w80 (rf w0) [] := hS.sel [] (by kernel_rfl)
                        exact At.body [.bool o78] (by kernel_rfl) ⟨_, rfl, rfl, hS⟩
                      · subst ho85
                        dsimp only at H
                        refine At.hit ?_
                        refine At.go ?_
                        refine WC.seq (by kernel_rfl) ?_
                        refine WC.reg [0] (by kernel_rfl) (by kernel_rfl) ?_
                        refine WR.runk [0] [] [4] (L' := [(4, .bool true)]) (w' := w84) (by kernel_rfl) ?_
                        refine WR.nil ?_
                        refine At.go ?_
                        refine WC.ret (by kernel_rfl) ?_
                        obtain rfl := Option.some.inj H
                        have hS : Sat w84 (rf w0) [] := hS.sel [] (by kernel_rfl)
                        exact At.body [.bool true] (by kernel_rfl) ⟨_, rfl, rfl, hS⟩
end Go.Proofs.Ytdfoalfnpgeilaa
