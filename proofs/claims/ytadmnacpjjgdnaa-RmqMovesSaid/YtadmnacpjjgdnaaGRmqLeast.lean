/-
  Printed by gen.py (my own tool): for each Go function a plain Lean function and the proof that a call of it does what that function says.
-/
import Derived.Test.YtadmnacpjjgdnaaGP1
set_option linter.unusedVariables false
set_option linter.unusedSimpArgs false
set_option maxRecDepth 100000
namespace Go.Proofs.Ytadmnacpjjgdnaa
open Go Go.Gol
/-! ### 3 colophon/colophonlaw14.RmqLeast -/
def colophonlaw14_RmqLeast.l1 (y15 : List Int) : Nat → (List Int) → Int → Option Unit
  | 0, _, _ => none
  | k + 1, x7_l1, x26_l1 => (if decide (x26_l1 < (y15.length : Int)) then ((at? x7_l1 x26_l1).bind fun v35 => ((set? x7_l1 x26_l1 (-7)).bind fun y37 => colophonlaw14_RmqLeast.l1 y15 k y37 (wi (x26_l1 + 1)))) else some ())
def colophonlaw14_RmqLeast.f (l0 : List Int) (a1 : Int) (a2 : Int) : Option Bool := (colophonlaw14_first.f.bind fun r1 => (if (!r1) then some false else (if decide ((l0.length : Int) > 3000) then some true else ((app? 17592186044416 (([] : List Int) : List Int) l0).bind fun y15 => ((rmq_New.f y15).bind fun r19 => (r19.1.bind fun y29 => ((colophonlaw14_RmqLeast.l1 y15 FU y15 0).bind fun o41 => (if (r19.2 == 0) then ((rmq_Table_Len.f (some y29)).bind fun r47 => (if (r47 == (l0.length : Int)) then ((rmq_Table_Least.f (some y29) a1 a2).bind fun r57 => ((colophonref14_Least.f l0 a1 a2).bind fun r66 => some (r57 == r66))) else some false)) else some false))))))))
def colophonlaw14_RmqLeast.post (w : World) (r : Bool) (v : Value) (w' : World) : Prop := v = (.bool r : Value) ∧ Sat w' (rf w) []
theorem colophonlaw14_RmqLeast.l1_ok {Q} (w0 : World) (A0 : Option Addr) (c0 : Nat) (l0 : List Int) (a1 : Int) (a2 : Int) (y15 : List Int) (r19 : (Option ((List Int) × (List (List Int)))) × Int) (y29 : (List Int) × (List (List Int))) (b32 : Nat) (out : Unit) (hn0 : ∀ (w : World), Sat w (rf w0) [O43 b32 y29] → At Q (.exit 0) 53 [(0, .slice A0 l0.length c0), (1, .int .i64 a1), (2, .int .i64 a2), (8, .pointer (some ⟨b32, 0, none⟩)), (9, .int .i64 r19.2)] w) :
    ∀ (k : Nat) (x7_l1 : List Int) (x26_l1 : Int) (A7_l1 : Option Addr) (c7_l1 : Nat) (w : World), Sat w (rf w0) [osl 3 (r0 (.int .i64)) 1 A7_l1 c7_l1 x7_l1, O43 b32 y29] → colophonlaw14_RmqLeast.l1 y15 k x7_l1 x26_l1 = some out → WL Try.prog (cbody (cbody (cr (cl (cr (cr (cr (cr (cr C3))))))))) Q 53 [(0, .slice A0 l0.length c0), (1, .int .i64 a1), (2, .int .i64 a2), (7, .slice A7_l1 x7_l1.length c7_l1), (8, .pointer (some ⟨b32, 0, none⟩)), (9, .int .i64 r19.2), (25, .int .i64 (y15.length : Int)), (26, .int .i64 x26_l1)] w := by
  intro k
  induction k with
  | zero => intro x7_l1 x26_l1 A7_l1 c7_l1 w hS H; exact absurd (show none = some out from H) (by simp)
  | succ k ih =>
    intro x7_l1 x26_l1 A7_l1 c7_l1 w hS H
    unfold colophonlaw14_RmqLeast.l1 at H
    refine WL.round ?_
    refine WC.seq (by kernel_rfl) ?_
    refine WC.reg [0] (by kernel_rfl) (by kernel_rfl) ?_
    refine WR.runk [0] [] [0, 1, 2, 7, 8, 9, 25, 26, 27] (L' := [(0, .slice A0 l0.length c0), (1, .int .i64 a1), (2, .int .i64 a2), (7, .slice A7_l1 x7_l1.length c7_l1), (8, .pointer (some ⟨b32, 0, none⟩)), (9, .int .i64 r19.2), (25, .int .i64 (y15.length : Int)), (26, .int .i64 x26_l1), (27, .bool (decide (x26_l1 < (y15.length : Int))))]) (w' := w) (by kernel_rfl) ?_
    refine WR.nil ?_
    refine At.go ?_
    refine WC.seq (by kernel_rfl) ?_
    refine WC.cond (by kernel_rfl) (decide (x26_l1 < (y15.length : Int))) (by kernel_rfl) (by kernel_rfl) (fun hb34 => ?_) (fun hb34 => ?_)
    · replace H := ite_t H hb34
      refine WC.skip (by kernel_rfl) ?_
      refine At.go ?_
      refine WC.seq (by kernel_rfl) ?_
      refine WC.block (by kernel_rfl) ?_
      refine WC.seq (by kernel_rfl) ?_
      refine WC.reg [0, 1] (by kernel_rfl) (by kernel_rfl) ?_
      refine WR.runk [0, 1] [] [0, 1, 2, 7, 8, 9, 10, 25, 26] (L' := [(0, .slice A0 l0.length c0), (1, .int .i64 a1), (2, .int .i64 a2), (7, .slice A7_l1 x7_l1.length c7_l1), (8, .pointer (some ⟨b32, 0, none⟩)), (9, .int .i64 r19.2), (10, .int .i64 x26_l1), (25, .int .i64 (y15.length : Int)), (26, .int .i64 x26_l1)]) (w' := w) (by kernel_rfl) ?_
      refine WR.nil ?_
      refine At.go ?_
      refine WC.reg [0, 1, 2, 3] (by kernel_rfl) (by kernel_rfl) ?_
      refine WR.runk [0, 1] [2, 3] [0, 1, 2, 7, 8, 9, 25, 26, 29, 30] (L' := [(0, .slice A0 l0.length c0), (1, .int .i64 a1), (2, .int .i64 a2), (7, .slice A7_l1 x7_l1.length c7_l1), (8, .pointer (some ⟨b32, 0, none⟩)), (9, .int .i64 r19.2), (25, .int .i64 (y15.length : Int)), (26, .int .i64 x26_l1), (29, .slice A7_l1 x7_l1.length c7_l1), (30, .int .i64 x26_l1)]) (w' := w) (by kernel_rfl) ?_
      obtain ⟨v35, e36, H⟩ := bind_ex H
      refine WR.st (St.ofP (PSt.idx (k := .i64) (.tmp 29) (.tmp 30) (by kernel_rfl) (by kernel_rfl) E22 (by kernel_rfl) (by kernel_rfl) (Sat.rdAt 0 hS rfl) e36 ?_))
      refine WR.runk [] [3] [0, 1, 2, 7, 8, 9, 25, 26, 31] (L' := [(0, .slice A0 l0.length c0), (1, .int .i64 a1), (2, .int .i64 a2), (7, .slice A7_l1 x7_l1.length c7_l1), (8, .pointer (some ⟨b32, 0, none⟩)), (9, .int .i64 r19.2), (25, .int .i64 (y15.length : Int)), (26, .int .i64 x26_l1), (31, .pointer (some (adr A7_l1 x26_l1.toNat 1)))]) (w' := w) (by kernel_rfl) ?_
      obtain ⟨y37, e38, H⟩ := bind_ex H
      refine WR.st (St.storeElem' (t := 3) (.tmp 31) (.const (.int .i64 (-7))) (by kernel_rfl) (by kernel_rfl) (by kernel_rfl) hS (by kernel_rfl) (by kernel_rfl) rfl e38 rfl (fun w39 hS => ?_))
      have hl40 := set?_len e38
      refine WR.know 7 (.slice A7_l1 y37.length c7_l1) (.slice A7_l1 x7_l1.length c7_l1) (by kernel_rfl) (by rw [hl40]) ?_
      refine WR.runk [] [] [0, 1, 2, 7, 8, 9, 25, 26] (L' := [(0, .slice A0 l0.length c0), (1, .int .i64 a1), (2, .int .i64 a2), (7, .slice A7_l1 y37.length c7_l1), (8, .pointer (some ⟨b32, 0, none⟩)), (9, .int .i64 r19.2), (25, .int .i64 (y15.length : Int)), (26, .int .i64 x26_l1)]) (w' := w39) (by kernel_rfl) ?_
      refine WR.nil ?_
      refine At.blockNormal ?_
      refine At.go ?_
      refine WC.reg [0, 1] (by kernel_rfl) (by kernel_rfl) ?_
      refine WR.runk [0, 1] [] [0, 1, 2, 7, 8, 9, 25, 26] (L' := [(0, .slice A0 l0.length c0), (1, .int .i64 a1), (2, .int .i64 a2), (7, .slice A7_l1 y37.length c7_l1), (8, .pointer (some ⟨b32, 0, none⟩)), (9, .int .i64 r19.2), (25, .int .i64 (y15.length : Int)), (26, .int .i64 (wi (x26_l1 + 1)))]) (w' := w39) (by kernel_rfl) ?_
      refine WR.nil ?_
      have hS : Sat w39 (rf w0) [osl 3 (r0 (.int .i64)) 1 A7_l1 c7_l1 y37, O43 b32 y29] := hS.sel [0, 1] (by kernel_rfl)
      refine At.again ?_
      refine WL.weaken [0, 1, 2, 7, 8, 9, 25, 26] (L' := [(0, .slice A0 l0.length c0), (1, .int .i64 a1), (2, .int .i64 a2), (7, .slice A7_l1 y37.length c7_l1), (8, .pointer (some ⟨b32, 0, none⟩)), (9, .int .i64 r19.2), (25, .int .i64 (y15.length : Int)), (26, .int .i64 (wi (x26_l1 + 1)))]) (by kernel_rfl) ?_
      exact ih y37 (wi (x26_l1 + 1)) A7_l1 c7_l1 _ hS H
    · replace H := ite_f H hb34
      refine WC.exit (by kernel_rfl) ?_
      refine At.thenExit ?_
      refine At.thenExit ?_
      obtain rfl := Option.some.inj H
      have hS : Sat w (rf w0) [O43 b32 y29] := hS.sel [1] (by kernel_rfl)
      refine At.weaken [0, 1, 2, 8, 9] (L' := [(0, .slice A0 l0.length c0), (1, .int .i64 a1), (2, .int .i64 a2), (8, .pointer (some ⟨b32, 0, none⟩)), (9, .int .i64 r19.2)]) (by kernel_rfl) ?_
      exact hn0 _ hS
theorem colophonlaw14_RmqLeast.calls (w0 : World) (A0 : Option Addr) (c0 : Nat) (l0 : List Int) (R0 : rdS (r0 (.int .i64)) 1 (hp w0) A0 c0 l0) (a1 : Int) (a2 : Int) (r : Bool) (H : colophonlaw14_RmqLeast.f l0 a1 a2 = some r) :
    Calls Try.prog 3 #[.slice A0 l0.length c0, .int .i64 a1, .int .i64 a2] w0 (fun e w' => ∃ v, e = .returned v ∧ colophonlaw14_RmqLeast.post w0 r v w') := by
  have hS : Sat w0 (rf w0) [] := Sat.start w0
  unfold colophonlaw14_RmqLeast.f at H
  refine calls_of_WC (vs := [.slice A0 l0.length c0, .int .i64 a1, .int .i64 a2]) Try.func3 (c := C3) (n := 53) (by kernel_rfl) (by kernel_rfl) (by kernel_rfl) ?_
  refine WC.seq (by kernel_rfl) ?_
  refine WC.reg [0] (by kernel_rfl) (by kernel_rfl) ?_
  refine WR.runk [0] [] [0, 1, 2] (L' := [(0, .slice A0 l0.length c0), (1, .int .i64 a1), (2, .int .i64 a2)]) (w' := w0) (by kernel_rfl) ?_
  refine WR.nil ?_
  refine At.go ?_
  refine WC.seq (by kernel_rfl) ?_
  refine WC.seq (by kernel_rfl) ?_
  refine WC.reg [0, 1] (by kernel_rfl) (by kernel_rfl) ?_
  obtain ⟨r1, e2, H⟩ := bind_ex H
  refine WR.st (St.call (by kernel_rfl) (f := 7) (args := #[]) (by kernel_rfl) (colophonlaw14_first.calls w0  r1 e2) ?_)
  rintro _ w8 ⟨rfl, hS9⟩
  have hS : Sat w8 (rf w0) [] := hS.ext hS9
  refine WR.runk [1] [] [0, 1, 2, 12] (L' := [(0, .slice A0 l0.length c0), (1, .int .i64 a1), (2, .int .i64 a2), (12, .bool (!r1))]) (w' := w8) (by kernel_rfl) ?_
  refine WR.nil ?_
  refine At.go ?_
  refine WC.cond (by kernel_rfl) (!r1) (by kernel_rfl) (by kernel_rfl) (fun hb10 => ?_) (fun hb10 => ?_)
  · replace H := ite_t H hb10
    refine WC.seq (by kernel_rfl) ?_
    refine WC.reg [0] (by kernel_rfl) (by kernel_rfl) ?_
    refine WR.runk [0] [] [6] (L' := [(6, .bool false)]) (w' := w8) (by kernel_rfl) ?_
    refine WR.nil ?_
    refine At.go ?_
    refine WC.ret (by kernel_rfl) ?_
    refine At.thenRet ?_
    obtain rfl := Option.some.inj H
    have hS : Sat w8 (rf w0) [] := hS.sel [] (by kernel_rfl)
    exact At.body [.bool false] (by kernel_rfl) ⟨_, rfl, rfl, hS⟩
  · replace H := ite_f H hb10
    refine WC.skip (by kernel_rfl) ?_
    refine At.go ?_
    refine WC.seq (by kernel_rfl) ?_
    refine WC.seq (by kernel_rfl) ?_
    refine WC.reg [0, 1, 2] (by kernel_rfl) (by kernel_rfl) ?_
    refine WR.runk [0, 1, 2] [] [0, 1, 2, 15] (L' := [(0, .slice A0 l0.length c0), (1, .int .i64 a1), (2, .int .i64 a2), (15, .bool (decide ((l0.length : Int) > 3000)))]) (w' := w8) (by kernel_rfl) ?_
    refine WR.nil ?_
    refine At.go ?_
    refine WC.cond (by kernel_rfl) (decide ((l0.length : Int) > 3000)) (by kernel_rfl) (by kernel_rfl) (fun hb11 => ?_) (fun hb11 => ?_)
    · replace H := ite_t H hb11
      refine WC.seq (by kernel_rfl) ?_
      refine WC.reg [0] (by kernel_rfl) (by kernel_rfl) ?_
      refine WR.runk [0] [] [6] (L' := [(6, .bool true)]) (w' := w8) (by kernel_rfl) ?_
      refine WR.nil ?_
      refine At.go ?_
      refine WC.ret (by kernel_rfl) ?_
      refine At.thenRet ?_
      obtain rfl := Option.some.inj H
      have hS : Sat w8 (rf w0) [] := hS.sel [] (by kernel_rfl)
      exact At.body [.bool true] (by kernel_rfl) ⟨_, rfl, rfl, hS⟩
    · replace H := ite_f H hb11
      refine WC.skip (by kernel_rfl) ?_
      refine At.go ?_
      refine WC.seq (by kernel_rfl) ?_
      refine WC.reg [0, 1, 2, 3] (by kernel_rfl) (by kernel_rfl) ?_
      refine WR.runk [] [0, 1, 2, 3] [0, 1, 2] (L' := [(0, .slice A0 l0.length c0), (1, .int .i64 a1), (2, .int .i64 a2)]) (w' := w8) (by kernel_rfl) ?_
      refine WR.st (St.box hS (by kernel_rfl) (.cells #[] 3) (fun b12 => .slice (some ⟨b12, 0, none⟩) 0 0) (fun _ => by kernel_rfl) (fun b12 w13 hS => ?_))
      refine WR.runk [1] [2, 3] [0, 1, 2, 16, 17] (L' := [(0, .slice A0 l0.length c0), (1, .int .i64 a1), (2, .int .i64 a2), (16, .slice (some ⟨b12, 0, none⟩) 0 0), (17, .slice A0 l0.length c0)]) (w' := w13) (by kernel_rfl) ?_
      have hS : Sat w13 (rf w0) [osl 3 (r0 (.int .i64)) 1 (some ⟨b12, 0, none⟩) (([] : List Int) : List Int).length (([] : List Int) : List Int)] := Sat.toOsl' (r0 (.int .i64)) 1 (([] : List Int) : List Int) hS rfl (rdL.nil _ _)
      obtain ⟨y15, e14, H⟩ := bind_ex H
      refine WR.st (St.append' (.tmp 16) (.tmp 17) (by kernel_rfl) (by kernel_rfl) E22 (r0_one _) hS (by kernel_rfl) (by kernel_rfl) (rdS.up R0 hS.sub0) 17592186044416 (by kernel_rfl) (by kernel_rfl) e14 (fun A16 c17 w18 hS => ?_))
      refine WR.runk [3] [] [0, 1, 2, 7] (L' := [(0, .slice A0 l0.length c0), (1, .int .i64 a1), (2, .int .i64 a2), (7, .slice A16 y15.length c17)]) (w' := w18) (by kernel_rfl) ?_
      refine WR.nil ?_
      refine At.go ?_
      refine WC.seq (by kernel_rfl) ?_
      refine WC.reg [0, 1, 2, 3, 4, 5, 6] (by kernel_rfl) (by kernel_rfl) ?_
      refine WR.runk [0] [1, 2, 3, 4, 5, 6] [0, 1, 2, 7, 20] (L' := [(0, .slice A0 l0.length c0), (1, .int .i64 a1), (2, .int .i64 a2), (7, .slice A16 y15.length c17), (20, .slice A16 y15.length c17)]) (w' := w18) (by kernel_rfl) ?_
      obtain ⟨r19, e20, H⟩ := bind_ex H
      refine WR.st (St.call (by kernel_rfl) (f := 8) (args := #[.slice A16 y15.length c17]) (by kernel_rfl) (rmq_New.calls w18 A16 c17 y15 (Sat.rdAt 0 hS rfl) r19 e20) ?_)
      rintro _ w26 ⟨pv28, rfl, hS27⟩
      have hS : Sat w26 (rf w0) [optP O43 pv28 r19.1, osl 3 (r0 (.int .i64)) 1 A16 c17 y15] := hS.ext hS27
      refine WR.runk [2, 3, 4, 5, 6] [] [0, 1, 2, 7, 8, 9] (L' := [(0, .slice A0 l0.length c0), (1, .int .i64 a1), (2, .int .i64 a2), (7, .slice A16 y15.length c17), (8, pv28), (9, .int .i64 r19.2)]) (w' := w26) (by kernel_rfl) ?_
      refine WR.nil ?_
      refine At.go ?_
      refine WC.seq (by kernel_rfl) ?_
      refine WC.seq (by kernel_rfl) ?_
      refine WC.reg [0, 1, 2] (by kernel_rfl) (by kernel_rfl) ?_
      refine WR.runk [0, 1, 2] [] [0, 1, 2, 7, 8, 9, 25, 26] (L' := [(0, .slice A0 l0.length c0), (1, .int .i64 a1), (2, .int .i64 a2), (7, .slice A16 y15.length c17), (8, pv28), (9, .int .i64 r19.2), (25, .int .i64 (y15.length : Int)), (26, .int .i64 0)]) (w' := w26) (by kernel_rfl) ?_
      refine WR.nil ?_
      refine At.go ?_
      refine WC.block (by kernel_rfl) ?_
      obtain ⟨y29, hr30, H⟩ := bind_ex H
      obtain ⟨b32, hv31, hN75⟩ := optP.some hS hr30
      subst hv31
      have hS : Sat w26 (rf w0) [O43 b32 y29, osl 3 (r0 (.int .i64)) 1 A16 c17 y15] := hN75
      have hS : Sat w26 (rf w0) [osl 3 (r0 (.int .i64)) 1 A16 c17 y15, O43 b32 y29] := hS.sel [1, 0] (by kernel_rfl)
      obtain ⟨o41, e42, H⟩ := bind_ex H
      refine WC.loop (by kernel_rfl) ?_
      refine WL.weaken [0, 1, 2, 7, 8, 9, 25, 26] (L' := [(0, .slice A0 l0.length c0), (1, .int .i64 a1), (2, .int .i64 a2), (7, .slice A16 y15.length c17), (8, .pointer (some ⟨b32, 0, none⟩)), (9, .int .i64 r19.2), (25, .int .i64 (y15.length : Int)), (26, .int .i64 0)]) (by kernel_rfl) ?_
      refine colophonlaw14_RmqLeast.l1_ok w0 A0 c0 l0 a1 a2 y15 r19 y29 b32 o41 (fun w44 hS => ?_) FU y15 0 A16 c17 _ hS e42
      refine At.hit ?_
      refine At.go ?_
      refine WC.seq (by kernel_rfl) ?_
      refine WC.reg [0, 1, 2, 3, 4, 5, 6, 7, 8, 9, 10, 11, 12, 13, 14, 15, 16, 17, 18, 19, 20] (by kernel_rfl) (by kernel_rfl) ?_
      refine WR.runk [0, 1, 2] [3, 4, 5, 6, 7, 8, 9, 10, 11, 12, 13, 14, 15, 16, 17, 18, 19, 20] [0, 1, 2, 8, 35] (L' := [(0, .slice A0 l0.length c0), (1, .int .i64 a1), (2, .int .i64 a2), (8, .pointer (some ⟨b32, 0, none⟩)), (35, .bool (r19.2 == 0))]) (w' := w44) (by kernel_rfl) ?_
      refine WR.split 35 (b := (r19.2 == 0)) (by kernel_rfl) (fun hb46 => ?_) (fun hb46 => ?_)
      · replace H := ite_t H hb46
        refine WR.runk [3] [4, 5, 6, 7, 8, 9, 10, 11, 12, 13, 14, 15, 16, 17, 18, 19, 20] [0, 1, 2, 8, 35, 36] (L' := [(0, .slice A0 l0.length c0), (1, .int .i64 a1), (2, .int .i64 a2), (8, .pointer (some ⟨b32, 0, none⟩)), (35, .bool true), (36, .pointer (some ⟨b32, 0, none⟩))]) (w' := w44) (by kernel_rfl) ?_
        obtain ⟨r47, e48, H⟩ := bind_ex H
        refine WR.st (St.call (by kernel_rfl) (f := 9) (args := #[.pointer (some ⟨b32, 0, none⟩)]) (by kernel_rfl) (rmq_Table_Len.calls w44 (.pointer (some ⟨b32, 0, none⟩)) (some y29) (Sat.rdAny 0 hS rfl (fun _ h => O43.rd _ _ _ h)) r47 e48) ?_)
        rintro _ w54 ⟨rfl, hS55⟩
        have hS : Sat w54 (rf w0) [O43 b32 y29] := hS.ext hS55
        refine WR.runk [5, 6, 7, 8, 9] [10, 11, 12, 13, 14, 15, 16, 17, 18, 19, 20] [0, 1, 2, 8, 42] (L' := [(0, .slice A0 l0.length c0), (1, .int .i64 a1), (2, .int .i64 a2), (8, .pointer (some ⟨b32, 0, none⟩)), (42, .bool (r47 == (l0.length : Int)))]) (w' := w54) (by kernel_rfl) ?_
        refine WR.split 42 (b := (r47 == (l0.length : Int))) (by kernel_rfl) (fun hb56 => ?_) (fun hb56 => ?_)
        · replace H := ite_t H hb56
          refine WR.runk [10, 11, 12] [13, 14, 15, 16, 17, 18, 19, 20] [0, 1, 2, 42, 43, 44, 45] (L' := [(0, .slice A0 l0.length c0), (1, .int .i64 a1), (2, .int .i64 a2), (42, .bool true), (43, .pointer (some ⟨b32, 0, none⟩)), (44, .int .i64 a1), (45, .int .i64 a2)]) (w' := w54) (by kernel_rfl) ?_
          obtain ⟨r57, e58, H⟩ := bind_ex H
          refine WR.st (St.call (by kernel_rfl) (f := 10) (args := #[.pointer (some ⟨b32, 0, none⟩), .int .i64 a1, .int .i64 a2]) (by kernel_rfl) (rmq_Table_Least.calls w54 (.pointer (some ⟨b32, 0, none⟩)) (some y29) (Sat.rdAny 0 hS rfl (fun _ h => O43.rd _ _ _ h)) a1 a2 r57 e58) ?_)
          rintro _ w64 ⟨rfl, hS65⟩
          have hS : Sat w64 (rf w0) [O43 b32 y29] := hS.ext hS65
          refine WR.runk [14, 15, 16] [17, 18, 19, 20] [42, 46, 47, 48, 49] (L' := [(42, .bool true), (46, .int .i64 r57), (47, .slice A0 l0.length c0), (48, .int .i64 a1), (49, .int .i64 a2)]) (w' := w64) (by kernel_rfl) ?_
          obtain ⟨r66, e67, H⟩ := bind_ex H
          refine WR.st (St.call (by kernel_rfl) (f := 11) (args := #[.slice A0 l0.length c0, .int .i64 a1, .int .i64 a2]) (by kernel_rfl) (colophonref14_Least.calls w64 A0 c0 l0 (rdS.up R0 hS.sub0) a1 a2 r66 e67) ?_)
          rintro _ w73 ⟨rfl, hS74⟩
          have hS : Sat w73 (rf w0) [O43 b32 y29] := hS.ext hS74
          refine WR.runk [18, 19, 20] [] [6] (L' := [(6, .bool (r57 == r66))]) (w' := w73) (by kernel_rfl) ?_
          refine WR.nil ?_
          refine At.go ?_
          refine WC.ret (by kernel_rfl) ?_
          obtain rfl := Option.some.inj H
          have hS : Sat w73 (rf w0) [] := hS.sel [] (by kernel_rfl)
          exact At.body [.bool (r57 == r66)] (by kernel_rfl) ⟨_, rfl, rfl, hS⟩
        · replace H := ite_f H hb56
          refine WR.runk [10, 11, 12, 13, 14, 15, 16, 17, 18, 19, 20] [] [6] (L' := [(6, .bool false)]) (w' := w54) (by kernel_rfl) ?_
          refine WR.nil ?_
          refine At.go ?_
          refine WC.ret (by kernel_rfl) ?_
          obtain rfl := Option.some.inj H
          have hS : Sat w54 (rf w0) [] := hS.sel [] (by kernel_rfl)
          exact At.body [.bool false] (by kernel_rfl) ⟨_, rfl, rfl, hS⟩
      · replace H := ite_f H hb46
        refine WR.runk [3, 4, 5, 6, 7, 8, 9, 10, 11, 12, 13, 14, 15, 16, 17, 18, 19, 20] [] [6] (L' := [(6, .bool false)]) (w' := w44) (by kernel_rfl) ?_
        refine WR.nil ?_
        refine At.go ?_
        refine WC.ret (by kernel_rfl) ?_
        obtain rfl := Option.some.inj H
        have hS : Sat w44 (rf w0) [] := hS.sel [] (by kernel_rfl)
        exact At.body [.bool false] (by kernel_rfl) ⟨_, rfl, rfl, hS⟩
end Go.Proofs.Ytadmnacpjjgdnaa
