/-
  Printed by gen.py (my own tool): for each Go function a plain Lean function and the proof that a call of it does what that function says.
-/
import Derived.Test.YtnffhpnlehcoiaaGP1c
import Derived.Test.YtnffhpnlehcoiaaGN
set_option linter.unusedVariables false
set_option linter.unusedSimpArgs false
set_option maxRecDepth 100000
namespace Go.Proofs.Ytnffhpnlehcoiaa
open Go Go.Gol
/-! ### 5 colophon/colophonlaw23.FairAgain -/
def colophonlaw23_FairAgain.l1 (l1 : List Int) : Nat → Int → (Int × (List (Option (Int × Int × Int × (List (Int × Bool))))) × Int × Bool × Int × Bool) → Option (Int × (List (Option (Int × Int × Int × (List (Int × Bool))))) × Int × Bool × Int × Bool)
  | 0, _, _ => none
  | k + 1, x31_l1, q27_l1 => (if decide (x31_l1 < 9) then ((fair_Ring_Add.f q27_l1 (Int.tmod x31_l1 3) x31_l1).bind fun r29 => colophonlaw23_FairAgain.l1 l1 k (wi (x31_l1 + 1)) r29.2) else some q27_l1)
def colophonlaw23_FairAgain.j2 (q45_l2 : List Int) (r50 : Int × Int × Bool × (Int × (List (Option (Int × Int × Int × (List (Int × Bool))))) × Int × Bool × Int × Bool)) (r59 : Int × Int × Bool × (Int × (List (Option (Int × Int × Int × (List (Int × Bool))))) × Int × Bool × Int × Bool)) : Option (Sum Unit (Int × Int × Bool × Bool × Bool × Bool × Bool × Bool)) := (if (r50.1 != r59.1) then some (.inl ()) else (if (r50.2.1 != r59.2.1) then some (.inl ()) else (if (r50.2.2.1 != r59.2.2.1) then some (.inl ()) else (if r50.2.2.1 then (if decide (r50.2.1 < 0) then some (.inl ()) else (if decide (r50.2.1 > 8) then some (.inl ()) else ((at? q45_l2 r50.2.1).bind fun v74 => (if (v74 != 0) then some (.inl ()) else (if ((Int.tmod r50.2.1 3) != r50.1) then some (.inl ()) else some (.inr (r50.2.1, r59.2.1, (r50.2.1 != r59.2.1), r50.2.2.1, r59.2.2.1, (r50.2.2.1 != r59.2.2.1), r50.2.2.1, true))))))) else some (.inr (r50.2.1, r59.2.1, (r50.2.1 != r59.2.1), r50.2.2.1, r59.2.2.1, (r50.2.2.1 != r59.2.2.1), r50.2.2.1, false))))))
def colophonlaw23_FairAgain.j4 (x9_l2 : Int) (r50 : Int × Int × Bool × (Int × (List (Option (Int × Int × Int × (List (Int × Bool))))) × Int × Bool × Int × Bool)) : Option Int := (if r50.2.2.1 then some r50.2.1 else some x9_l2)
def colophonlaw23_FairAgain.j1 (l1 : List Int) (x9_l2 : Int) (x42_l2 : Int) (q27_l2 : Int × (List (Option (Int × Int × Int × (List (Int × Bool))))) × Int × Bool × Int × Bool) (q45_l2 : List Int) : Option (Sum Unit (Sum (Int × (List (Option (Int × Int × Int × (List (Int × Bool))))) × Int × Bool × Int × Bool) (Int × Int × Int × Bool × Bool × Bool × Bool × (Int × (List (Option (Int × Int × Int × (List (Int × Bool))))) × Int × Bool × Int × Bool) × (List Int)))) := ((at? l1 x42_l2).bind fun v47 => (if decide (x42_l2 ≥ 100) then some (.inl ()) else ((fair_Ring_Next.f q27_l2).bind fun r50 => ((fair_Ring_Next.f r50.2.2.2).bind fun r59 => ((colophonlaw23_FairAgain.j2 q45_l2 r50 r59).bind fun o78 => (match o78 with | .inl o80 => some (.inr (.inl r59.2.2.2)) | .inr o84 => ((colophonlaw23_FairAgain.j4 x9_l2 r50).bind fun o89 => (if ((Int.tmod (IntKind.wrap .u8 (Int.tdiv v47 9)) 6) == 0) then ((at? q45_l2 (wi (Int.tmod v47 9))).bind fun v97 => ((fair_Ring_Hold.f r59.2.2.2 (wi (Int.tmod v47 9)) true).bind fun r99 => (if (r99.1 != (v97 != 2)) then some (.inr (.inl r99.2)) else ((at? q45_l2 (wi (Int.tmod v47 9))).bind fun v109 => ((at? q45_l2 (wi (Int.tmod v47 9))).bind fun v111 => ((set? q45_l2 (wi (Int.tmod v47 9)) (imax v109 1)).bind fun y113 => some (.inr (.inr (o89, o84.1, o84.2.1, o84.2.2.1, o84.2.2.2.2.1, o84.2.2.2.2.2.1, o84.2.2.2.2.2.2.2, r99.2, y113))))))))) else (if ((Int.tmod (IntKind.wrap .u8 (Int.tdiv v47 9)) 6) == 1) then ((fair_Ring_Hold.f r59.2.2.2 (wi (Int.tmod v47 9)) false).bind fun r119 => ((at? q45_l2 (wi (Int.tmod v47 9))).bind fun v128 => (if (v128 == 1) then ((at? q45_l2 (wi (Int.tmod v47 9))).bind fun v131 => ((set? q45_l2 (wi (Int.tmod v47 9)) 0).bind fun y133 => some (.inr (.inr (o89, o84.1, o84.2.1, o84.2.2.1, o84.2.2.2.2.1, o84.2.2.2.2.2.1, o84.2.2.2.2.2.2.2, r119.2, y133))))) else some (.inr (.inr (o89, o84.1, o84.2.1, o84.2.2.1, o84.2.2.2.2.1, o84.2.2.2.2.2.1, o84.2.2.2.2.2.2.2, r119.2, q45_l2)))))) else (if ((Int.tmod (IntKind.wrap .u8 (Int.tdiv v47 9)) 6) == 2) then ((at? q45_l2 (wi (Int.tmod v47 9))).bind fun v141 => ((fair_Ring_Take.f r59.2.2.2 (wi (Int.tmod v47 9))).bind fun r143 => (if (r143.1 != (v141 != 2)) then some (.inr (.inl r143.2)) else ((at? q45_l2 (wi (Int.tmod v47 9))).bind fun v153 => ((set? q45_l2 (wi (Int.tmod v47 9)) 2).bind fun y155 => (if (o89 == (wi (Int.tmod v47 9))) then some (.inr (.inr ((-1), o84.1, o84.2.1, o84.2.2.1, o84.2.2.2.2.1, o84.2.2.2.2.2.1, o84.2.2.2.2.2.2.2, r143.2, y155))) else some (.inr (.inr (o89, o84.1, o84.2.1, o84.2.2.1, o84.2.2.2.2.1, o84.2.2.2.2.2.1, o84.2.2.2.2.2.2.2, r143.2, y155))))))))) else ((fair_Ring_Charge.f r59.2.2.2 (wi (Int.tmod v47 4))).bind fun r161 => (if (r161.1 != (decide (o89 ≥ 0))) then some (.inr (.inl r161.2)) else some (.inr (.inr ((-1), o84.1, o84.2.1, o84.2.2.1, o84.2.2.2.2.1, o84.2.2.2.2.2.1, o84.2.2.2.2.2.2.2, r161.2, q45_l2)))))))))))))))
def colophonlaw23_FairAgain.l2 (l1 : List Int) : Nat → Int → Int → (Int × (List (Option (Int × Int × Int × (List (Int × Bool))))) × Int × Bool × Int × Bool) → (List Int) → Option (Sum ((Int × (List (Option (Int × Int × Int × (List (Int × Bool))))) × Int × Bool × Int × Bool) × (List Int)) (Bool × (Int × (List (Option (Int × Int × Int × (List (Int × Bool))))) × Int × Bool × Int × Bool) × (List Int)))
  | 0, _, _, _, _ => none
  | k + 1, x9_l2, x42_l2, q27_l2, q45_l2 => (if decide (x42_l2 < (l1.length : Int)) then ((colophonlaw23_FairAgain.j1 l1 x9_l2 x42_l2 q27_l2 q45_l2).bind fun o171 => (match o171 with | .inl o173 => some (.inl (q27_l2, q45_l2)) | .inr (.inl o177) => some (.inr (false, o177, q45_l2)) | .inr (.inr o181) => colophonlaw23_FairAgain.l2 l1 k o181.1 (wi (x42_l2 + 1)) o181.2.2.2.2.2.2.2.1 o181.2.2.2.2.2.2.2.2)) else some (.inl (q27_l2, q45_l2)))
def colophonlaw23_FairAgain.f (a0 : Int) (l1 : List Int) : Option Bool := (colophonlaw23_first.f.bind fun r1 => (if (!r1) then some false else ((fair_New.f (wi (1 + (wi (Int.tmod (IntKind.wrap .u64 a0) 9)))) ([1, 2, 3] : List Int)).bind fun r13 => (r13.1.bind fun y23 => ((colophonlaw23_FairAgain.l1 l1 FU 0 y23).bind fun o38 => ((colophonlaw23_FairAgain.l2 l1 FU (-1) 0 o38 (List.replicate 9 (0 : Int))).bind fun o185 => (match o185 with | .inl o187 => some true | .inr o191 => some o191.1)))))))
def colophonlaw23_FairAgain.post (w : World) (r : Bool) (v : Value) (w' : World) : Prop := v = (.bool r : Value) ∧ Sat w' (rf w) []
theorem colophonlaw23_FairAgain.l1_ok {Q} (w0 : World) (A1 : Option Addr) (c1 : Nat) (l1 : List Int) (b26 : Nat) (out : (Int × (List (Option (Int × Int × Int × (List (Int × Bool))))) × Int × Bool × Int × Bool)) (hn0 : ∀ (w : World), Sat w (rf w0) [O46 b26 out] → At Q (.exit 0) 156 [(1, .slice A1 l1.length c1), (5, .pointer (some ⟨b26, 0, none⟩))] w) :
    ∀ (k : Nat) (x31_l1 : Int) (q27_l1 : Int × (List (Option (Int × Int × Int × (List (Int × Bool))))) × Int × Bool × Int × Bool) (w : World), Sat w (rf w0) [O46 b26 q27_l1] → colophonlaw23_FairAgain.l1 l1 k x31_l1 q27_l1 = some out → WL Try.prog (cbody (cbody (cr (cl (cr (cr (cr C5))))))) Q 156 [(1, .slice A1 l1.length c1), (5, .pointer (some ⟨b26, 0, none⟩)), (31, .int .i64 x31_l1)] w := by
  intro k
  induction k with
  | zero => intro x31_l1 q27_l1 w hS H; exact absurd (show none = some out from H) (by simp)
  | succ k ih =>
    intro x31_l1 q27_l1 w hS H
    unfold colophonlaw23_FairAgain.l1 at H
    refine WL.round ?_
    refine WC.seq (by kernel_rfl) ?_
    refine WC.reg [0] (by kernel_rfl) (by kernel_rfl) ?_
    refine WR.runk [0] [] [1, 5, 31, 32] (L' := [(1, .slice A1 l1.length c1), (5, .pointer (some ⟨b26, 0, none⟩)), (31, .int .i64 x31_l1), (32, .bool (decide (x31_l1 < 9)))]) (w' := w) (by kernel_rfl) ?_
    refine WR.nil ?_
    refine At.go ?_
    refine WC.seq (by kernel_rfl) ?_
    refine WC.cond (by kernel_rfl) (decide (x31_l1 < 9)) (by kernel_rfl) (by kernel_rfl) (fun hb28 => ?_) (fun hb28 => ?_)
    · replace H := ite_t H hb28
      refine WC.skip (by kernel_rfl) ?_
      refine At.go ?_
      refine WC.seq (by kernel_rfl) ?_
      refine WC.block (by kernel_rfl) ?_
      refine WC.seq (by kernel_rfl) ?_
      refine WC.reg [0, 1] (by kernel_rfl) (by kernel_rfl) ?_
      refine WR.runk [0, 1] [] [1, 5, 7, 31] (L' := [(1, .slice A1 l1.length c1), (5, .pointer (some ⟨b26, 0, none⟩)), (7, .int .i64 x31_l1), (31, .int .i64 x31_l1)]) (w' := w) (by kernel_rfl) ?_
      refine WR.nil ?_
      refine At.go ?_
      refine WC.reg [0, 1, 2, 3, 4] (by kernel_rfl) (by kernel_rfl) ?_
      refine WR.runk [0, 1, 2, 3] [4] [1, 5, 31, 34, 36, 37] (L' := [(1, .slice A1 l1.length c1), (5, .pointer (some ⟨b26, 0, none⟩)), (31, .int .i64 x31_l1), (34, .pointer (some ⟨b26, 0, none⟩)), (36, .int .i64 (Int.tmod x31_l1 3)), (37, .int .i64 x31_l1)]) (w' := w) (by kernel_rfl) ?_
      obtain ⟨r29, e30, H⟩ := bind_ex H
      obtain ⟨B35, hso34, hsub32, hcs33, hb31⟩ := Sat.lend [O46 b26 q27_l1] (cs := []) hS
      refine WR.st (St.call (by kernel_rfl) (f := 9) (args := #[.pointer (some ⟨b26, 0, none⟩), .int .i64 (Int.tmod x31_l1 3), .int .i64 x31_l1]) (by kernel_rfl) (fair_Ring_Add.calls B35 w b26 q27_l1 hso34 (Int.tmod x31_l1 3) x31_l1 r29 e30) ?_)
      rintro _ w36 ⟨rfl, hS37⟩
      have hS : Sat w36 (rf w0) [O46 b26 r29.2] := hb31 _ _ hS37
      refine WR.runk [] [] [1, 5, 31] (L' := [(1, .slice A1 l1.length c1), (5, .pointer (some ⟨b26, 0, none⟩)), (31, .int .i64 x31_l1)]) (w' := w36) (by kernel_rfl) ?_
      refine WR.nil ?_
      refine At.blockNormal ?_
      refine At.go ?_
      refine WC.reg [0, 1] (by kernel_rfl) (by kernel_rfl) ?_
      refine WR.runk [0, 1] [] [1, 5, 31] (L' := [(1, .slice A1 l1.length c1), (5, .pointer (some ⟨b26, 0, none⟩)), (31, .int .i64 (wi (x31_l1 + 1)))]) (w' := w36) (by kernel_rfl) ?_
      refine WR.nil ?_
      have hS : Sat w36 (rf w0) [O46 b26 r29.2] := hS.sel [0] (by kernel_rfl)
      refine At.again ?_
      refine WL.weaken [1, 5, 31] (L' := [(1, .slice A1 l1.length c1), (5, .pointer (some ⟨b26, 0, none⟩)), (31, .int .i64 (wi (x31_l1 + 1)))]) (by kernel_rfl) ?_
      exact ih (wi (x31_l1 + 1)) r29.2 _ hS H
    · replace H := ite_f H hb28
      refine WC.exit (by kernel_rfl) ?_
      refine At.thenExit ?_
      refine At.thenExit ?_
      obtain rfl := Option.some.inj H
      have hS : Sat w (rf w0) [O46 b26 q27_l1] := hS.sel [0] (by kernel_rfl)
      refine At.weaken [1, 5] (L' := [(1, .slice A1 l1.length c1), (5, .pointer (some ⟨b26, 0, none⟩))]) (by kernel_rfl) ?_
      exact hn0 _ hS
theorem colophonlaw23_FairAgain.j2_ok {Q} (w0 : World) (A1 : Option Addr) (c1 : Nat) (l1 : List Int) (b26 : Nat) (b43 : Nat) (x9_l2 : Int) (x42_l2 : Int) (q45_l2 : List Int) (v47 : Int) (r50 : Int × Int × Bool × (Int × (List (Option (Int × Int × Int × (List (Int × Bool))))) × Int × Bool × Int × Bool)) (r59 : Int × Int × Bool × (Int × (List (Option (Int × Int × Int × (List (Int × Bool))))) × Int × Bool × Int × Bool)) (out : Sum Unit (Int × Int × Bool × Bool × Bool × Bool × Bool × Bool)) (hn0 : ∀ (o0 : Unit) (w : World), out = (.inl o0) → Sat w (rf w0) [O46 b26 r59.2.2.2, oar 39 (r0 (.int .i64)) 1 9 b43 q45_l2] → At Q .ret 156 [(4, .bool false)] w) (hn1 : ∀ (o1 : Int × Int × Bool × Bool × Bool × Bool × Bool × Bool) (w : World), out = (.inr o1) → Sat w (rf w0) [O46 b26 r59.2.2.2, oar 39 (r0 (.int .i64)) 1 9 b43 q45_l2] → At Q .normal 156 [(5, .pointer (some ⟨b26, 0, none⟩)), (8, .pointer (some ⟨b43, 0, none⟩)), (9, .int .i64 x9_l2), (11, .int .u8 v47), (13, .int .i64 r50.2.1), (14, .bool r50.2.2.1), (40, .slice A1 l1.length c1), (41, .int .i64 (l1.length : Int)), (42, .int .i64 x42_l2), (65, .int .i64 o1.1), (66, .int .i64 o1.2.1), (67, .bool o1.2.2.1), (70, .bool o1.2.2.2.1), (71, .bool o1.2.2.2.2.1), (72, .bool o1.2.2.2.2.2.1), (75, .bool o1.2.2.2.2.2.2.1), (76, .bool o1.2.2.2.2.2.2.2)] w) (w : World) : Sat w (rf w0) [O46 b26 r59.2.2.2, oar 39 (r0 (.int .i64)) 1 9 b43 q45_l2] → colophonlaw23_FairAgain.j2 q45_l2 r50 r59 = some out → WC Try.prog (cl (cr (cr (cr (cr (cbody (cl (cr (cr (cbody (cbody (cr (cl (cr (cr (cr (cr (cr (cr C5))))))))))))))))))) Q 156 [(5, .pointer (some ⟨b26, 0, none⟩)), (8, .pointer (some ⟨b43, 0, none⟩)), (9, .int .i64 x9_l2), (11, .int .u8 v47), (12, .int .i64 r50.1), (13, .int .i64 r50.2.1), (14, .bool r50.2.2.1), (15, .int .i64 r59.1), (16, .int .i64 r59.2.1), (17, .bool r59.2.2.1), (40, .slice A1 l1.length c1), (41, .int .i64 (l1.length : Int)), (42, .int .i64 x42_l2)] w := by
  intro hS H
  unfold colophonlaw23_FairAgain.j2 at H
  refine WC.seq (by kernel_rfl) ?_
  refine WC.reg [0, 1, 2, 3, 4, 5, 6, 7, 8, 9, 10, 11, 12, 13, 14, 15, 16, 17, 18, 19, 20, 21, 22, 23, 24, 25, 26, 27, 28, 29, 30, 31, 32, 33, 34, 35] (by kernel_rfl) (by kernel_rfl) ?_
  refine WR.runk [0, 1, 2, 3] [4, 5, 6, 7, 8, 9, 10, 11, 12, 13, 14, 15, 16, 17, 18, 19, 20, 21, 22, 23, 24, 25, 26, 27, 28, 29, 30, 31, 32, 33, 34, 35] [5, 8, 9, 11, 12, 13, 14, 16, 17, 40, 41, 42, 64] (L' := [(5, .pointer (some ⟨b26, 0, none⟩)), (8, .pointer (some ⟨b43, 0, none⟩)), (9, .int .i64 x9_l2), (11, .int .u8 v47), (12, .int .i64 r50.1), (13, .int .i64 r50.2.1), (14, .bool r50.2.2.1), (16, .int .i64 r59.2.1), (17, .bool r59.2.2.1), (40, .slice A1 l1.length c1), (41, .int .i64 (l1.length : Int)), (42, .int .i64 x42_l2), (64, .bool (r50.1 != r59.1))]) (w' := w) (by kernel_rfl) ?_
  refine WR.split 64 (b := (r50.1 != r59.1)) (by kernel_rfl) (fun hb68 => ?_) (fun hb68 => ?_)
  · replace H := ite_t H hb68
    refine WR.runk [4, 5, 6, 7, 8, 9, 10, 11, 12, 13, 14, 15, 16, 17, 18, 19, 20, 21, 22, 23, 24, 25, 26, 27, 28, 29, 30, 31, 32, 33, 34, 35] [] [5, 8, 9, 11, 13, 14, 40, 41, 42, 65, 66, 67, 70, 71, 72, 75, 76, 77, 78, 79, 80, 81, 82, 83, 84, 85, 86, 87, 88, 89, 90, 91, 92, 93, 94, 95, 96] (L' := [(5, .pointer (some ⟨b26, 0, none⟩)), (8, .pointer (some ⟨b43, 0, none⟩)), (9, .int .i64 x9_l2), (11, .int .u8 v47), (13, .int .i64 r50.2.1), (14, .bool r50.2.2.1), (40, .slice A1 l1.length c1), (41, .int .i64 (l1.length : Int)), (42, .int .i64 x42_l2), (65, undef), (66, undef), (67, undef), (70, undef), (71, undef), (72, undef), (75, undef), (76, undef), (77, undef), (78, undef), (79, undef), (80, undef), (81, undef), (82, undef), (83, undef), (84, undef), (85, undef), (86, undef), (87, undef), (88, undef), (89, undef), (90, undef), (91, undef), (92, undef), (93, undef), (94, undef), (95, undef), (96, .bool true)]) (w' := w) (by kernel_rfl) ?_
    refine WR.nil ?_
    refine At.go ?_
    refine WC.condT (by kernel_rfl) (by kernel_rfl) (by kernel_rfl) ?_
    refine WC.seq (by kernel_rfl) ?_
    refine WC.reg [0] (by kernel_rfl) (by kernel_rfl) ?_
    refine WR.runk [0] [] [4] (L' := [(4, .bool false)]) (w' := w) (by kernel_rfl) ?_
    refine WR.nil ?_
    refine At.go ?_
    refine WC.ret (by kernel_rfl) ?_
    obtain rfl := Option.some.inj H
    have hS : Sat w (rf w0) [O46 b26 r59.2.2.2, oar 39 (r0 (.int .i64)) 1 9 b43 q45_l2] := hS.sel [0, 1] (by kernel_rfl)
    refine At.weaken [4] (L' := [(4, .bool false)]) (by kernel_rfl) ?_
    exact hn0 () _ rfl hS
  · replace H := ite_f H hb68
    refine WR.runk [4, 5, 6, 7, 8] [9, 10, 11, 12, 13, 14, 15, 16, 17, 18, 19, 20, 21, 22, 23, 24, 25, 26, 27, 28, 29, 30, 31, 32, 33, 34, 35] [5, 8, 9, 11, 12, 13, 14, 17, 40, 41, 42, 65, 66, 67, 69] (L' := [(5, .pointer (some ⟨b26, 0, none⟩)), (8, .pointer (some ⟨b43, 0, none⟩)), (9, .int .i64 x9_l2), (11, .int .u8 v47), (12, .int .i64 r50.1), (13, .int .i64 r50.2.1), (14, .bool r50.2.2.1), (17, .bool r59.2.2.1), (40, .slice A1 l1.length c1), (41, .int .i64 (l1.length : Int)), (42, .int .i64 x42_l2), (65, .int .i64 r50.2.1), (66, .int .i64 r59.2.1), (67, .bool (r50.2.1 != r59.2.1)), (69, .bool (r50.2.1 != r59.2.1))]) (w' := w) (by kernel_rfl) ?_
    refine WR.split 69 (b := (r50.2.1 != r59.2.1)) (by kernel_rfl) (fun hb69 => ?_) (fun hb69 => ?_)
    · replace H := ite_t H hb69
      refine WR.runk [9, 10, 11, 12, 13, 14, 15, 16, 17, 18, 19, 20, 21, 22, 23, 24, 25, 26, 27, 28, 29, 30, 31, 32, 33, 34, 35] [] [5, 8, 9, 11, 13, 14, 40, 41, 42, 65, 66, 67, 70, 71, 72, 75, 76, 77, 78, 79, 80, 81, 82, 83, 84, 85, 86, 87, 88, 89, 90, 91, 92, 93, 94, 95, 96] (L' := [(5, .pointer (some ⟨b26, 0, none⟩)), (8, .pointer (some ⟨b43, 0, none⟩)), (9, .int .i64 x9_l2), (11, .int .u8 v47), (13, .int .i64 r50.2.1), (14, .bool r50.2.2.1), (40, .slice A1 l1.length c1), (41, .int .i64 (l1.length : Int)), (42, .int .i64 x42_l2), (65, .int .i64 r50.2.1), (66, .int .i64 r59.2.1), (67, .bool (r50.2.1 != r59.2.1)), (70, undef), (71, undef), (72, undef), (75, undef), (76, undef), (77, undef), (78, undef), (79, undef), (80, undef), (81, undef), (82, undef), (83, undef), (84, undef), (85, undef), (86, undef), (87, undef), (88, undef), (89, undef), (90, undef), (91, undef), (92, undef), (93, undef), (94, undef), (95, undef), (96, .bool true)]) (w' := w) (by kernel_rfl) ?_
      refine WR.nil ?_
      refine At.go ?_
      refine WC.condT (by kernel_rfl) (by kernel_rfl) (by kernel_rfl) ?_
      refine WC.seq (by kernel_rfl) ?_
      refine WC.reg [0] (by kernel_rfl) (by kernel_rfl) ?_
      refine WR.runk [0] [] [4] (L' := [(4, .bool false)]) (w' := w) (by kernel_rfl) ?_
      refine WR.nil ?_
      refine At.go ?_
      refine WC.ret (by kernel_rfl) ?_
      obtain rfl := Option.some.inj H
      have hS : Sat w (rf w0) [O46 b26 r59.2.2.2, oar 39 (r0 (.int .i64)) 1 9 b43 q45_l2] := hS.sel [0, 1] (by kernel_rfl)
      refine At.weaken [4] (L' := [(4, .bool false)]) (by kernel_rfl) ?_
      exact hn0 () _ rfl hS
    · replace H := ite_f H hb69
      refine WR.runk [9, 10, 11, 12, 13] [14, 15, 16, 17, 18, 19, 20, 21, 22, 23, 24, 25, 26, 27, 28, 29, 30, 31, 32, 33, 34, 35] [5, 8, 9, 11, 12, 13, 14, 40, 41, 42, 65, 66, 67, 70, 71, 72, 74] (L' := [(5, .pointer (some ⟨b26, 0, none⟩)), (8, .pointer (some ⟨b43, 0, none⟩)), (9, .int .i64 x9_l2), (11, .int .u8 v47), (12, .int .i64 r50.1), (13, .int .i64 r50.2.1), (14, .bool r50.2.2.1), (40, .slice A1 l1.length c1), (41, .int .i64 (l1.length : Int)), (42, .int .i64 x42_l2), (65, .int .i64 r50.2.1), (66, .int .i64 r59.2.1), (67, .bool (r50.2.1 != r59.2.1)), (70, .bool r50.2.2.1), (71, .bool r59.2.2.1), (72, .bool (r50.2.2.1 != r59.2.2.1)), (74, .bool (r50.2.2.1 != r59.2.2.1))]) (w' := w) (by kernel_rfl) ?_
      refine WR.split 74 (b := (r50.2.2.1 != r59.2.2.1)) (by kernel_rfl) (fun hb70 => ?_) (fun hb70 => ?_)
      · replace H := ite_t H hb70
        refine WR.runk [14, 15, 16, 17, 18, 19, 20, 21, 22, 23, 24, 25, 26, 27, 28, 29, 30, 31, 32, 33, 34, 35] [] [5, 8, 9, 11, 13, 14, 40, 41, 42, 65, 66, 67, 70, 71, 72, 75, 76, 77, 78, 79, 80, 81, 82, 83, 84, 85, 86, 87, 88, 89, 90, 91, 92, 93, 94, 95, 96] (L' := [(5, .pointer (some ⟨b26, 0, none⟩)), (8, .pointer (some ⟨b43, 0, none⟩)), (9, .int .i64 x9_l2), (11, .int .u8 v47), (13, .int .i64 r50.2.1), (14, .bool r50.2.2.1), (40, .slice A1 l1.length c1), (41, .int .i64 (l1.length : Int)), (42, .int .i64 x42_l2), (65, .int .i64 r50.2.1), (66, .int .i64 r59.2.1), (67, .bool (r50.2.1 != r59.2.1)), (70, .bool r50.2.2.1), (71, .bool r59.2.2.1), (72, .bool (r50.2.2.1 != r59.2.2.1)), (75, undef), (76, undef), (77, undef), (78, undef), (79, undef), (80, undef), (81, undef), (82, undef), (83, undef), (84, undef), (85, undef), (86, undef), (87, undef), (88, undef), (89, undef), (90, undef), (91, undef), (92, undef), (93, undef), (94, undef), (95, undef), (96, .bool true)]) (w' := w) (by kernel_rfl) ?_
        refine WR.nil ?_
        refine At.go ?_
        refine WC.condT (by kernel_rfl) (by kernel_rfl) (by kernel_rfl) ?_
        refine WC.seq (by kernel_rfl) ?_
        refine WC.reg [0] (by kernel_rfl) (by kernel_rfl) ?_
        refine WR.runk [0] [] [4] (L' := [(4, .bool false)]) (w' := w) (by kernel_rfl) ?_
        refine WR.nil ?_
        refine At.go ?_
        refine WC.ret (by kernel_rfl) ?_
        obtain rfl := Option.some.inj H
        have hS : Sat w (rf w0) [O46 b26 r59.2.2.2, oar 39 (r0 (.int .i64)) 1 9 b43 q45_l2] := hS.sel [0, 1] (by kernel_rfl)
        refine At.weaken [4] (L' := [(4, .bool false)]) (by kernel_rfl) ?_
        exact hn0 () _ rfl hS
      · replace H := ite_f H hb70
        refine WR.runk [14, 15] [16, 17, 18, 19, 20, 21, 22, 23, 24, 25, 26, 27, 28, 29, 30, 31, 32, 33, 34, 35] [5, 8, 9, 11, 12, 13, 14, 40, 41, 42, 65, 66, 67, 70, 71, 72, 74, 75, 76] (L' := [(5, .pointer (some ⟨b26, 0, none⟩)), (8, .pointer (some ⟨b43, 0, none⟩)), (9, .int .i64 x9_l2), (11, .int .u8 v47), (12, .int .i64 r50.1), (13, .int .i64 r50.2.1), (14, .bool r50.2.2.1), (40, .slice A1 l1.length c1), (41, .int .i64 (l1.length : Int)), (42, .int .i64 x42_l2), (65, .int .i64 r50.2.1), (66, .int .i64 r59.2.1), (67, .bool (r50.2.1 != r59.2.1)), (70, .bool r50.2.2.1), (71, .bool r59.2.2.1), (72, .bool (r50.2.2.1 != r59.2.2.1)), (74, .bool false), (75, .bool r50.2.2.1), (76, .bool r50.2.2.1)]) (w' := w) (by kernel_rfl) ?_
        refine WR.split 76 (b := r50.2.2.1) (by kernel_rfl) (fun hb71 => ?_) (fun hb71 => ?_)
        · replace H := ite_t H hb71
          refine WR.runk [16, 17, 18] [19, 20, 21, 22, 23, 24, 25, 26, 27, 28, 29, 30, 31, 32, 33, 34, 35] [5, 8, 9, 11, 12, 13, 14, 40, 41, 42, 65, 66, 67, 70, 71, 72, 74, 75, 76, 77, 78, 79] (L' := [(5, .pointer (some ⟨b26, 0, none⟩)), (8, .pointer (some ⟨b43, 0, none⟩)), (9, .int .i64 x9_l2), (11, .int .u8 v47), (12, .int .i64 r50.1), (13, .int .i64 r50.2.1), (14, .bool r50.2.2.1), (40, .slice A1 l1.length c1), (41, .int .i64 (l1.length : Int)), (42, .int .i64 x42_l2), (65, .int .i64 r50.2.1), (66, .int .i64 r59.2.1), (67, .bool (r50.2.1 != r59.2.1)), (70, .bool r50.2.2.1), (71, .bool r59.2.2.1), (72, .bool (r50.2.2.1 != r59.2.2.1)), (74, .bool false), (75, .bool r50.2.2.1), (76, .bool true), (77, .int .i64 r50.2.1), (78, .bool (decide (r50.2.1 < 0))), (79, .bool (decide (r50.2.1 < 0)))]) (w' := w) (by kernel_rfl) ?_
          refine WR.split 79 (b := decide (r50.2.1 < 0)) (by kernel_rfl) (fun hb72 => ?_) (fun hb72 => ?_)
          · replace H := ite_t H hb72
            refine WR.runk [19, 20, 21, 22, 23, 24, 25, 26, 27, 28, 29, 30, 31, 32, 33, 34, 35] [] [5, 8, 9, 11, 13, 14, 40, 41, 42, 65, 66, 67, 70, 71, 72, 75, 76, 77, 78, 79, 80, 81, 82, 83, 84, 85, 86, 87, 88, 89, 90, 91, 92, 93, 94, 95, 96] (L' := [(5, .pointer (some ⟨b26, 0, none⟩)), (8, .pointer (some ⟨b43, 0, none⟩)), (9, .int .i64 x9_l2), (11, .int .u8 v47), (13, .int .i64 r50.2.1), (14, .bool r50.2.2.1), (40, .slice A1 l1.length c1), (41, .int .i64 (l1.length : Int)), (42, .int .i64 x42_l2), (65, .int .i64 r50.2.1), (66, .int .i64 r59.2.1), (67, .bool (r50.2.1 != r59.2.1)), (70, .bool r50.2.2.1), (71, .bool r59.2.2.1), (72, .bool (r50.2.2.1 != r59.2.2.1)), (75, .bool r50.2.2.1), (76, .bool true), (77, .int .i64 r50.2.1), (78, .bool (decide (r50.2.1 < 0))), (79, .bool true), (80, undef), (81, undef), (82, .bool true), (83, .bool true), (84, undef), (85, undef), (86, undef), (87, undef), (88, .bool true), (89, .bool true), (90, undef), (91, undef), (92, undef), (93, undef), (94, .bool true), (95, .bool true), (96, .bool true)]) (w' := w) (by kernel_rfl) ?_
            refine WR.nil ?_
            refine At.go ?_
            refine WC.condT (by kernel_rfl) (by kernel_rfl) (by kernel_rfl) ?_
            refine WC.seq (by kernel_rfl) ?_
            refine WC.reg [0] (by kernel_rfl) (by kernel_rfl) ?_
            refine WR.runk [0] [] [4] (L' := [(4, .bool false)]) (w' := w) (by kernel_rfl) ?_
            refine WR.nil ?_
            refine At.go ?_
            refine WC.ret (by kernel_rfl) ?_
            obtain rfl := Option.some.inj H
            have hS : Sat w (rf w0) [O46 b26 r59.2.2.2, oar 39 (r0 (.int .i64)) 1 9 b43 q45_l2] := hS.sel [0, 1] (by kernel_rfl)
            refine At.weaken [4] (L' := [(4, .bool false)]) (by kernel_rfl) ?_
            exact hn0 () _ rfl hS
          · replace H := ite_f H hb72
            refine WR.runk [19, 20, 21, 22] [23, 24, 25, 26, 27, 28, 29, 30, 31, 32, 33, 34, 35] [5, 8, 9, 11, 12, 13, 14, 40, 41, 42, 65, 66, 67, 70, 71, 72, 74, 75, 76, 77, 78, 79, 80, 81, 82, 83] (L' := [(5, .pointer (some ⟨b26, 0, none⟩)), (8, .pointer (some ⟨b43, 0, none⟩)), (9, .int .i64 x9_l2), (11, .int .u8 v47), (12, .int .i64 r50.1), (13, .int .i64 r50.2.1), (14, .bool r50.2.2.1), (40, .slice A1 l1.length c1), (41, .int .i64 (l1.length : Int)), (42, .int .i64 x42_l2), (65, .int .i64 r50.2.1), (66, .int .i64 r59.2.1), (67, .bool (r50.2.1 != r59.2.1)), (70, .bool r50.2.2.1), (71, .bool r59.2.2.1), (72, .bool (r50.2.2.1 != r59.2.2.1)), (74, .bool false), (75, .bool r50.2.2.1), (76, .bool true), (77, .int .i64 r50.2.1), (78, .bool (decide (r50.2.1 < 0))), (79, .bool false), (80, .int .i64 r50.2.1), (81, .bool (decide (r50.2.1 > 8))), (82, .bool (decide (r50.2.1 > 8))), (83, .bool (decide (r50.2.1 > 8)))]) (w' := w) (by kernel_rfl) ?_
            refine WR.split 83 (b := decide (r50.2.1 > 8)) (by kernel_rfl) (fun hb73 => ?_) (fun hb73 => ?_)
            · replace H := ite_t H hb73
              refine WR.runk [23, 24, 25, 26, 27, 28, 29, 30, 31, 32, 33, 34, 35] [] [5, 8, 9, 11, 13, 14, 40, 41, 42, 65, 66, 67, 70, 71, 72, 75, 76, 77, 78, 79, 80, 81, 82, 83, 84, 85, 86, 87, 88, 89, 90, 91, 92, 93, 94, 95, 96] (L' := [(5, .pointer (some ⟨b26, 0, none⟩)), (8, .pointer (some ⟨b43, 0, none⟩)), (9, .int .i64 x9_l2), (11, .int .u8 v47), (13, .int .i64 r50.2.1), (14, .bool r50.2.2.1), (40, .slice A1 l1.length c1), (41, .int .i64 (l1.length : Int)), (42, .int .i64 x42_l2), (65, .int .i64 r50.2.1), (66, .int .i64 r59.2.1), (67, .bool (r50.2.1 != r59.2.1)), (70, .bool r50.2.2.1), (71, .bool r59.2.2.1), (72, .bool (r50.2.2.1 != r59.2.2.1)), (75, .bool r50.2.2.1), (76, .bool true), (77, .int .i64 r50.2.1), (78, .bool (decide (r50.2.1 < 0))), (79, .bool false), (80, .int .i64 r50.2.1), (81, .bool (decide (r50.2.1 > 8))), (82, .bool (decide (r50.2.1 > 8))), (83, .bool true), (84, undef), (85, undef), (86, undef), (87, undef), (88, .bool true), (89, .bool true), (90, undef), (91, undef), (92, undef), (93, undef), (94, .bool true), (95, .bool true), (96, .bool true)]) (w' := w) (by kernel_rfl) ?_
              refine WR.nil ?_
              refine At.go ?_
              refine WC.condT (by kernel_rfl) (by kernel_rfl) (by kernel_rfl) ?_
              refine WC.seq (by kernel_rfl) ?_
              refine WC.reg [0] (by kernel_rfl) (by kernel_rfl) ?_
              refine WR.runk [0] [] [4] (L' := [(4, .bool false)]) (w' := w) (by kernel_rfl) ?_
              refine WR.nil ?_
              refine At.go ?_
              refine WC.ret (by kernel_rfl) ?_
              obtain rfl := Option.some.inj H
              have hS : Sat w (rf w0) [O46 b26 r59.2.2.2, oar 39 (r0 (.int .i64)) 1 9 b43 q45_l2] := hS.sel [0, 1] (by kernel_rfl)
              refine At.weaken [4] (L' := [(4, .bool false)]) (by kernel_rfl) ?_
              exact hn0 () _ rfl hS
            · replace H := ite_f H hb73
              refine WR.runk [23] [24, 25, 26, 27, 28, 29, 30, 31, 32, 33, 34, 35] [5, 8, 9, 11, 12, 13, 14, 40, 41, 42, 65, 66, 67, 70, 71, 72, 74, 75, 76, 77, 78, 79, 80, 81, 82, 83, 84] (L' := [(5, .pointer (some ⟨b26, 0, none⟩)), (8, .pointer (some ⟨b43, 0, none⟩)), (9, .int .i64 x9_l2), (11, .int .u8 v47), (12, .int .i64 r50.1), (13, .int .i64 r50.2.1), (14, .bool r50.2.2.1), (40, .slice A1 l1.length c1), (41, .int .i64 (l1.length : Int)), (42, .int .i64 x42_l2), (65, .int .i64 r50.2.1), (66, .int .i64 r59.2.1), (67, .bool (r50.2.1 != r59.2.1)), (70, .bool r50.2.2.1), (71, .bool r59.2.2.1), (72, .bool (r50.2.2.1 != r59.2.2.1)), (74, .bool false), (75, .bool r50.2.2.1), (76, .bool true), (77, .int .i64 r50.2.1), (78, .bool (decide (r50.2.1 < 0))), (79, .bool false), (80, .int .i64 r50.2.1), (81, .bool (decide (r50.2.1 > 8))), (82, .bool (decide (r50.2.1 > 8))), (83, .bool false), (84, .int .i64 r50.2.1)]) (w' := w) (by kernel_rfl) ?_
              obtain ⟨v74, e75, H⟩ := bind_ex H
              refine WR.st (St.ofP (PSt.idxArr (k := .i64) (t := 39) (e := 3) (sz := 1) (b := b43) (.tmp 8) (.tmp 84) (by kernel_rfl) (by kernel_rfl) (by kernel_rfl) (by kernel_rfl) (by kernel_rfl) (by kernel_rfl) (by kernel_rfl) (Sat.oarAt 1 hS rfl).2 e75 ?_))
              refine WR.runk [] [25, 26, 27, 28, 29, 30, 31, 32, 33, 34, 35] [5, 8, 9, 11, 12, 13, 14, 40, 41, 42, 65, 66, 67, 70, 71, 72, 74, 75, 76, 77, 78, 79, 80, 81, 82, 83, 84, 85] (L' := [(5, .pointer (some ⟨b26, 0, none⟩)), (8, .pointer (some ⟨b43, 0, none⟩)), (9, .int .i64 x9_l2), (11, .int .u8 v47), (12, .int .i64 r50.1), (13, .int .i64 r50.2.1), (14, .bool r50.2.2.1), (40, .slice A1 l1.length c1), (41, .int .i64 (l1.length : Int)), (42, .int .i64 x42_l2), (65, .int .i64 r50.2.1), (66, .int .i64 r59.2.1), (67, .bool (r50.2.1 != r59.2.1)), (70, .bool r50.2.2.1), (71, .bool r59.2.2.1), (72, .bool (r50.2.2.1 != r59.2.2.1)), (74, .bool false), (75, .bool r50.2.2.1), (76, .bool true), (77, .int .i64 r50.2.1), (78, .bool (decide (r50.2.1 < 0))), (79, .bool false), (80, .int .i64 r50.2.1), (81, .bool (decide (r50.2.1 > 8))), (82, .bool (decide (r50.2.1 > 8))), (83, .bool false), (84, .int .i64 r50.2.1), (85, .pointer (some (adr (some ⟨b43, 0, none⟩) (r50.2.1).toNat 1)))]) (w' := w) (by kernel_rfl) ?_
              refine WR.st (St.ofR (RSt.loadInt (t := 3) (.tmp 85) (by kernel_rfl) (by kernel_rfl) (by kernel_rfl) (by kernel_rfl) (Sat.oarAt 1 hS rfl).1 e75 ?_))
              refine WR.runk [26, 27, 28] [29, 30, 31, 32, 33, 34, 35] [5, 8, 9, 11, 12, 13, 14, 40, 41, 42, 65, 66, 67, 70, 71, 72, 74, 75, 76, 77, 78, 79, 80, 81, 82, 83, 84, 85, 86, 87, 88, 89] (L' := [(5, .pointer (some ⟨b26, 0, none⟩)), (8, .pointer (some ⟨b43, 0, none⟩)), (9, .int .i64 x9_l2), (11, .int .u8 v47), (12, .int .i64 r50.1), (13, .int .i64 r50.2.1), (14, .bool r50.2.2.1), (40, .slice A1 l1.length c1), (41, .int .i64 (l1.length : Int)), (42, .int .i64 x42_l2), (65, .int .i64 r50.2.1), (66, .int .i64 r59.2.1), (67, .bool (r50.2.1 != r59.2.1)), (70, .bool r50.2.2.1), (71, .bool r59.2.2.1), (72, .bool (r50.2.2.1 != r59.2.2.1)), (74, .bool false), (75, .bool r50.2.2.1), (76, .bool true), (77, .int .i64 r50.2.1), (78, .bool (decide (r50.2.1 < 0))), (79, .bool false), (80, .int .i64 r50.2.1), (81, .bool (decide (r50.2.1 > 8))), (82, .bool (decide (r50.2.1 > 8))), (83, .bool false), (84, .int .i64 r50.2.1), (85, .pointer (some (adr (some ⟨b43, 0, none⟩) (r50.2.1).toNat 1))), (86, .int .i64 v74), (87, .bool (v74 != 0)), (88, .bool (v74 != 0)), (89, .bool (v74 != 0))]) (w' := w) (by kernel_rfl) ?_
              refine WR.split 89 (b := (v74 != 0)) (by kernel_rfl) (fun hb76 => ?_) (fun hb76 => ?_)
              · replace H := ite_t H hb76
                refine WR.runk [29, 30, 31, 32, 33, 34, 35] [] [5, 8, 9, 11, 13, 14, 40, 41, 42, 65, 66, 67, 70, 71, 72, 75, 76, 77, 78, 79, 80, 81, 82, 83, 84, 85, 86, 87, 88, 89, 90, 91, 92, 93, 94, 95, 96] (L' := [(5, .pointer (some ⟨b26, 0, none⟩)), (8, .pointer (some ⟨b43, 0, none⟩)), (9, .int .i64 x9_l2), (11, .int .u8 v47), (13, .int .i64 r50.2.1), (14, .bool r50.2.2.1), (40, .slice A1 l1.length c1), (41, .int .i64 (l1.length : Int)), (42, .int .i64 x42_l2), (65, .int .i64 r50.2.1), (66, .int .i64 r59.2.1), (67, .bool (r50.2.1 != r59.2.1)), (70, .bool r50.2.2.1), (71, .bool r59.2.2.1), (72, .bool (r50.2.2.1 != r59.2.2.1)), (75, .bool r50.2.2.1), (76, .bool true), (77, .int .i64 r50.2.1), (78, .bool (decide (r50.2.1 < 0))), (79, .bool false), (80, .int .i64 r50.2.1), (81, .bool (decide (r50.2.1 > 8))), (82, .bool (decide (r50.2.1 > 8))), (83, .bool false), (84, .int .i64 r50.2.1), (85, .pointer (some (adr (some ⟨b43, 0, none⟩) (r50.2.1).toNat 1))), (86, .int .i64 v74), (87, .bool (v74 != 0)), (88, .bool (v74 != 0)), (89, .bool true), (90, undef), (91, undef), (92, undef), (93, undef), (94, .bool true), (95, .bool true), (96, .bool true)]) (w' := w) (by kernel_rfl) ?_
                refine WR.nil ?_
                refine At.go ?_
                refine WC.condT (by kernel_rfl) (by kernel_rfl) (by kernel_rfl) ?_
                refine WC.seq (by kernel_rfl) ?_
                refine WC.reg [0] (by kernel_rfl) (by kernel_rfl) ?_
                refine WR.runk [0] [] [4] (L' := [(4, .bool false)]) (w' := w) (by kernel_rfl) ?_
                refine WR.nil ?_
                refine At.go ?_
                refine WC.ret (by kernel_rfl) ?_
                obtain rfl := Option.some.inj H
                have hS : Sat w (rf w0) [O46 b26 r59.2.2.2, oar 39 (r0 (.int .i64)) 1 9 b43 q45_l2] := hS.sel [0, 1] (by kernel_rfl)
                refine At.weaken [4] (L' := [(4, .bool false)]) (by kernel_rfl) ?_
                exact hn0 () _ rfl hS
              · replace H := ite_f H hb76
                refine WR.runk [29, 30, 31, 32, 33, 34, 35] [] [5, 8, 9, 11, 13, 14, 40, 41, 42, 65, 66, 67, 70, 71, 72, 75, 76, 77, 78, 79, 80, 81, 82, 83, 84, 85, 86, 87, 88, 89, 90, 91, 92, 93, 94, 95, 96] (L' := [(5, .pointer (some ⟨b26, 0, none⟩)), (8, .pointer (some ⟨b43, 0, none⟩)), (9, .int .i64 x9_l2), (11, .int .u8 v47), (13, .int .i64 r50.2.1), (14, .bool r50.2.2.1), (40, .slice A1 l1.length c1), (41, .int .i64 (l1.length : Int)), (42, .int .i64 x42_l2), (65, .int .i64 r50.2.1), (66, .int .i64 r59.2.1), (67, .bool (r50.2.1 != r59.2.1)), (70, .bool r50.2.2.1), (71, .bool r59.2.2.1), (72, .bool (r50.2.2.1 != r59.2.2.1)), (75, .bool r50.2.2.1), (76, .bool true), (77, .int .i64 r50.2.1), (78, .bool (decide (r50.2.1 < 0))), (79, .bool false), (80, .int .i64 r50.2.1), (81, .bool (decide (r50.2.1 > 8))), (82, .bool (decide (r50.2.1 > 8))), (83, .bool false), (84, .int .i64 r50.2.1), (85, .pointer (some (adr (some ⟨b43, 0, none⟩) (r50.2.1).toNat 1))), (86, .int .i64 v74), (87, .bool (v74 != 0)), (88, .bool (v74 != 0)), (89, .bool false), (90, .int .i64 r50.2.1), (91, .int .i64 (Int.tmod r50.2.1 3)), (92, .int .i64 r50.1), (93, .bool ((Int.tmod r50.2.1 3) != r50.1)), (94, .bool ((Int.tmod r50.2.1 3) != r50.1)), (95, .bool ((Int.tmod r50.2.1 3) != r50.1)), (96, .bool ((Int.tmod r50.2.1 3) != r50.1))]) (w' := w) (by kernel_rfl) ?_
                refine WR.nil ?_
                refine At.go ?_
                refine WC.cond (by kernel_rfl) ((Int.tmod r50.2.1 3) != r50.1) (by kernel_rfl) (by kernel_rfl) (fun hb77 => ?_) (fun hb77 => ?_)
                · replace H := ite_t H hb77
                  refine WC.seq (by kernel_rfl) ?_
                  refine WC.reg [0] (by kernel_rfl) (by kernel_rfl) ?_
                  refine WR.runk [0] [] [4] (L' := [(4, .bool false)]) (w' := w) (by kernel_rfl) ?_
                  refine WR.nil ?_
                  refine At.go ?_
                  refine WC.ret (by kernel_rfl) ?_
                  obtain rfl := Option.some.inj H
                  have hS : Sat w (rf w0) [O46 b26 r59.2.2.2, oar 39 (r0 (.int .i64)) 1 9 b43 q45_l2] := hS.sel [0, 1] (by kernel_rfl)
                  refine At.weaken [4] (L' := [(4, .bool false)]) (by kernel_rfl) ?_
                  exact hn0 () _ rfl hS
                · replace H := ite_f H hb77
                  refine WC.skip (by kernel_rfl) ?_
                  obtain rfl := Option.some.inj H
                  have hS : Sat w (rf w0) [O46 b26 r59.2.2.2, oar 39 (r0 (.int .i64)) 1 9 b43 q45_l2] := hS.sel [0, 1] (by kernel_rfl)
                  refine At.weaken [5, 8, 9, 11, 13, 14, 40, 41, 42, 65, 66, 67, 70, 71, 72, 75, 76] (L' := [(5, .pointer (some ⟨b26, 0, none⟩)), (8, .pointer (some ⟨b43, 0, none⟩)), (9, .int .i64 x9_l2), (11, .int .u8 v47), (13, .int .i64 r50.2.1), (14, .bool r50.2.2.1), (40, .slice A1 l1.length c1), (41, .int .i64 (l1.length : Int)), (42, .int .i64 x42_l2), (65, .int .i64 r50.2.1), (66, .int .i64 r59.2.1), (67, .bool (r50.2.1 != r59.2.1)), (70, .bool r50.2.2.1), (71, .bool r59.2.2.1), (72, .bool (r50.2.2.1 != r59.2.2.1)), (75, .bool r50.2.2.1), (76, .bool true)]) (by kernel_rfl) ?_
                  exact hn1 (r50.2.1, r59.2.1, (r50.2.1 != r59.2.1), r50.2.2.1, r59.2.2.1, (r50.2.2.1 != r59.2.2.1), r50.2.2.1, true) _ rfl hS
        · replace H := ite_f H hb71
          refine WR.runk [16, 17, 18, 19, 20, 21, 22, 23, 24, 25, 26, 27, 28, 29, 30, 31, 32, 33, 34, 35] [] [5, 8, 9, 11, 13, 14, 40, 41, 42, 65, 66, 67, 70, 71, 72, 75, 76, 77, 78, 79, 80, 81, 82, 83, 84, 85, 86, 87, 88, 89, 90, 91, 92, 93, 94, 95, 96] (L' := [(5, .pointer (some ⟨b26, 0, none⟩)), (8, .pointer (some ⟨b43, 0, none⟩)), (9, .int .i64 x9_l2), (11, .int .u8 v47), (13, .int .i64 r50.2.1), (14, .bool r50.2.2.1), (40, .slice A1 l1.length c1), (41, .int .i64 (l1.length : Int)), (42, .int .i64 x42_l2), (65, .int .i64 r50.2.1), (66, .int .i64 r59.2.1), (67, .bool (r50.2.1 != r59.2.1)), (70, .bool r50.2.2.1), (71, .bool r59.2.2.1), (72, .bool (r50.2.2.1 != r59.2.2.1)), (75, .bool r50.2.2.1), (76, .bool false), (77, undef), (78, undef), (79, undef), (80, undef), (81, undef), (82, undef), (83, undef), (84, undef), (85, undef), (86, undef), (87, undef), (88, undef), (89, undef), (90, undef), (91, undef), (92, undef), (93, undef), (94, undef), (95, .bool false), (96, .bool false)]) (w' := w) (by kernel_rfl) ?_
          refine WR.nil ?_
          refine At.go ?_
          refine WC.condF (by kernel_rfl) (by kernel_rfl) (by kernel_rfl) ?_
          refine WC.skip (by kernel_rfl) ?_
          obtain rfl := Option.some.inj H
          have hS : Sat w (rf w0) [O46 b26 r59.2.2.2, oar 39 (r0 (.int .i64)) 1 9 b43 q45_l2] := hS.sel [0, 1] (by kernel_rfl)
          refine At.weaken [5, 8, 9, 11, 13, 14, 40, 41, 42, 65, 66, 67, 70, 71, 72, 75, 76] (L' := [(5, .pointer (some ⟨b26, 0, none⟩)), (8, .pointer (some ⟨b43, 0, none⟩)), (9, .int .i64 x9_l2), (11, .int .u8 v47), (13, .int .i64 r50.2.1), (14, .bool r50.2.2.1), (40, .slice A1 l1.length c1), (41, .int .i64 (l1.length : Int)), (42, .int .i64 x42_l2), (65, .int .i64 r50.2.1), (66, .int .i64 r59.2.1), (67, .bool (r50.2.1 != r59.2.1)), (70, .bool r50.2.2.1), (71, .bool r59.2.2.1), (72, .bool (r50.2.2.1 != r59.2.2.1)), (75, .bool r50.2.2.1), (76, .bool false)]) (by kernel_rfl) ?_
          exact hn1 (r50.2.1, r59.2.1, (r50.2.1 != r59.2.1), r50.2.2.1, r59.2.2.1, (r50.2.2.1 != r59.2.2.1), r50.2.2.1, false) _ rfl hS
theorem colophonlaw23_FairAgain.j4_ok {Q} (w0 : World) (A1 : Option Addr) (c1 : Nat) (l1 : List Int) (b26 : Nat) (b43 : Nat) (x9_l2 : Int) (x42_l2 : Int) (q45_l2 : List Int) (v47 : Int) (r50 : Int × Int × Bool × (Int × (List (Option (Int × Int × Int × (List (Int × Bool))))) × Int × Bool × Int × Bool)) (r59 : Int × Int × Bool × (Int × (List (Option (Int × Int × Int × (List (Int × Bool))))) × Int × Bool × Int × Bool)) (o84 : Int × Int × Bool × Bool × Bool × Bool × Bool × Bool) (out : Int) (hn0 : ∀ (w : World), Sat w (rf w0) [O46 b26 r59.2.2.2, oar 39 (r0 (.int .i64)) 1 9 b43 q45_l2] → At Q .normal 156 [(5, .pointer (some ⟨b26, 0, none⟩)), (8, .pointer (some ⟨b43, 0, none⟩)), (9, .int .i64 out), (11, .int .u8 v47), (40, .slice A1 l1.length c1), (41, .int .i64 (l1.length : Int)), (42, .int .i64 x42_l2), (65, .int .i64 o84.1), (66, .int .i64 o84.2.1), (67, .bool o84.2.2.1), (70, .bool o84.2.2.2.1), (71, .bool o84.2.2.2.2.1), (72, .bool o84.2.2.2.2.2.1), (75, .bool o84.2.2.2.2.2.2.1), (76, .bool o84.2.2.2.2.2.2.2)] w) (w : World) : Sat w (rf w0) [O46 b26 r59.2.2.2, oar 39 (r0 (.int .i64)) 1 9 b43 q45_l2] → colophonlaw23_FairAgain.j4 x9_l2 r50 = some out → WC Try.prog (cl (cr (cr (cr (cr (cr (cbody (cl (cr (cr (cbody (cbody (cr (cl (cr (cr (cr (cr (cr (cr C5)))))))))))))))))))) Q 156 [(5, .pointer (some ⟨b26, 0, none⟩)), (8, .pointer (some ⟨b43, 0, none⟩)), (9, .int .i64 x9_l2), (11, .int .u8 v47), (13, .int .i64 r50.2.1), (14, .bool r50.2.2.1), (40, .slice A1 l1.length c1), (41, .int .i64 (l1.length : Int)), (42, .int .i64 x42_l2), (65, .int .i64 o84.1), (66, .int .i64 o84.2.1), (67, .bool o84.2.2.1), (70, .bool o84.2.2.2.1), (71, .bool o84.2.2.2.2.1), (72, .bool o84.2.2.2.2.2.1), (75, .bool o84.2.2.2.2.2.2.1), (76, .bool o84.2.2.2.2.2.2.2)] w := by
  intro hS H
  unfold colophonlaw23_FairAgain.j4 at H
  refine WC.seq (by kernel_rfl) ?_
  refine WC.reg [0] (by kernel_rfl) (by kernel_rfl) ?_
  refine WR.runk [0] [] [5, 8, 9, 11, 13, 40, 41, 42, 65, 66, 67, 70, 71, 72, 75, 76, 97] (L' := [(5, .pointer (some ⟨b26, 0, none⟩)), (8, .pointer (some ⟨b43, 0, none⟩)), (9, .int .i64 x9_l2), (11, .int .u8 v47), (13, .int .i64 r50.2.1), (40, .slice A1 l1.length c1), (41, .int .i64 (l1.length : Int)), (42, .int .i64 x42_l2), (65, .int .i64 o84.1), (66, .int .i64 o84.2.1), (67, .bool o84.2.2.1), (70, .bool o84.2.2.2.1), (71, .bool o84.2.2.2.2.1), (72, .bool o84.2.2.2.2.2.1), (75, .bool o84.2.2.2.2.2.2.1), (76, .bool o84.2.2.2.2.2.2.2), (97, .bool r50.2.2.1)]) (w' := w) (by kernel_rfl) ?_
  refine WR.nil ?_
  refine At.go ?_
  refine WC.cond (by kernel_rfl) r50.2.2.1 (by kernel_rfl) (by kernel_rfl) (fun hb88 => ?_) (fun hb88 => ?_)
  · replace H := ite_t H hb88
    refine WC.reg [0, 1] (by kernel_rfl) (by kernel_rfl) ?_
    refine WR.runk [0, 1] [] [5, 8, 9, 11, 40, 41, 42, 65, 66, 67, 70, 71, 72, 75, 76] (L' := [(5, .pointer (some ⟨b26, 0, none⟩)), (8, .pointer (some ⟨b43, 0, none⟩)), (9, .int .i64 r50.2.1), (11, .int .u8 v47), (40, .slice A1 l1.length c1), (41, .int .i64 (l1.length : Int)), (42, .int .i64 x42_l2), (65, .int .i64 o84.1), (66, .int .i64 o84.2.1), (67, .bool o84.2.2.1), (70, .bool o84.2.2.2.1), (71, .bool o84.2.2.2.2.1), (72, .bool o84.2.2.2.2.2.1), (75, .bool o84.2.2.2.2.2.2.1), (76, .bool o84.2.2.2.2.2.2.2)]) (w' := w) (by kernel_rfl) ?_
    refine WR.nil ?_
    obtain rfl := Option.some.inj H
    have hS : Sat w (rf w0) [O46 b26 r59.2.2.2, oar 39 (r0 (.int .i64)) 1 9 b43 q45_l2] := hS.sel [0, 1] (by kernel_rfl)
    refine At.weaken [5, 8, 9, 11, 40, 41, 42, 65, 66, 67, 70, 71, 72, 75, 76] (L' := [(5, .pointer (some ⟨b26, 0, none⟩)), (8, .pointer (some ⟨b43, 0, none⟩)), (9, .int .i64 r50.2.1), (11, .int .u8 v47), (40, .slice A1 l1.length c1), (41, .int .i64 (l1.length : Int)), (42, .int .i64 x42_l2), (65, .int .i64 o84.1), (66, .int .i64 o84.2.1), (67, .bool o84.2.2.1), (70, .bool o84.2.2.2.1), (71, .bool o84.2.2.2.2.1), (72, .bool o84.2.2.2.2.2.1), (75, .bool o84.2.2.2.2.2.2.1), (76, .bool o84.2.2.2.2.2.2.2)]) (by kernel_rfl) ?_
    exact hn0 _ hS
  · replace H := ite_f H hb88
    refine WC.skip (by kernel_rfl) ?_
    obtain rfl := Option.some.inj H
    have hS : Sat w (rf w0) [O46 b26 r59.2.2.2, oar 39 (r0 (.int .i64)) 1 9 b43 q45_l2] := hS.sel [0, 1] (by kernel_rfl)
    refine At.weaken [5, 8, 9, 11, 40, 41, 42, 65, 66, 67, 70, 71, 72, 75, 76] (L' := [(5, .pointer (some ⟨b26, 0, none⟩)), (8, .pointer (some ⟨b43, 0, none⟩)), (9, .int .i64 x9_l2), (11, .int .u8 v47), (40, .slice A1 l1.length c1), (41, .int .i64 (l1.length : Int)), (42, .int .i64 x42_l2), (65, .int .i64 o84.1), (66, .int .i64 o84.2.1), (67, .bool o84.2.2.1), (70, .bool o84.2.2.2.1), (71, .bool o84.2.2.2.2.1), (72, .bool o84.2.2.2.2.2.1), (75, .bool o84.2.2.2.2.2.2.1), (76, .bool o84.2.2.2.2.2.2.2)]) (by kernel_rfl) ?_
    exact hn0 _ hS
theorem colophonlaw23_FairAgain.j1_ok {Q} (w0 : World) (A1 : Option Addr) (c1 : Nat) (l1 : List Int) (b26 : Nat) (b43 : Nat) (x9_l2 : Int) (x42_l2 : Int) (q27_l2 : Int × (List (Option (Int × Int × Int × (List (Int × Bool))))) × Int × Bool × Int × Bool) (q45_l2 : List Int) (R1 : rdS (r0 (.int .u8)) 1 (hp w0) A1 c1 l1) (out : Sum Unit (Sum (Int × (List (Option (Int × Int × Int × (List (Int × Bool))))) × Int × Bool × Int × Bool) (Int × Int × Int × Bool × Bool × Bool × Bool × (Int × (List (Option (Int × Int × Int × (List (Int × Bool))))) × Int × Bool × Int × Bool) × (List Int)))) (hn0 : ∀ (o0 : Unit) (w : World), out = (.inl o0) → Sat w (rf w0) [O46 b26 q27_l2, oar 39 (r0 (.int .i64)) 1 9 b43 q45_l2] → At Q (.exit 2) 156 [] w) (hn1 : ∀ (o1 : (Int × (List (Option (Int × Int × Int × (List (Int × Bool))))) × Int × Bool × Int × Bool)) (w : World), out = (.inr (.inl o1)) → Sat w (rf w0) [O46 b26 o1, oar 39 (r0 (.int .i64)) 1 9 b43 q45_l2] → At Q .ret 156 [(4, .bool false)] w) (hn2 : ∀ (o2 : Int × Int × Int × Bool × Bool × Bool × Bool × (Int × (List (Option (Int × Int × Int × (List (Int × Bool))))) × Int × Bool × Int × Bool) × (List Int)) (w : World), out = (.inr (.inr o2)) → Sat w (rf w0) [O46 b26 o2.2.2.2.2.2.2.2.1, oar 39 (r0 (.int .i64)) 1 9 b43 o2.2.2.2.2.2.2.2.2] → At Q .normal 156 [(5, .pointer (some ⟨b26, 0, none⟩)), (8, .pointer (some ⟨b43, 0, none⟩)), (9, .int .i64 o2.1), (40, .slice A1 l1.length c1), (41, .int .i64 (l1.length : Int)), (42, .int .i64 x42_l2), (65, .int .i64 o2.2.1), (66, .int .i64 o2.2.2.1), (67, .bool o2.2.2.2.1), (71, .bool o2.2.2.2.2.1), (72, .bool o2.2.2.2.2.2.1), (76, .bool o2.2.2.2.2.2.2.1)] w) (w : World) : Sat w (rf w0) [O46 b26 q27_l2, oar 39 (r0 (.int .i64)) 1 9 b43 q45_l2] → colophonlaw23_FairAgain.j1 l1 x9_l2 x42_l2 q27_l2 q45_l2 = some out → WC Try.prog (cl (cr (cr (cbody (cbody (cr (cl (cr (cr (cr (cr (cr (cr C5))))))))))))) Q 156 [(5, .pointer (some ⟨b26, 0, none⟩)), (8, .pointer (some ⟨b43, 0, none⟩)), (9, .int .i64 x9_l2), (40, .slice A1 l1.length c1), (41, .int .i64 (l1.length : Int)), (42, .int .i64 x42_l2)] w := by
  intro hS H
  unfold colophonlaw23_FairAgain.j1 at H
  refine WC.block (by kernel_rfl) ?_
  refine WC.seq (by kernel_rfl) ?_
  refine WC.reg [0, 1, 2, 3, 4] (by kernel_rfl) (by kernel_rfl) ?_
  refine WR.runk [0] [1, 2, 3, 4] [5, 8, 9, 40, 41, 42, 44] (L' := [(5, .pointer (some ⟨b26, 0, none⟩)), (8, .pointer (some ⟨b43, 0, none⟩)), (9, .int .i64 x9_l2), (40, .slice A1 l1.length c1), (41, .int .i64 (l1.length : Int)), (42, .int .i64 x42_l2), (44, .int .i64 x42_l2)]) (w' := w) (by kernel_rfl) ?_
  obtain ⟨v47, e48, H⟩ := bind_ex H
  refine WR.st (St.ofP (PSt.idx (k := .i64) (.tmp 40) (.tmp 42) (by kernel_rfl) (by kernel_rfl) E22 (by kernel_rfl) (by kernel_rfl) (rdS.up R1 hS.sub0) e48 ?_))
  refine WR.runk [] [2, 3, 4] [5, 8, 9, 40, 41, 42, 44, 45] (L' := [(5, .pointer (some ⟨b26, 0, none⟩)), (8, .pointer (some ⟨b43, 0, none⟩)), (9, .int .i64 x9_l2), (40, .slice A1 l1.length c1), (41, .int .i64 (l1.length : Int)), (42, .int .i64 x42_l2), (44, .int .i64 x42_l2), (45, .pointer (some (adr A1 x42_l2.toNat 1)))]) (w' := w) (by kernel_rfl) ?_
  refine WR.st (St.ofR (RSt.loadInt (t := 5) (.tmp 45) (by kernel_rfl) (by kernel_rfl) (by kernel_rfl) (by kernel_rfl) (rdS.up R1 hS.sub0) e48 ?_))
  refine WR.runk [3, 4] [] [5, 8, 9, 10, 11, 40, 41, 42] (L' := [(5, .pointer (some ⟨b26, 0, none⟩)), (8, .pointer (some ⟨b43, 0, none⟩)), (9, .int .i64 x9_l2), (10, .int .i64 x42_l2), (11, .int .u8 v47), (40, .slice A1 l1.length c1), (41, .int .i64 (l1.length : Int)), (42, .int .i64 x42_l2)]) (w' := w) (by kernel_rfl) ?_
  refine WR.nil ?_
  refine At.go ?_
  refine WC.seq (by kernel_rfl) ?_
  refine WC.seq (by kernel_rfl) ?_
  refine WC.reg [0, 1] (by kernel_rfl) (by kernel_rfl) ?_
  refine WR.runk [0, 1] [] [5, 8, 9, 11, 40, 41, 42, 48] (L' := [(5, .pointer (some ⟨b26, 0, none⟩)), (8, .pointer (some ⟨b43, 0, none⟩)), (9, .int .i64 x9_l2), (11, .int .u8 v47), (40, .slice A1 l1.length c1), (41, .int .i64 (l1.length : Int)), (42, .int .i64 x42_l2), (48, .bool (decide (x42_l2 ≥ 100)))]) (w' := w) (by kernel_rfl) ?_
  refine WR.nil ?_
  refine At.go ?_
  refine WC.cond (by kernel_rfl) (decide (x42_l2 ≥ 100)) (by kernel_rfl) (by kernel_rfl) (fun hb49 => ?_) (fun hb49 => ?_)
  · replace H := ite_t H hb49
    refine WC.exit (by kernel_rfl) ?_
    refine At.thenExit ?_
    refine At.miss (by kernel_rfl) ?_
    obtain rfl := Option.some.inj H
    have hS : Sat w (rf w0) [O46 b26 q27_l2, oar 39 (r0 (.int .i64)) 1 9 b43 q45_l2] := hS.sel [0, 1] (by kernel_rfl)
    refine At.weaken [] (L' := []) (by kernel_rfl) ?_
    exact hn0 () _ rfl hS
  · replace H := ite_f H hb49
    refine WC.skip (by kernel_rfl) ?_
    refine At.go ?_
    refine WC.seq (by kernel_rfl) ?_
    refine WC.reg [0, 1, 2, 3, 4, 5, 6, 7, 8] (by kernel_rfl) (by kernel_rfl) ?_
    refine WR.runk [0] [1, 2, 3, 4, 5, 6, 7, 8] [5, 8, 9, 11, 40, 41, 42, 50] (L' := [(5, .pointer (some ⟨b26, 0, none⟩)), (8, .pointer (some ⟨b43, 0, none⟩)), (9, .int .i64 x9_l2), (11, .int .u8 v47), (40, .slice A1 l1.length c1), (41, .int .i64 (l1.length : Int)), (42, .int .i64 x42_l2), (50, .pointer (some ⟨b26, 0, none⟩))]) (w' := w) (by kernel_rfl) ?_
    obtain ⟨r50, e51, H⟩ := bind_ex H
    obtain ⟨B56, hso55, hsub53, hcs54, hb52⟩ := Sat.lend [O46 b26 q27_l2] (cs := [oar 39 (r0 (.int .i64)) 1 9 b43 q45_l2]) hS
    refine WR.st (St.call (by kernel_rfl) (f := 10) (args := #[.pointer (some ⟨b26, 0, none⟩)]) (by kernel_rfl) (fair_Ring_Next.calls B56 w b26 q27_l2 hso55  r50 e51) ?_)
    rintro _ w57 ⟨rfl, hS58⟩
    have hS : Sat w57 (rf w0) [O46 b26 r50.2.2.2, oar 39 (r0 (.int .i64)) 1 9 b43 q45_l2] := hb52 _ _ hS58
    refine WR.runk [2, 3, 4, 5, 6, 7, 8] [] [5, 8, 9, 11, 12, 13, 14, 40, 41, 42] (L' := [(5, .pointer (some ⟨b26, 0, none⟩)), (8, .pointer (some ⟨b43, 0, none⟩)), (9, .int .i64 x9_l2), (11, .int .u8 v47), (12, .int .i64 r50.1), (13, .int .i64 r50.2.1), (14, .bool r50.2.2.1), (40, .slice A1 l1.length c1), (41, .int .i64 (l1.length : Int)), (42, .int .i64 x42_l2)]) (w' := w57) (by kernel_rfl) ?_
    refine WR.nil ?_
    refine At.go ?_
    refine WC.seq (by kernel_rfl) ?_
    refine WC.reg [0, 1, 2, 3, 4, 5, 6, 7, 8] (by kernel_rfl) (by kernel_rfl) ?_
    refine WR.runk [0] [1, 2, 3, 4, 5, 6, 7, 8] [5, 8, 9, 11, 12, 13, 14, 40, 41, 42, 56] (L' := [(5, .pointer (some ⟨b26, 0, none⟩)), (8, .pointer (some ⟨b43, 0, none⟩)), (9, .int .i64 x9_l2), (11, .int .u8 v47), (12, .int .i64 r50.1), (13, .int .i64 r50.2.1), (14, .bool r50.2.2.1), (40, .slice A1 l1.length c1), (41, .int .i64 (l1.length : Int)), (42, .int .i64 x42_l2), (56, .pointer (some ⟨b26, 0, none⟩))]) (w' := w57) (by kernel_rfl) ?_
    obtain ⟨r59, e60, H⟩ := bind_ex H
    obtain ⟨B65, hso64, hsub62, hcs63, hb61⟩ := Sat.lend [O46 b26 r50.2.2.2] (cs := [oar 39 (r0 (.int .i64)) 1 9 b43 q45_l2]) hS
    refine WR.st (St.call (by kernel_rfl) (f := 10) (args := #[.pointer (some ⟨b26, 0, none⟩)]) (by kernel_rfl) (fair_Ring_Next.calls B65 w57 b26 r50.2.2.2 hso64  r59 e60) ?_)
    rintro _ w66 ⟨rfl, hS67⟩
    have hS : Sat w66 (rf w0) [O46 b26 r59.2.2.2, oar 39 (r0 (.int .i64)) 1 9 b43 q45_l2] := hb61 _ _ hS67
    refine WR.runk [2, 3, 4, 5, 6, 7, 8] [] [5, 8, 9, 11, 12, 13, 14, 15, 16, 17, 40, 41, 42] (L' := [(5, .pointer (some ⟨b26, 0, none⟩)), (8, .pointer (some ⟨b43, 0, none⟩)), (9, .int .i64 x9_l2), (11, .int .u8 v47), (12, .int .i64 r50.1), (13, .int .i64 r50.2.1), (14, .bool r50.2.2.1), (15, .int .i64 r59.1), (16, .int .i64 r59.2.1), (17, .bool r59.2.2.1), (40, .slice A1 l1.length c1), (41, .int .i64 (l1.length : Int)), (42, .int .i64 x42_l2)]) (w' := w66) (by kernel_rfl) ?_
    refine WR.nil ?_
    refine At.go ?_
    refine WC.seq (by kernel_rfl) ?_
    obtain ⟨o78, e79, H⟩ := bind_ex H
    refine WC.weaken [5, 8, 9, 11, 12, 13, 14, 15, 16, 17, 40, 41, 42] (L' := [(5, .pointer (some ⟨b26, 0, none⟩)), (8, .pointer (some ⟨b43, 0, none⟩)), (9, .int .i64 x9_l2), (11, .int .u8 v47), (12, .int .i64 r50.1), (13, .int .i64 r50.2.1), (14, .bool r50.2.2.1), (15, .int .i64 r59.1), (16, .int .i64 r59.2.1), (17, .bool r59.2.2.1), (40, .slice A1 l1.length c1), (41, .int .i64 (l1.length : Int)), (42, .int .i64 x42_l2)]) (by kernel_rfl) ?_
    refine colophonlaw23_FairAgain.j2_ok w0 A1 c1 l1 b26 b43 x9_l2 x42_l2 q45_l2 v47 r50 r59 o78 (fun o80 w82 ho83 hS => ?_) (fun o84 w86 ho87 hS => ?_) _ hS e79
    · subst ho83
      dsimp only at H
      refine At.thenRet ?_
      refine At.blockRet ?_
      obtain rfl := Option.some.inj H
      have hS : Sat w82 (rf w0) [O46 b26 r59.2.2.2, oar 39 (r0 (.int .i64)) 1 9 b43 q45_l2] := hS.sel [0, 1] (by kernel_rfl)
      refine At.weaken [4] (L' := [(4, .bool false)]) (by kernel_rfl) ?_
      exact hn1 r59.2.2.2 _ rfl hS
    · subst ho87
      dsimp only at H
      refine At.go ?_
      refine WC.seq (by kernel_rfl) ?_
      obtain ⟨o89, e90, H⟩ := bind_ex H
      refine WC.weaken [5, 8, 9, 11, 13, 14, 40, 41, 42, 65, 66, 67, 70, 71, 72, 75, 76] (L' := [(5, .pointer (some ⟨b26, 0, none⟩)), (8, .pointer (some ⟨b43, 0, none⟩)), (9, .int .i64 x9_l2), (11, .int .u8 v47), (13, .int .i64 r50.2.1), (14, .bool r50.2.2.1), (40, .slice A1 l1.length c1), (41, .int .i64 (l1.length : Int)), (42, .int .i64 x42_l2), (65, .int .i64 o84.1), (66, .int .i64 o84.2.1), (67, .bool o84.2.2.1), (70, .bool o84.2.2.2.1), (71, .bool o84.2.2.2.2.1), (72, .bool o84.2.2.2.2.2.1), (75, .bool o84.2.2.2.2.2.2.1), (76, .bool o84.2.2.2.2.2.2.2)]) (by kernel_rfl) ?_
      refine colophonlaw23_FairAgain.j4_ok w0 A1 c1 l1 b26 b43 x9_l2 x42_l2 q45_l2 v47 r50 r59 o84 o89 (fun w92 hS => ?_) _ hS e90
      refine At.go ?_
      refine WC.seq (by kernel_rfl) ?_
      refine WC.reg [0, 1, 2, 3] (by kernel_rfl) (by kernel_rfl) ?_
      refine WR.runk [0, 1, 2, 3] [] [5, 8, 9, 11, 18, 40, 41, 42, 65, 66, 67, 70, 71, 72, 75, 76] (L' := [(5, .pointer (some ⟨b26, 0, none⟩)), (8, .pointer (some ⟨b43, 0, none⟩)), (9, .int .i64 o89), (11, .int .u8 v47), (18, .int .i64 (wi (Int.tmod v47 9))), (40, .slice A1 l1.length c1), (41, .int .i64 (l1.length : Int)), (42, .int .i64 x42_l2), (65, .int .i64 o84.1), (66, .int .i64 o84.2.1), (67, .bool o84.2.2.1), (70, .bool o84.2.2.2.1), (71, .bool o84.2.2.2.2.1), (72, .bool o84.2.2.2.2.2.1), (75, .bool o84.2.2.2.2.2.2.1), (76, .bool o84.2.2.2.2.2.2.2)]) (w' := w92) (by kernel_rfl) ?_
      refine WR.nil ?_
      refine At.go ?_
      refine WC.seq (by kernel_rfl) ?_
      refine WC.reg [0, 1, 2] (by kernel_rfl) (by kernel_rfl) ?_
      refine WR.runk [0, 1, 2] [] [5, 8, 9, 11, 18, 40, 41, 42, 65, 66, 67, 70, 71, 72, 75, 76, 104] (L' := [(5, .pointer (some ⟨b26, 0, none⟩)), (8, .pointer (some ⟨b43, 0, none⟩)), (9, .int .i64 o89), (11, .int .u8 v47), (18, .int .i64 (wi (Int.tmod v47 9))), (40, .slice A1 l1.length c1), (41, .int .i64 (l1.length : Int)), (42, .int .i64 x42_l2), (65, .int .i64 o84.1), (66, .int .i64 o84.2.1), (67, .bool o84.2.2.1), (70, .bool o84.2.2.2.1), (71, .bool o84.2.2.2.2.1), (72, .bool o84.2.2.2.2.2.1), (75, .bool o84.2.2.2.2.2.2.1), (76, .bool o84.2.2.2.2.2.2.2), (104, .int .u8 (Int.tmod (IntKind.wrap .u8 (Int.tdiv v47 9)) 6))]) (w' := w92) (by kernel_rfl) ?_
      refine WR.nil ?_
      refine At.go ?_
      refine WC.block (by kernel_rfl) ?_
      refine WC.seq (by kernel_rfl) ?_
      refine WC.reg [0, 1] (by kernel_rfl) (by kernel_rfl) ?_
      refine WR.runk [0, 1] [] [5, 8, 9, 11, 18, 40, 41, 42, 65, 66, 67, 70, 71, 72, 75, 76, 104, 113] (L' := [(5, .pointer (some ⟨b26, 0, none⟩)), (8, .pointer (some ⟨b43, 0, none⟩)), (9, .int .i64 o89), (11, .int .u8 v47), (18, .int .i64 (wi (Int.tmod v47 9))), (40, .slice A1 l1.length c1), (41, .int .i64 (l1.length : Int)), (42, .int .i64 x42_l2), (65, .int .i64 o84.1), (66, .int .i64 o84.2.1), (67, .bool o84.2.2.1), (70, .bool o84.2.2.2.1), (71, .bool o84.2.2.2.2.1), (72, .bool o84.2.2.2.2.2.1), (75, .bool o84.2.2.2.2.2.2.1), (76, .bool o84.2.2.2.2.2.2.2), (104, .int .u8 (Int.tmod (IntKind.wrap .u8 (Int.tdiv v47 9)) 6)), (113, .bool ((Int.tmod (IntKind.wrap .u8 (Int.tdiv v47 9)) 6) == 0))]) (w' := w92) (by kernel_rfl) ?_
      refine WR.nil ?_
      refine At.go ?_
      refine WC.cond (by kernel_rfl) ((Int.tmod (IntKind.wrap .u8 (Int.tdiv v47 9)) 6) == 0) (by kernel_rfl) (by kernel_rfl) (fun hb94 => ?_) (fun hb94 => ?_)
      · replace H := ite_t H hb94
        refine WC.seq (by kernel_rfl) ?_
        refine WC.seq (by kernel_rfl) ?_
        refine WC.drawn (by kernel_rfl) (by kernel_rfl) 8 (by kernel_rfl) (fun w95 hw96 => ?_)
        have hS := hS.heap hw96.1 hw96.2
        refine WD.weaken [5, 8, 9, 18, 40, 41, 42, 65, 66, 67, 70, 71, 72, 75, 76] (L' := [(5, .pointer (some ⟨b26, 0, none⟩)), (8, .pointer (some ⟨b43, 0, none⟩)), (9, .int .i64 o89), (18, .int .i64 (wi (Int.tmod v47 9))), (40, .slice A1 l1.length c1), (41, .int .i64 (l1.length : Int)), (42, .int .i64 x42_l2), (65, .int .i64 o84.1), (66, .int .i64 o84.2.1), (67, .bool o84.2.2.1), (70, .bool o84.2.2.2.1), (71, .bool o84.2.2.2.2.1), (72, .bool o84.2.2.2.2.2.1), (75, .bool o84.2.2.2.2.2.2.1), (76, .bool o84.2.2.2.2.2.2.2)]) (by kernel_rfl) ?_
        refine WD.pure (i := 0) (v := .pointer (some ⟨b26, 0, none⟩)) (by kernel_rfl) (by kernel_rfl) (fun _ => by kernel_rfl) ?_
        refine WD.weaken [5, 8, 9, 18, 40, 41, 42, 65, 66, 67, 70, 71, 72, 75, 76, 115] (L' := [(5, .pointer (some ⟨b26, 0, none⟩)), (8, .pointer (some ⟨b43, 0, none⟩)), (9, .int .i64 o89), (18, .int .i64 (wi (Int.tmod v47 9))), (40, .slice A1 l1.length c1), (41, .int .i64 (l1.length : Int)), (42, .int .i64 x42_l2), (65, .int .i64 o84.1), (66, .int .i64 o84.2.1), (67, .bool o84.2.2.1), (70, .bool o84.2.2.2.1), (71, .bool o84.2.2.2.2.1), (72, .bool o84.2.2.2.2.2.1), (75, .bool o84.2.2.2.2.2.2.1), (76, .bool o84.2.2.2.2.2.2.2), (115, .pointer (some ⟨b26, 0, none⟩))]) (by kernel_rfl) ?_
        refine WD.pure (i := 1) (v := .int .i64 (wi (Int.tmod v47 9))) (by kernel_rfl) (by kernel_rfl) (fun _ => by kernel_rfl) ?_
        refine WD.weaken [5, 8, 9, 18, 40, 41, 42, 65, 66, 67, 70, 71, 72, 75, 76, 115, 116] (L' := [(5, .pointer (some ⟨b26, 0, none⟩)), (8, .pointer (some ⟨b43, 0, none⟩)), (9, .int .i64 o89), (18, .int .i64 (wi (Int.tmod v47 9))), (40, .slice A1 l1.length c1), (41, .int .i64 (l1.length : Int)), (42, .int .i64 x42_l2), (65, .int .i64 o84.1), (66, .int .i64 o84.2.1), (67, .bool o84.2.2.1), (70, .bool o84.2.2.2.1), (71, .bool o84.2.2.2.2.1), (72, .bool o84.2.2.2.2.2.1), (75, .bool o84.2.2.2.2.2.2.1), (76, .bool o84.2.2.2.2.2.2.2), (115, .pointer (some ⟨b26, 0, none⟩)), (116, .int .i64 (wi (Int.tmod v47 9)))]) (by kernel_rfl) ?_
        refine WD.pure (i := 3) (v := .int .i64 (wi (Int.tmod v47 9))) (by kernel_rfl) (by kernel_rfl) (fun _ => by kernel_rfl) ?_
        refine WD.weaken [5, 8, 9, 18, 40, 41, 42, 65, 66, 67, 70, 71, 72, 75, 76, 115, 116, 118] (L' := [(5, .pointer (some ⟨b26, 0, none⟩)), (8, .pointer (some ⟨b43, 0, none⟩)), (9, .int .i64 o89), (18, .int .i64 (wi (Int.tmod v47 9))), (40, .slice A1 l1.length c1), (41, .int .i64 (l1.length : Int)), (42, .int .i64 x42_l2), (65, .int .i64 o84.1), (66, .int .i64 o84.2.1), (67, .bool o84.2.2.1), (70, .bool o84.2.2.2.1), (71, .bool o84.2.2.2.2.1), (72, .bool o84.2.2.2.2.2.1), (75, .bool o84.2.2.2.2.2.2.1), (76, .bool o84.2.2.2.2.2.2.2), (115, .pointer (some ⟨b26, 0, none⟩)), (116, .int .i64 (wi (Int.tmod v47 9))), (118, .int .i64 (wi (Int.tmod v47 9)))]) (by kernel_rfl) ?_
        obtain ⟨v97, e98, H⟩ := bind_ex H
        refine WD.ofP (i := 4) (by kernel_rfl) (PSt.idxArr (k := .i64) (t := 39) (e := 3) (sz := 1) (b := b43) (.tmp 8) (.tmp 118) (by kernel_rfl) (by kernel_rfl) (by kernel_rfl) (by kernel_rfl) (by kernel_rfl) (by kernel_rfl) (by kernel_rfl) (Sat.oarAt 1 hS rfl).2 e98 ?_)
        refine WD.weaken [5, 8, 9, 18, 40, 41, 42, 65, 66, 67, 70, 71, 72, 75, 76, 115, 116, 119] (L' := [(5, .pointer (some ⟨b26, 0, none⟩)), (8, .pointer (some ⟨b43, 0, none⟩)), (9, .int .i64 o89), (18, .int .i64 (wi (Int.tmod v47 9))), (40, .slice A1 l1.length c1), (41, .int .i64 (l1.length : Int)), (42, .int .i64 x42_l2), (65, .int .i64 o84.1), (66, .int .i64 o84.2.1), (67, .bool o84.2.2.1), (70, .bool o84.2.2.2.1), (71, .bool o84.2.2.2.2.1), (72, .bool o84.2.2.2.2.2.1), (75, .bool o84.2.2.2.2.2.2.1), (76, .bool o84.2.2.2.2.2.2.2), (115, .pointer (some ⟨b26, 0, none⟩)), (116, .int .i64 (wi (Int.tmod v47 9))), (119, .pointer (some (adr (some ⟨b43, 0, none⟩) (wi (Int.tmod v47 9)).toNat 1)))]) (by kernel_rfl) ?_
        refine WD.ofR (i := 5) (by kernel_rfl) (RSt.loadInt (t := 3) (.tmp 119) (by kernel_rfl) (by kernel_rfl) (by kernel_rfl) (by kernel_rfl) (Sat.oarAt 1 hS rfl).1 e98 ?_)
        refine WD.weaken [5, 8, 9, 18, 40, 41, 42, 65, 66, 67, 70, 71, 72, 75, 76, 115, 116, 120] (L' := [(5, .pointer (some ⟨b26, 0, none⟩)), (8, .pointer (some ⟨b43, 0, none⟩)), (9, .int .i64 o89), (18, .int .i64 (wi (Int.tmod v47 9))), (40, .slice A1 l1.length c1), (41, .int .i64 (l1.length : Int)), (42, .int .i64 x42_l2), (65, .int .i64 o84.1), (66, .int .i64 o84.2.1), (67, .bool o84.2.2.1), (70, .bool o84.2.2.2.1), (71, .bool o84.2.2.2.2.1), (72, .bool o84.2.2.2.2.2.1), (75, .bool o84.2.2.2.2.2.2.1), (76, .bool o84.2.2.2.2.2.2.2), (115, .pointer (some ⟨b26, 0, none⟩)), (116, .int .i64 (wi (Int.tmod v47 9))), (120, .int .i64 v97)]) (by kernel_rfl) ?_
        refine WD.pure (i := 6) (v := .bool (v97 != 2)) (by kernel_rfl) (by kernel_rfl) (fun _ => by kernel_rfl) ?_
        refine WD.weaken [5, 8, 9, 18, 40, 41, 42, 65, 66, 67, 70, 71, 72, 75, 76, 115, 116, 121] (L' := [(5, .pointer (some ⟨b26, 0, none⟩)), (8, .pointer (some ⟨b43, 0, none⟩)), (9, .int .i64 o89), (18, .int .i64 (wi (Int.tmod v47 9))), (40, .slice A1 l1.length c1), (41, .int .i64 (l1.length : Int)), (42, .int .i64 x42_l2), (65, .int .i64 o84.1), (66, .int .i64 o84.2.1), (67, .bool o84.2.2.1), (70, .bool o84.2.2.2.1), (71, .bool o84.2.2.2.2.1), (72, .bool o84.2.2.2.2.2.1), (75, .bool o84.2.2.2.2.2.2.1), (76, .bool o84.2.2.2.2.2.2.2), (115, .pointer (some ⟨b26, 0, none⟩)), (116, .int .i64 (wi (Int.tmod v47 9))), (121, .bool (v97 != 2))]) (by kernel_rfl) ?_
        obtain ⟨r99, e100, H⟩ := bind_ex H
        obtain ⟨B105, hso104, hsub102, hcs103, hb101⟩ := Sat.lend [O46 b26 r59.2.2.2] (cs := [oar 39 (r0 (.int .i64)) 1 9 b43 q45_l2]) hS
        refine WD.act (i := 2) (by kernel_rfl) (St.call (by kernel_rfl) (f := 13) (args := #[.pointer (some ⟨b26, 0, none⟩), .int .i64 (wi (Int.tmod v47 9)), .bool true]) (by kernel_rfl) (fair_Ring_Hold.calls B105 w95 b26 r59.2.2.2 hso104 (wi (Int.tmod v47 9)) true r99 e100) ?_)
        rintro _ w106 ⟨rfl, hS107⟩
        have hS : Sat w106 (rf w0) [O46 b26 r99.2, oar 39 (r0 (.int .i64)) 1 9 b43 q45_l2] := hb101 _ _ hS107
        refine ⟨(asked.cons (RSt.run (n := 156) (RSt.loadInt (t := 3) (.tmp 119) (by kernel_rfl) (by kernel_rfl) (by kernel_rfl) (by kernel_rfl) (Sat.oarAt 1 hS rfl).1 e98 rfl)) (asked.nil _ _)), ?_⟩
        refine WD.weaken [5, 8, 9, 18, 40, 41, 42, 65, 66, 67, 70, 71, 72, 75, 76, 117, 121] (L' := [(5, .pointer (some ⟨b26, 0, none⟩)), (8, .pointer (some ⟨b43, 0, none⟩)), (9, .int .i64 o89), (18, .int .i64 (wi (Int.tmod v47 9))), (40, .slice A1 l1.length c1), (41, .int .i64 (l1.length : Int)), (42, .int .i64 x42_l2), (65, .int .i64 o84.1), (66, .int .i64 o84.2.1), (67, .bool o84.2.2.1), (70, .bool o84.2.2.2.1), (71, .bool o84.2.2.2.2.1), (72, .bool o84.2.2.2.2.2.1), (75, .bool o84.2.2.2.2.2.2.1), (76, .bool o84.2.2.2.2.2.2.2), (117, .bool r99.1), (121, .bool (v97 != 2))]) (by kernel_rfl) ?_
        refine WD.pure (i := 7) (v := .bool (r99.1 != (v97 != 2))) (by kernel_rfl) (by kernel_rfl) (fun _ => by kernel_rfl) ?_
        refine WD.weaken [5, 8, 9, 18, 40, 41, 42, 65, 66, 67, 70, 71, 72, 75, 76, 122] (L' := [(5, .pointer (some ⟨b26, 0, none⟩)), (8, .pointer (some ⟨b43, 0, none⟩)), (9, .int .i64 o89), (18, .int .i64 (wi (Int.tmod v47 9))), (40, .slice A1 l1.length c1), (41, .int .i64 (l1.length : Int)), (42, .int .i64 x42_l2), (65, .int .i64 o84.1), (66, .int .i64 o84.2.1), (67, .bool o84.2.2.1), (70, .bool o84.2.2.2.1), (71, .bool o84.2.2.2.2.1), (72, .bool o84.2.2.2.2.2.1), (75, .bool o84.2.2.2.2.2.2.1), (76, .bool o84.2.2.2.2.2.2.2), (122, .bool (r99.1 != (v97 != 2)))]) (by kernel_rfl) ?_
        refine WD.nil (by kernel_rfl) ?_
        refine At.go ?_
        refine WC.cond (by kernel_rfl) (r99.1 != (v97 != 2)) (by kernel_rfl) (by kernel_rfl) (fun hb108 => ?_) (fun hb108 => ?_)
        · replace H := ite_t H hb108
          refine WC.seq (by kernel_rfl) ?_
          refine WC.reg [0] (by kernel_rfl) (by kernel_rfl) ?_
          refine WR.runk [0] [] [4] (L' := [(4, .bool false)]) (w' := w106) (by kernel_rfl) ?_
          refine WR.nil ?_
          refine At.go ?_
          refine WC.ret (by kernel_rfl) ?_
          refine At.thenRet ?_
          refine At.blockRet ?_
          refine At.blockRet ?_
          obtain rfl := Option.some.inj H
          have hS : Sat w106 (rf w0) [O46 b26 r99.2, oar 39 (r0 (.int .i64)) 1 9 b43 q45_l2] := hS.sel [0, 1] (by kernel_rfl)
          refine At.weaken [4] (L' := [(4, .bool false)]) (by kernel_rfl) ?_
          exact hn1 r99.2 _ rfl hS
        · replace H := ite_f H hb108
          refine WC.skip (by kernel_rfl) ?_
          refine At.go ?_
          refine WC.reg [0, 1, 2, 3, 4, 5, 6] (by kernel_rfl) (by kernel_rfl) ?_
          refine WR.runk [0, 1] [2, 3, 4, 5, 6] [5, 8, 9, 40, 41, 42, 65, 66, 67, 70, 71, 72, 75, 76, 123, 124] (L' := [(5, .pointer (some ⟨b26, 0, none⟩)), (8, .pointer (some ⟨b43, 0, none⟩)), (9, .int .i64 o89), (40, .slice A1 l1.length c1), (41, .int .i64 (l1.length : Int)), (42, .int .i64 x42_l2), (65, .int .i64 o84.1), (66, .int .i64 o84.2.1), (67, .bool o84.2.2.1), (70, .bool o84.2.2.2.1), (71, .bool o84.2.2.2.2.1), (72, .bool o84.2.2.2.2.2.1), (75, .bool o84.2.2.2.2.2.2.1), (76, .bool o84.2.2.2.2.2.2.2), (123, .int .i64 (wi (Int.tmod v47 9))), (124, .int .i64 (wi (Int.tmod v47 9)))]) (w' := w106) (by kernel_rfl) ?_
          obtain ⟨v109, e110, H⟩ := bind_ex H
          refine WR.st (St.ofP (PSt.idxArr (k := .i64) (t := 39) (e := 3) (sz := 1) (b := b43) (.tmp 8) (.tmp 124) (by kernel_rfl) (by kernel_rfl) (by kernel_rfl) (by kernel_rfl) (by kernel_rfl) (by kernel_rfl) (by kernel_rfl) (Sat.oarAt 1 hS rfl).2 e110 ?_))
          refine WR.runk [] [3, 4, 5, 6] [5, 8, 9, 40, 41, 42, 65, 66, 67, 70, 71, 72, 75, 76, 123, 125] (L' := [(5, .pointer (some ⟨b26, 0, none⟩)), (8, .pointer (some ⟨b43, 0, none⟩)), (9, .int .i64 o89), (40, .slice A1 l1.length c1), (41, .int .i64 (l1.length : Int)), (42, .int .i64 x42_l2), (65, .int .i64 o84.1), (66, .int .i64 o84.2.1), (67, .bool o84.2.2.1), (70, .bool o84.2.2.2.1), (71, .bool o84.2.2.2.2.1), (72, .bool o84.2.2.2.2.2.1), (75, .bool o84.2.2.2.2.2.2.1), (76, .bool o84.2.2.2.2.2.2.2), (123, .int .i64 (wi (Int.tmod v47 9))), (125, .pointer (some (adr (some ⟨b43, 0, none⟩) (wi (Int.tmod v47 9)).toNat 1)))]) (w' := w106) (by kernel_rfl) ?_
          refine WR.st (St.ofR (RSt.loadInt (t := 3) (.tmp 125) (by kernel_rfl) (by kernel_rfl) (by kernel_rfl) (by kernel_rfl) (Sat.oarAt 1 hS rfl).1 e110 ?_))
          refine WR.runk [4] [5, 6] [5, 8, 9, 40, 41, 42, 65, 66, 67, 70, 71, 72, 75, 76, 123, 127] (L' := [(5, .pointer (some ⟨b26, 0, none⟩)), (8, .pointer (some ⟨b43, 0, none⟩)), (9, .int .i64 o89), (40, .slice A1 l1.length c1), (41, .int .i64 (l1.length : Int)), (42, .int .i64 x42_l2), (65, .int .i64 o84.1), (66, .int .i64 o84.2.1), (67, .bool o84.2.2.1), (70, .bool o84.2.2.2.1), (71, .bool o84.2.2.2.2.1), (72, .bool o84.2.2.2.2.2.1), (75, .bool o84.2.2.2.2.2.2.1), (76, .bool o84.2.2.2.2.2.2.2), (123, .int .i64 (wi (Int.tmod v47 9))), (127, .int .i64 (imax v109 1))]) (w' := w106) (by kernel_rfl) ?_
          obtain ⟨v111, e112, H⟩ := bind_ex H
          refine WR.st (St.ofP (PSt.idxArr (k := .i64) (t := 39) (e := 3) (sz := 1) (b := b43) (.tmp 8) (.tmp 123) (by kernel_rfl) (by kernel_rfl) (by kernel_rfl) (by kernel_rfl) (by kernel_rfl) (by kernel_rfl) (by kernel_rfl) (Sat.oarAt 1 hS rfl).2 e112 ?_))
          refine WR.runk [] [6] [5, 8, 9, 40, 41, 42, 65, 66, 67, 70, 71, 72, 75, 76, 127, 128] (L' := [(5, .pointer (some ⟨b26, 0, none⟩)), (8, .pointer (some ⟨b43, 0, none⟩)), (9, .int .i64 o89), (40, .slice A1 l1.length c1), (41, .int .i64 (l1.length : Int)), (42, .int .i64 x42_l2), (65, .int .i64 o84.1), (66, .int .i64 o84.2.1), (67, .bool o84.2.2.1), (70, .bool o84.2.2.2.1), (71, .bool o84.2.2.2.2.1), (72, .bool o84.2.2.2.2.2.1), (75, .bool o84.2.2.2.2.2.2.1), (76, .bool o84.2.2.2.2.2.2.2), (127, .int .i64 (imax v109 1)), (128, .pointer (some (adr (some ⟨b43, 0, none⟩) (wi (Int.tmod v47 9)).toNat 1)))]) (w' := w106) (by kernel_rfl) ?_
          have hS : Sat w106 (rf w0) [oar 39 (r0 (.int .i64)) 1 9 b43 q45_l2, O46 b26 r99.2] := hS.sel [1, 0] (by kernel_rfl)
          obtain ⟨y113, e114, H⟩ := bind_ex H
          obtain ⟨hl116, hS⟩ := oar.op hS
          refine WR.st (St.storeElem' (t := 3) (.tmp 128) (.tmp 127) (by kernel_rfl) (by kernel_rfl) (by kernel_rfl) hS (by kernel_rfl) (by kernel_rfl) rfl e114 rfl (fun w115 hS => ?_))
          have hl117 := (set?_len e114).trans hl116
          have hS : Sat w115 (rf w0) [oar 39 (r0 (.int .i64)) 1 9 b43 y113, O46 b26 r99.2] := oar.cl hl117 hS
          refine WR.runk [] [] [5, 8, 9, 40, 41, 42, 65, 66, 67, 70, 71, 72, 75, 76] (L' := [(5, .pointer (some ⟨b26, 0, none⟩)), (8, .pointer (some ⟨b43, 0, none⟩)), (9, .int .i64 o89), (40, .slice A1 l1.length c1), (41, .int .i64 (l1.length : Int)), (42, .int .i64 x42_l2), (65, .int .i64 o84.1), (66, .int .i64 o84.2.1), (67, .bool o84.2.2.1), (70, .bool o84.2.2.2.1), (71, .bool o84.2.2.2.2.1), (72, .bool o84.2.2.2.2.2.1), (75, .bool o84.2.2.2.2.2.2.1), (76, .bool o84.2.2.2.2.2.2.2)]) (w' := w115) (by kernel_rfl) ?_
          refine WR.nil ?_
          refine At.blockNormal ?_
          refine At.blockNormal ?_
          obtain rfl := Option.some.inj H
          have hS : Sat w115 (rf w0) [O46 b26 r99.2, oar 39 (r0 (.int .i64)) 1 9 b43 y113] := hS.sel [1, 0] (by kernel_rfl)
          refine At.weaken [5, 8, 9, 40, 41, 42, 65, 66, 67, 71, 72, 76] (L' := [(5, .pointer (some ⟨b26, 0, none⟩)), (8, .pointer (some ⟨b43, 0, none⟩)), (9, .int .i64 o89), (40, .slice A1 l1.length c1), (41, .int .i64 (l1.length : Int)), (42, .int .i64 x42_l2), (65, .int .i64 o84.1), (66, .int .i64 o84.2.1), (67, .bool o84.2.2.1), (71, .bool o84.2.2.2.2.1), (72, .bool o84.2.2.2.2.2.1), (76, .bool o84.2.2.2.2.2.2.2)]) (by kernel_rfl) ?_
          exact hn2 (o89, o84.1, o84.2.1, o84.2.2.1, o84.2.2.2.2.1, o84.2.2.2.2.2.1, o84.2.2.2.2.2.2.2, r99.2, y113) _ rfl hS
      · replace H := ite_f H hb94
        refine WC.seq (by kernel_rfl) ?_
        refine WC.reg [0, 1] (by kernel_rfl) (by kernel_rfl) ?_
        refine WR.runk [0, 1] [] [5, 8, 9, 11, 18, 40, 41, 42, 65, 66, 67, 70, 71, 72, 75, 76, 104, 129] (L' := [(5, .pointer (some ⟨b26, 0, none⟩)), (8, .pointer (some ⟨b43, 0, none⟩)), (9, .int .i64 o89), (11, .int .u8 v47), (18, .int .i64 (wi (Int.tmod v47 9))), (40, .slice A1 l1.length c1), (41, .int .i64 (l1.length : Int)), (42, .int .i64 x42_l2), (65, .int .i64 o84.1), (66, .int .i64 o84.2.1), (67, .bool o84.2.2.1), (70, .bool o84.2.2.2.1), (71, .bool o84.2.2.2.2.1), (72, .bool o84.2.2.2.2.2.1), (75, .bool o84.2.2.2.2.2.2.1), (76, .bool o84.2.2.2.2.2.2.2), (104, .int .u8 (Int.tmod (IntKind.wrap .u8 (Int.tdiv v47 9)) 6)), (129, .bool ((Int.tmod (IntKind.wrap .u8 (Int.tdiv v47 9)) 6) == 1))]) (w' := w92) (by kernel_rfl) ?_
        refine WR.nil ?_
        refine At.go ?_
        refine WC.cond (by kernel_rfl) ((Int.tmod (IntKind.wrap .u8 (Int.tdiv v47 9)) 6) == 1) (by kernel_rfl) (by kernel_rfl) (fun hb118 => ?_) (fun hb118 => ?_)
        · replace H := ite_t H hb118
          refine WC.seq (by kernel_rfl) ?_
          refine WC.reg [0, 1, 2] (by kernel_rfl) (by kernel_rfl) ?_
          refine WR.runk [0, 1] [2] [5, 8, 9, 18, 40, 41, 42, 65, 66, 67, 70, 71, 72, 75, 76, 131, 132] (L' := [(5, .pointer (some ⟨b26, 0, none⟩)), (8, .pointer (some ⟨b43, 0, none⟩)), (9, .int .i64 o89), (18, .int .i64 (wi (Int.tmod v47 9))), (40, .slice A1 l1.length c1), (41, .int .i64 (l1.length : Int)), (42, .int .i64 x42_l2), (65, .int .i64 o84.1), (66, .int .i64 o84.2.1), (67, .bool o84.2.2.1), (70, .bool o84.2.2.2.1), (71, .bool o84.2.2.2.2.1), (72, .bool o84.2.2.2.2.2.1), (75, .bool o84.2.2.2.2.2.2.1), (76, .bool o84.2.2.2.2.2.2.2), (131, .pointer (some ⟨b26, 0, none⟩)), (132, .int .i64 (wi (Int.tmod v47 9)))]) (w' := w92) (by kernel_rfl) ?_
          obtain ⟨r119, e120, H⟩ := bind_ex H
          obtain ⟨B125, hso124, hsub122, hcs123, hb121⟩ := Sat.lend [O46 b26 r59.2.2.2] (cs := [oar 39 (r0 (.int .i64)) 1 9 b43 q45_l2]) hS
          refine WR.st (St.call (by kernel_rfl) (f := 13) (args := #[.pointer (some ⟨b26, 0, none⟩), .int .i64 (wi (Int.tmod v47 9)), .bool false]) (by kernel_rfl) (fair_Ring_Hold.calls B125 w92 b26 r59.2.2.2 hso124 (wi (Int.tmod v47 9)) false r119 e120) ?_)
          rintro _ w126 ⟨rfl, hS127⟩
          have hS : Sat w126 (rf w0) [O46 b26 r119.2, oar 39 (r0 (.int .i64)) 1 9 b43 q45_l2] := hb121 _ _ hS127
          refine WR.runk [] [] [5, 8, 9, 18, 40, 41, 42, 65, 66, 67, 70, 71, 72, 75, 76] (L' := [(5, .pointer (some ⟨b26, 0, none⟩)), (8, .pointer (some ⟨b43, 0, none⟩)), (9, .int .i64 o89), (18, .int .i64 (wi (Int.tmod v47 9))), (40, .slice A1 l1.length c1), (41, .int .i64 (l1.length : Int)), (42, .int .i64 x42_l2), (65, .int .i64 o84.1), (66, .int .i64 o84.2.1), (67, .bool o84.2.2.1), (70, .bool o84.2.2.2.1), (71, .bool o84.2.2.2.2.1), (72, .bool o84.2.2.2.2.2.1), (75, .bool o84.2.2.2.2.2.2.1), (76, .bool o84.2.2.2.2.2.2.2)]) (w' := w126) (by kernel_rfl) ?_
          refine WR.nil ?_
          refine At.go ?_
          refine WC.seq (by kernel_rfl) ?_
          refine WC.reg [0, 1, 2, 3] (by kernel_rfl) (by kernel_rfl) ?_
          refine WR.runk [0] [1, 2, 3] [5, 8, 9, 18, 40, 41, 42, 65, 66, 67, 70, 71, 72, 75, 76, 134] (L' := [(5, .pointer (some ⟨b26, 0, none⟩)), (8, .pointer (some ⟨b43, 0, none⟩)), (9, .int .i64 o89), (18, .int .i64 (wi (Int.tmod v47 9))), (40, .slice A1 l1.length c1), (41, .int .i64 (l1.length : Int)), (42, .int .i64 x42_l2), (65, .int .i64 o84.1), (66, .int .i64 o84.2.1), (67, .bool o84.2.2.1), (70, .bool o84.2.2.2.1), (71, .bool o84.2.2.2.2.1), (72, .bool o84.2.2.2.2.2.1), (75, .bool o84.2.2.2.2.2.2.1), (76, .bool o84.2.2.2.2.2.2.2), (134, .int .i64 (wi (Int.tmod v47 9)))]) (w' := w126) (by kernel_rfl) ?_
          obtain ⟨v128, e129, H⟩ := bind_ex H
          refine WR.st (St.ofP (PSt.idxArr (k := .i64) (t := 39) (e := 3) (sz := 1) (b := b43) (.tmp 8) (.tmp 134) (by kernel_rfl) (by kernel_rfl) (by kernel_rfl) (by kernel_rfl) (by kernel_rfl) (by kernel_rfl) (by kernel_rfl) (Sat.oarAt 1 hS rfl).2 e129 ?_))
          refine WR.runk [] [2, 3] [5, 8, 9, 18, 40, 41, 42, 65, 66, 67, 70, 71, 72, 75, 76, 135] (L' := [(5, .pointer (some ⟨b26, 0, none⟩)), (8, .pointer (some ⟨b43, 0, none⟩)), (9, .int .i64 o89), (18, .int .i64 (wi (Int.tmod v47 9))), (40, .slice A1 l1.length c1), (41, .int .i64 (l1.length : Int)), (42, .int .i64 x42_l2), (65, .int .i64 o84.1), (66, .int .i64 o84.2.1), (67, .bool o84.2.2.1), (70, .bool o84.2.2.2.1), (71, .bool o84.2.2.2.2.1), (72, .bool o84.2.2.2.2.2.1), (75, .bool o84.2.2.2.2.2.2.1), (76, .bool o84.2.2.2.2.2.2.2), (135, .pointer (some (adr (some ⟨b43, 0, none⟩) (wi (Int.tmod v47 9)).toNat 1)))]) (w' := w126) (by kernel_rfl) ?_
          refine WR.st (St.ofR (RSt.loadInt (t := 3) (.tmp 135) (by kernel_rfl) (by kernel_rfl) (by kernel_rfl) (by kernel_rfl) (Sat.oarAt 1 hS rfl).1 e129 ?_))
          refine WR.runk [3] [] [5, 8, 9, 18, 40, 41, 42, 65, 66, 67, 70, 71, 72, 75, 76, 137] (L' := [(5, .pointer (some ⟨b26, 0, none⟩)), (8, .pointer (some ⟨b43, 0, none⟩)), (9, .int .i64 o89), (18, .int .i64 (wi (Int.tmod v47 9))), (40, .slice A1 l1.length c1), (41, .int .i64 (l1.length : Int)), (42, .int .i64 x42_l2), (65, .int .i64 o84.1), (66, .int .i64 o84.2.1), (67, .bool o84.2.2.1), (70, .bool o84.2.2.2.1), (71, .bool o84.2.2.2.2.1), (72, .bool o84.2.2.2.2.2.1), (75, .bool o84.2.2.2.2.2.2.1), (76, .bool o84.2.2.2.2.2.2.2), (137, .bool (v128 == 1))]) (w' := w126) (by kernel_rfl) ?_
          refine WR.nil ?_
          refine At.go ?_
          refine WC.cond (by kernel_rfl) (v128 == 1) (by kernel_rfl) (by kernel_rfl) (fun hb130 => ?_) (fun hb130 => ?_)
          · replace H := ite_t H hb130
            refine WC.reg [0, 1, 2] (by kernel_rfl) (by kernel_rfl) ?_
            refine WR.runk [0] [1, 2] [5, 8, 9, 40, 41, 42, 65, 66, 67, 70, 71, 72, 75, 76, 138] (L' := [(5, .pointer (some ⟨b26, 0, none⟩)), (8, .pointer (some ⟨b43, 0, none⟩)), (9, .int .i64 o89), (40, .slice A1 l1.length c1), (41, .int .i64 (l1.length : Int)), (42, .int .i64 x42_l2), (65, .int .i64 o84.1), (66, .int .i64 o84.2.1), (67, .bool o84.2.2.1), (70, .bool o84.2.2.2.1), (71, .bool o84.2.2.2.2.1), (72, .bool o84.2.2.2.2.2.1), (75, .bool o84.2.2.2.2.2.2.1), (76, .bool o84.2.2.2.2.2.2.2), (138, .int .i64 (wi (Int.tmod v47 9)))]) (w' := w126) (by kernel_rfl) ?_
            obtain ⟨v131, e132, H⟩ := bind_ex H
            refine WR.st (St.ofP (PSt.idxArr (k := .i64) (t := 39) (e := 3) (sz := 1) (b := b43) (.tmp 8) (.tmp 138) (by kernel_rfl) (by kernel_rfl) (by kernel_rfl) (by kernel_rfl) (by kernel_rfl) (by kernel_rfl) (by kernel_rfl) (Sat.oarAt 1 hS rfl).2 e132 ?_))
            refine WR.runk [] [2] [5, 8, 9, 40, 41, 42, 65, 66, 67, 70, 71, 72, 75, 76, 139] (L' := [(5, .pointer (some ⟨b26, 0, none⟩)), (8, .pointer (some ⟨b43, 0, none⟩)), (9, .int .i64 o89), (40, .slice A1 l1.length c1), (41, .int .i64 (l1.length : Int)), (42, .int .i64 x42_l2), (65, .int .i64 o84.1), (66, .int .i64 o84.2.1), (67, .bool o84.2.2.1), (70, .bool o84.2.2.2.1), (71, .bool o84.2.2.2.2.1), (72, .bool o84.2.2.2.2.2.1), (75, .bool o84.2.2.2.2.2.2.1), (76, .bool o84.2.2.2.2.2.2.2), (139, .pointer (some (adr (some ⟨b43, 0, none⟩) (wi (Int.tmod v47 9)).toNat 1)))]) (w' := w126) (by kernel_rfl) ?_
            have hS : Sat w126 (rf w0) [oar 39 (r0 (.int .i64)) 1 9 b43 q45_l2, O46 b26 r119.2] := hS.sel [1, 0] (by kernel_rfl)
            obtain ⟨y133, e134, H⟩ := bind_ex H
            obtain ⟨hl136, hS⟩ := oar.op hS
            refine WR.st (St.storeElem' (t := 3) (.tmp 139) (.const (.int .i64 0)) (by kernel_rfl) (by kernel_rfl) (by kernel_rfl) hS (by kernel_rfl) (by kernel_rfl) rfl e134 rfl (fun w135 hS => ?_))
            have hl137 := (set?_len e134).trans hl136
            have hS : Sat w135 (rf w0) [oar 39 (r0 (.int .i64)) 1 9 b43 y133, O46 b26 r119.2] := oar.cl hl137 hS
            refine WR.runk [] [] [5, 8, 9, 40, 41, 42, 65, 66, 67, 70, 71, 72, 75, 76] (L' := [(5, .pointer (some ⟨b26, 0, none⟩)), (8, .pointer (some ⟨b43, 0, none⟩)), (9, .int .i64 o89), (40, .slice A1 l1.length c1), (41, .int .i64 (l1.length : Int)), (42, .int .i64 x42_l2), (65, .int .i64 o84.1), (66, .int .i64 o84.2.1), (67, .bool o84.2.2.1), (70, .bool o84.2.2.2.1), (71, .bool o84.2.2.2.2.1), (72, .bool o84.2.2.2.2.2.1), (75, .bool o84.2.2.2.2.2.2.1), (76, .bool o84.2.2.2.2.2.2.2)]) (w' := w135) (by kernel_rfl) ?_
            refine WR.nil ?_
            refine At.blockNormal ?_
            refine At.blockNormal ?_
            obtain rfl := Option.some.inj H
            have hS : Sat w135 (rf w0) [O46 b26 r119.2, oar 39 (r0 (.int .i64)) 1 9 b43 y133] := hS.sel [1, 0] (by kernel_rfl)
            refine At.weaken [5, 8, 9, 40, 41, 42, 65, 66, 67, 71, 72, 76] (L' := [(5, .pointer (some ⟨b26, 0, none⟩)), (8, .pointer (some ⟨b43, 0, none⟩)), (9, .int .i64 o89), (40, .slice A1 l1.length c1), (41, .int .i64 (l1.length : Int)), (42, .int .i64 x42_l2), (65, .int .i64 o84.1), (66, .int .i64 o84.2.1), (67, .bool o84.2.2.1), (71, .bool o84.2.2.2.2.1), (72, .bool o84.2.2.2.2.2.1), (76, .bool o84.2.2.2.2.2.2.2)]) (by kernel_rfl) ?_
            exact hn2 (o89, o84.1, o84.2.1, o84.2.2.1, o84.2.2.2.2.1, o84.2.2.2.2.2.1, o84.2.2.2.2.2.2.2, r119.2, y133) _ rfl hS
          · replace H := ite_f H hb130
            refine WC.skip (by kernel_rfl) ?_
            refine At.blockNormal ?_
            refine At.blockNormal ?_
            obtain rfl := Option.some.inj H
            have hS : Sat w126 (rf w0) [O46 b26 r119.2, oar 39 (r0 (.int .i64)) 1 9 b43 q45_l2] := hS.sel [0, 1] (by kernel_rfl)
            refine At.weaken [5, 8, 9, 40, 41, 42, 65, 66, 67, 71, 72, 76] (L' := [(5, .pointer (some ⟨b26, 0, none⟩)), (8, .pointer (some ⟨b43, 0, none⟩)), (9, .int .i64 o89), (40, .slice A1 l1.length c1), (41, .int .i64 (l1.length : Int)), (42, .int .i64 x42_l2), (65, .int .i64 o84.1), (66, .int .i64 o84.2.1), (67, .bool o84.2.2.1), (71, .bool o84.2.2.2.2.1), (72, .bool o84.2.2.2.2.2.1), (76, .bool o84.2.2.2.2.2.2.2)]) (by kernel_rfl) ?_
            exact hn2 (o89, o84.1, o84.2.1, o84.2.2.1, o84.2.2.2.2.1, o84.2.2.2.2.2.1, o84.2.2.2.2.2.2.2, r119.2, q45_l2) _ rfl hS
        · replace H := ite_f H hb118
          refine WC.seq (by kernel_rfl) ?_
          refine WC.reg [0, 1] (by kernel_rfl) (by kernel_rfl) ?_
          refine WR.runk [0, 1] [] [5, 8, 9, 11, 18, 40, 41, 42, 65, 66, 67, 70, 71, 72, 75, 76, 140] (L' := [(5, .pointer (some ⟨b26, 0, none⟩)), (8, .pointer (some ⟨b43, 0, none⟩)), (9, .int .i64 o89), (11, .int .u8 v47), (18, .int .i64 (wi (Int.tmod v47 9))), (40, .slice A1 l1.length c1), (41, .int .i64 (l1.length : Int)), (42, .int .i64 x42_l2), (65, .int .i64 o84.1), (66, .int .i64 o84.2.1), (67, .bool o84.2.2.1), (70, .bool o84.2.2.2.1), (71, .bool o84.2.2.2.2.1), (72, .bool o84.2.2.2.2.2.1), (75, .bool o84.2.2.2.2.2.2.1), (76, .bool o84.2.2.2.2.2.2.2), (140, .bool ((Int.tmod (IntKind.wrap .u8 (Int.tdiv v47 9)) 6) == 2))]) (w' := w92) (by kernel_rfl) ?_
          refine WR.nil ?_
          refine At.go ?_
          refine WC.cond (by kernel_rfl) ((Int.tmod (IntKind.wrap .u8 (Int.tdiv v47 9)) 6) == 2) (by kernel_rfl) (by kernel_rfl) (fun hb138 => ?_) (fun hb138 => ?_)
          · replace H := ite_t H hb138
            refine WC.seq (by kernel_rfl) ?_
            refine WC.seq (by kernel_rfl) ?_
            refine WC.drawn (by kernel_rfl) (by kernel_rfl) 8 (by kernel_rfl) (fun w139 hw140 => ?_)
            have hS := hS.heap hw140.1 hw140.2
            refine WD.weaken [5, 8, 9, 18, 40, 41, 42, 65, 66, 67, 70, 71, 72, 75, 76] (L' := [(5, .pointer (some ⟨b26, 0, none⟩)), (8, .pointer (some ⟨b43, 0, none⟩)), (9, .int .i64 o89), (18, .int .i64 (wi (Int.tmod v47 9))), (40, .slice A1 l1.length c1), (41, .int .i64 (l1.length : Int)), (42, .int .i64 x42_l2), (65, .int .i64 o84.1), (66, .int .i64 o84.2.1), (67, .bool o84.2.2.1), (70, .bool o84.2.2.2.1), (71, .bool o84.2.2.2.2.1), (72, .bool o84.2.2.2.2.2.1), (75, .bool o84.2.2.2.2.2.2.1), (76, .bool o84.2.2.2.2.2.2.2)]) (by kernel_rfl) ?_
            refine WD.pure (i := 0) (v := .pointer (some ⟨b26, 0, none⟩)) (by kernel_rfl) (by kernel_rfl) (fun _ => by kernel_rfl) ?_
            refine WD.weaken [5, 8, 9, 18, 40, 41, 42, 65, 66, 67, 70, 71, 72, 75, 76, 142] (L' := [(5, .pointer (some ⟨b26, 0, none⟩)), (8, .pointer (some ⟨b43, 0, none⟩)), (9, .int .i64 o89), (18, .int .i64 (wi (Int.tmod v47 9))), (40, .slice A1 l1.length c1), (41, .int .i64 (l1.length : Int)), (42, .int .i64 x42_l2), (65, .int .i64 o84.1), (66, .int .i64 o84.2.1), (67, .bool o84.2.2.1), (70, .bool o84.2.2.2.1), (71, .bool o84.2.2.2.2.1), (72, .bool o84.2.2.2.2.2.1), (75, .bool o84.2.2.2.2.2.2.1), (76, .bool o84.2.2.2.2.2.2.2), (142, .pointer (some ⟨b26, 0, none⟩))]) (by kernel_rfl) ?_
            refine WD.pure (i := 1) (v := .int .i64 (wi (Int.tmod v47 9))) (by kernel_rfl) (by kernel_rfl) (fun _ => by kernel_rfl) ?_
            refine WD.weaken [5, 8, 9, 18, 40, 41, 42, 65, 66, 67, 70, 71, 72, 75, 76, 142, 143] (L' := [(5, .pointer (some ⟨b26, 0, none⟩)), (8, .pointer (some ⟨b43, 0, none⟩)), (9, .int .i64 o89), (18, .int .i64 (wi (Int.tmod v47 9))), (40, .slice A1 l1.length c1), (41, .int .i64 (l1.length : Int)), (42, .int .i64 x42_l2), (65, .int .i64 o84.1), (66, .int .i64 o84.2.1), (67, .bool o84.2.2.1), (70, .bool o84.2.2.2.1), (71, .bool o84.2.2.2.2.1), (72, .bool o84.2.2.2.2.2.1), (75, .bool o84.2.2.2.2.2.2.1), (76, .bool o84.2.2.2.2.2.2.2), (142, .pointer (some ⟨b26, 0, none⟩)), (143, .int .i64 (wi (Int.tmod v47 9)))]) (by kernel_rfl) ?_
            refine WD.pure (i := 3) (v := .int .i64 (wi (Int.tmod v47 9))) (by kernel_rfl) (by kernel_rfl) (fun _ => by kernel_rfl) ?_
            refine WD.weaken [5, 8, 9, 18, 40, 41, 42, 65, 66, 67, 70, 71, 72, 75, 76, 142, 143, 145] (L' := [(5, .pointer (some ⟨b26, 0, none⟩)), (8, .pointer (some ⟨b43, 0, none⟩)), (9, .int .i64 o89), (18, .int .i64 (wi (Int.tmod v47 9))), (40, .slice A1 l1.length c1), (41, .int .i64 (l1.length : Int)), (42, .int .i64 x42_l2), (65, .int .i64 o84.1), (66, .int .i64 o84.2.1), (67, .bool o84.2.2.1), (70, .bool o84.2.2.2.1), (71, .bool o84.2.2.2.2.1), (72, .bool o84.2.2.2.2.2.1), (75, .bool o84.2.2.2.2.2.2.1), (76, .bool o84.2.2.2.2.2.2.2), (142, .pointer (some ⟨b26, 0, none⟩)), (143, .int .i64 (wi (Int.tmod v47 9))), (145, .int .i64 (wi (Int.tmod v47 9)))]) (by kernel_rfl) ?_
            obtain ⟨v141, e142, H⟩ := bind_ex H
            refine WD.ofP (i := 4) (by kernel_rfl) (PSt.idxArr (k := .i64) (t := 39) (e := 3) (sz := 1) (b := b43) (.tmp 8) (.tmp 145) (by kernel_rfl) (by kernel_rfl) (by kernel_rfl) (by kernel_rfl) (by kernel_rfl) (by kernel_rfl) (by kernel_rfl) (Sat.oarAt 1 hS rfl).2 e142 ?_)
            refine WD.weaken [5, 8, 9, 18, 40, 41, 42, 65, 66, 67, 70, 71, 72, 75, 76, 142, 143, 146] (L' := [(5, .pointer (some ⟨b26, 0, none⟩)), (8, .pointer (some ⟨b43, 0, none⟩)), (9, .int .i64 o89), (18, .int .i64 (wi (Int.tmod v47 9))), (40, .slice A1 l1.length c1), (41, .int .i64 (l1.length : Int)), (42, .int .i64 x42_l2), (65, .int .i64 o84.1), (66, .int .i64 o84.2.1), (67, .bool o84.2.2.1), (70, .bool o84.2.2.2.1), (71, .bool o84.2.2.2.2.1), (72, .bool o84.2.2.2.2.2.1), (75, .bool o84.2.2.2.2.2.2.1), (76, .bool o84.2.2.2.2.2.2.2), (142, .pointer (some ⟨b26, 0, none⟩)), (143, .int .i64 (wi (Int.tmod v47 9))), (146, .pointer (some (adr (some ⟨b43, 0, none⟩) (wi (Int.tmod v47 9)).toNat 1)))]) (by kernel_rfl) ?_
            refine WD.ofR (i := 5) (by kernel_rfl) (RSt.loadInt (t := 3) (.tmp 146) (by kernel_rfl) (by kernel_rfl) (by kernel_rfl) (by kernel_rfl) (Sat.oarAt 1 hS rfl).1 e142 ?_)
            refine WD.weaken [5, 8, 9, 18, 40, 41, 42, 65, 66, 67, 70, 71, 72, 75, 76, 142, 143, 147] (L' := [(5, .pointer (some ⟨b26, 0, none⟩)), (8, .pointer (some ⟨b43, 0, none⟩)), (9, .int .i64 o89), (18, .int .i64 (wi (Int.tmod v47 9))), (40, .slice A1 l1.length c1), (41, .int .i64 (l1.length : Int)), (42, .int .i64 x42_l2), (65, .int .i64 o84.1), (66, .int .i64 o84.2.1), (67, .bool o84.2.2.1), (70, .bool o84.2.2.2.1), (71, .bool o84.2.2.2.2.1), (72, .bool o84.2.2.2.2.2.1), (75, .bool o84.2.2.2.2.2.2.1), (76, .bool o84.2.2.2.2.2.2.2), (142, .pointer (some ⟨b26, 0, none⟩)), (143, .int .i64 (wi (Int.tmod v47 9))), (147, .int .i64 v141)]) (by kernel_rfl) ?_
            refine WD.pure (i := 6) (v := .bool (v141 != 2)) (by kernel_rfl) (by kernel_rfl) (fun _ => by kernel_rfl) ?_
            refine WD.weaken [5, 8, 9, 18, 40, 41, 42, 65, 66, 67, 70, 71, 72, 75, 76, 142, 143, 148] (L' := [(5, .pointer (some ⟨b26, 0, none⟩)), (8, .pointer (some ⟨b43, 0, none⟩)), (9, .int .i64 o89), (18, .int .i64 (wi (Int.tmod v47 9))), (40, .slice A1 l1.length c1), (41, .int .i64 (l1.length : Int)), (42, .int .i64 x42_l2), (65, .int .i64 o84.1), (66, .int .i64 o84.2.1), (67, .bool o84.2.2.1), (70, .bool o84.2.2.2.1), (71, .bool o84.2.2.2.2.1), (72, .bool o84.2.2.2.2.2.1), (75, .bool o84.2.2.2.2.2.2.1), (76, .bool o84.2.2.2.2.2.2.2), (142, .pointer (some ⟨b26, 0, none⟩)), (143, .int .i64 (wi (Int.tmod v47 9))), (148, .bool (v141 != 2))]) (by kernel_rfl) ?_
            obtain ⟨r143, e144, H⟩ := bind_ex H
            obtain ⟨B149, hso148, hsub146, hcs147, hb145⟩ := Sat.lend [O46 b26 r59.2.2.2] (cs := [oar 39 (r0 (.int .i64)) 1 9 b43 q45_l2]) hS
            refine WD.act (i := 2) (by kernel_rfl) (St.call (by kernel_rfl) (f := 14) (args := #[.pointer (some ⟨b26, 0, none⟩), .int .i64 (wi (Int.tmod v47 9))]) (by kernel_rfl) (fair_Ring_Take.calls B149 w139 b26 r59.2.2.2 hso148 (wi (Int.tmod v47 9)) r143 e144) ?_)
            rintro _ w150 ⟨rfl, hS151⟩
            have hS : Sat w150 (rf w0) [O46 b26 r143.2, oar 39 (r0 (.int .i64)) 1 9 b43 q45_l2] := hb145 _ _ hS151
            refine ⟨(asked.cons (RSt.run (n := 156) (RSt.loadInt (t := 3) (.tmp 146) (by kernel_rfl) (by kernel_rfl) (by kernel_rfl) (by kernel_rfl) (Sat.oarAt 1 hS rfl).1 e142 rfl)) (asked.nil _ _)), ?_⟩
            refine WD.weaken [5, 8, 9, 18, 40, 41, 42, 65, 66, 67, 70, 71, 72, 75, 76, 144, 148] (L' := [(5, .pointer (some ⟨b26, 0, none⟩)), (8, .pointer (some ⟨b43, 0, none⟩)), (9, .int .i64 o89), (18, .int .i64 (wi (Int.tmod v47 9))), (40, .slice A1 l1.length c1), (41, .int .i64 (l1.length : Int)), (42, .int .i64 x42_l2), (65, .int .i64 o84.1), (66, .int .i64 o84.2.1), (67, .bool o84.2.2.1), (70, .bool o84.2.2.2.1), (71, .bool o84.2.2.2.2.1), (72, .bool o84.2.2.2.2.2.1), (75, .bool o84.2.2.2.2.2.2.1), (76, .bool o84.2.2.2.2.2.2.2), (144, .bool r143.1), (148, .bool (v141 != 2))]) (by kernel_rfl) ?_
            refine WD.pure (i := 7) (v := .bool (r143.1 != (v141 != 2))) (by kernel_rfl) (by kernel_rfl) (fun _ => by kernel_rfl) ?_
            refine WD.weaken [5, 8, 9, 18, 40, 41, 42, 65, 66, 67, 70, 71, 72, 75, 76, 149] (L' := [(5, .pointer (some ⟨b26, 0, none⟩)), (8, .pointer (some ⟨b43, 0, none⟩)), (9, .int .i64 o89), (18, .int .i64 (wi (Int.tmod v47 9))), (40, .slice A1 l1.length c1), (41, .int .i64 (l1.length : Int)), (42, .int .i64 x42_l2), (65, .int .i64 o84.1), (66, .int .i64 o84.2.1), (67, .bool o84.2.2.1), (70, .bool o84.2.2.2.1), (71, .bool o84.2.2.2.2.1), (72, .bool o84.2.2.2.2.2.1), (75, .bool o84.2.2.2.2.2.2.1), (76, .bool o84.2.2.2.2.2.2.2), (149, .bool (r143.1 != (v141 != 2)))]) (by kernel_rfl) ?_
            refine WD.nil (by kernel_rfl) ?_
            refine At.go ?_
            refine WC.cond (by kernel_rfl) (r143.1 != (v141 != 2)) (by kernel_rfl) (by kernel_rfl) (fun hb152 => ?_) (fun hb152 => ?_)
            · replace H := ite_t H hb152
              refine WC.seq (by kernel_rfl) ?_
              refine WC.reg [0] (by kernel_rfl) (by kernel_rfl) ?_
              refine WR.runk [0] [] [4] (L' := [(4, .bool false)]) (w' := w150) (by kernel_rfl) ?_
              refine WR.nil ?_
              refine At.go ?_
              refine WC.ret (by kernel_rfl) ?_
              refine At.thenRet ?_
              refine At.blockRet ?_
              refine At.blockRet ?_
              obtain rfl := Option.some.inj H
              have hS : Sat w150 (rf w0) [O46 b26 r143.2, oar 39 (r0 (.int .i64)) 1 9 b43 q45_l2] := hS.sel [0, 1] (by kernel_rfl)
              refine At.weaken [4] (L' := [(4, .bool false)]) (by kernel_rfl) ?_
              exact hn1 r143.2 _ rfl hS
            · replace H := ite_f H hb152
              refine WC.skip (by kernel_rfl) ?_
              refine At.go ?_
              refine WC.seq (by kernel_rfl) ?_
              refine WC.reg [0, 1, 2] (by kernel_rfl) (by kernel_rfl) ?_
              refine WR.runk [0] [1, 2] [5, 8, 9, 18, 40, 41, 42, 65, 66, 67, 70, 71, 72, 75, 76, 150] (L' := [(5, .pointer (some ⟨b26, 0, none⟩)), (8, .pointer (some ⟨b43, 0, none⟩)), (9, .int .i64 o89), (18, .int .i64 (wi (Int.tmod v47 9))), (40, .slice A1 l1.length c1), (41, .int .i64 (l1.length : Int)), (42, .int .i64 x42_l2), (65, .int .i64 o84.1), (66, .int .i64 o84.2.1), (67, .bool o84.2.2.1), (70, .bool o84.2.2.2.1), (71, .bool o84.2.2.2.2.1), (72, .bool o84.2.2.2.2.2.1), (75, .bool o84.2.2.2.2.2.2.1), (76, .bool o84.2.2.2.2.2.2.2), (150, .int .i64 (wi (Int.tmod v47 9)))]) (w' := w150) (by kernel_rfl) ?_
              obtain ⟨v153, e154, H⟩ := bind_ex H
              refine WR.st (St.ofP (PSt.idxArr (k := .i64) (t := 39) (e := 3) (sz := 1) (b := b43) (.tmp 8) (.tmp 150) (by kernel_rfl) (by kernel_rfl) (by kernel_rfl) (by kernel_rfl) (by kernel_rfl) (by kernel_rfl) (by kernel_rfl) (Sat.oarAt 1 hS rfl).2 e154 ?_))
              refine WR.runk [] [2] [5, 8, 9, 18, 40, 41, 42, 65, 66, 67, 70, 71, 72, 75, 76, 151] (L' := [(5, .pointer (some ⟨b26, 0, none⟩)), (8, .pointer (some ⟨b43, 0, none⟩)), (9, .int .i64 o89), (18, .int .i64 (wi (Int.tmod v47 9))), (40, .slice A1 l1.length c1), (41, .int .i64 (l1.length : Int)), (42, .int .i64 x42_l2), (65, .int .i64 o84.1), (66, .int .i64 o84.2.1), (67, .bool o84.2.2.1), (70, .bool o84.2.2.2.1), (71, .bool o84.2.2.2.2.1), (72, .bool o84.2.2.2.2.2.1), (75, .bool o84.2.2.2.2.2.2.1), (76, .bool o84.2.2.2.2.2.2.2), (151, .pointer (some (adr (some ⟨b43, 0, none⟩) (wi (Int.tmod v47 9)).toNat 1)))]) (w' := w150) (by kernel_rfl) ?_
              have hS : Sat w150 (rf w0) [oar 39 (r0 (.int .i64)) 1 9 b43 q45_l2, O46 b26 r143.2] := hS.sel [1, 0] (by kernel_rfl)
              obtain ⟨y155, e156, H⟩ := bind_ex H
              obtain ⟨hl158, hS⟩ := oar.op hS
              refine WR.st (St.storeElem' (t := 3) (.tmp 151) (.const (.int .i64 2)) (by kernel_rfl) (by kernel_rfl) (by kernel_rfl) hS (by kernel_rfl) (by kernel_rfl) rfl e156 rfl (fun w157 hS => ?_))
              have hl159 := (set?_len e156).trans hl158
              have hS : Sat w157 (rf w0) [oar 39 (r0 (.int .i64)) 1 9 b43 y155, O46 b26 r143.2] := oar.cl hl159 hS
              refine WR.runk [] [] [5, 8, 9, 18, 40, 41, 42, 65, 66, 67, 70, 71, 72, 75, 76] (L' := [(5, .pointer (some ⟨b26, 0, none⟩)), (8, .pointer (some ⟨b43, 0, none⟩)), (9, .int .i64 o89), (18, .int .i64 (wi (Int.tmod v47 9))), (40, .slice A1 l1.length c1), (41, .int .i64 (l1.length : Int)), (42, .int .i64 x42_l2), (65, .int .i64 o84.1), (66, .int .i64 o84.2.1), (67, .bool o84.2.2.1), (70, .bool o84.2.2.2.1), (71, .bool o84.2.2.2.2.1), (72, .bool o84.2.2.2.2.2.1), (75, .bool o84.2.2.2.2.2.2.1), (76, .bool o84.2.2.2.2.2.2.2)]) (w' := w157) (by kernel_rfl) ?_
              refine WR.nil ?_
              refine At.go ?_
              refine WC.seq (by kernel_rfl) ?_
              refine WC.reg [0, 1, 2] (by kernel_rfl) (by kernel_rfl) ?_
              refine WR.runk [0, 1, 2] [] [5, 8, 9, 40, 41, 42, 65, 66, 67, 70, 71, 72, 75, 76, 154] (L' := [(5, .pointer (some ⟨b26, 0, none⟩)), (8, .pointer (some ⟨b43, 0, none⟩)), (9, .int .i64 o89), (40, .slice A1 l1.length c1), (41, .int .i64 (l1.length : Int)), (42, .int .i64 x42_l2), (65, .int .i64 o84.1), (66, .int .i64 o84.2.1), (67, .bool o84.2.2.1), (70, .bool o84.2.2.2.1), (71, .bool o84.2.2.2.2.1), (72, .bool o84.2.2.2.2.2.1), (75, .bool o84.2.2.2.2.2.2.1), (76, .bool o84.2.2.2.2.2.2.2), (154, .bool (o89 == (wi (Int.tmod v47 9))))]) (w' := w157) (by kernel_rfl) ?_
              refine WR.nil ?_
              refine At.go ?_
              refine WC.cond (by kernel_rfl) (o89 == (wi (Int.tmod v47 9))) (by kernel_rfl) (by kernel_rfl) (fun hb160 => ?_) (fun hb160 => ?_)
              · replace H := ite_t H hb160
                refine WC.reg [0] (by kernel_rfl) (by kernel_rfl) ?_
                refine WR.runk [0] [] [5, 8, 9, 40, 41, 42, 65, 66, 67, 70, 71, 72, 75, 76] (L' := [(5, .pointer (some ⟨b26, 0, none⟩)), (8, .pointer (some ⟨b43, 0, none⟩)), (9, .int .i64 (-1)), (40, .slice A1 l1.length c1), (41, .int .i64 (l1.length : Int)), (42, .int .i64 x42_l2), (65, .int .i64 o84.1), (66, .int .i64 o84.2.1), (67, .bool o84.2.2.1), (70, .bool o84.2.2.2.1), (71, .bool o84.2.2.2.2.1), (72, .bool o84.2.2.2.2.2.1), (75, .bool o84.2.2.2.2.2.2.1), (76, .bool o84.2.2.2.2.2.2.2)]) (w' := w157) (by kernel_rfl) ?_
                refine WR.nil ?_
                refine At.blockNormal ?_
                refine At.blockNormal ?_
                obtain rfl := Option.some.inj H
                have hS : Sat w157 (rf w0) [O46 b26 r143.2, oar 39 (r0 (.int .i64)) 1 9 b43 y155] := hS.sel [1, 0] (by kernel_rfl)
                refine At.weaken [5, 8, 9, 40, 41, 42, 65, 66, 67, 71, 72, 76] (L' := [(5, .pointer (some ⟨b26, 0, none⟩)), (8, .pointer (some ⟨b43, 0, none⟩)), (9, .int .i64 (-1)), (40, .slice A1 l1.length c1), (41, .int .i64 (l1.length : Int)), (42, .int .i64 x42_l2), (65, .int .i64 o84.1), (66, .int .i64 o84.2.1), (67, .bool o84.2.2.1), (71, .bool o84.2.2.2.2.1), (72, .bool o84.2.2.2.2.2.1), (76, .bool o84.2.2.2.2.2.2.2)]) (by kernel_rfl) ?_
                exact hn2 ((-1), o84.1, o84.2.1, o84.2.2.1, o84.2.2.2.2.1, o84.2.2.2.2.2.1, o84.2.2.2.2.2.2.2, r143.2, y155) _ rfl hS
              · replace H := ite_f H hb160
                refine WC.skip (by kernel_rfl) ?_
                refine At.blockNormal ?_
                refine At.blockNormal ?_
                obtain rfl := Option.some.inj H
                have hS : Sat w157 (rf w0) [O46 b26 r143.2, oar 39 (r0 (.int .i64)) 1 9 b43 y155] := hS.sel [1, 0] (by kernel_rfl)
                refine At.weaken [5, 8, 9, 40, 41, 42, 65, 66, 67, 71, 72, 76] (L' := [(5, .pointer (some ⟨b26, 0, none⟩)), (8, .pointer (some ⟨b43, 0, none⟩)), (9, .int .i64 o89), (40, .slice A1 l1.length c1), (41, .int .i64 (l1.length : Int)), (42, .int .i64 x42_l2), (65, .int .i64 o84.1), (66, .int .i64 o84.2.1), (67, .bool o84.2.2.1), (71, .bool o84.2.2.2.2.1), (72, .bool o84.2.2.2.2.2.1), (76, .bool o84.2.2.2.2.2.2.2)]) (by kernel_rfl) ?_
                exact hn2 (o89, o84.1, o84.2.1, o84.2.2.1, o84.2.2.2.2.1, o84.2.2.2.2.2.1, o84.2.2.2.2.2.2.2, r143.2, y155) _ rfl hS
          · replace H := ite_f H hb138
            refine WC.seq (by kernel_rfl) ?_
            refine WC.seq (by kernel_rfl) ?_
            refine WC.reg [0, 1, 2, 3, 4, 5, 6, 7] (by kernel_rfl) (by kernel_rfl) ?_
            refine WR.runk [0, 1, 2, 3] [4, 5, 6, 7] [5, 8, 9, 40, 41, 42, 65, 66, 67, 70, 71, 72, 75, 76, 105, 108] (L' := [(5, .pointer (some ⟨b26, 0, none⟩)), (8, .pointer (some ⟨b43, 0, none⟩)), (9, .int .i64 o89), (40, .slice A1 l1.length c1), (41, .int .i64 (l1.length : Int)), (42, .int .i64 x42_l2), (65, .int .i64 o84.1), (66, .int .i64 o84.2.1), (67, .bool o84.2.2.1), (70, .bool o84.2.2.2.1), (71, .bool o84.2.2.2.2.1), (72, .bool o84.2.2.2.2.2.1), (75, .bool o84.2.2.2.2.2.2.1), (76, .bool o84.2.2.2.2.2.2.2), (105, .pointer (some ⟨b26, 0, none⟩)), (108, .int .i64 (wi (Int.tmod v47 4)))]) (w' := w92) (by kernel_rfl) ?_
            obtain ⟨r161, e162, H⟩ := bind_ex H
            obtain ⟨B167, hso166, hsub164, hcs165, hb163⟩ := Sat.lend [O46 b26 r59.2.2.2] (cs := [oar 39 (r0 (.int .i64)) 1 9 b43 q45_l2]) hS
            refine WR.st (St.call (by kernel_rfl) (f := 11) (args := #[.pointer (some ⟨b26, 0, none⟩), .int .i64 (wi (Int.tmod v47 4))]) (by kernel_rfl) (fair_Ring_Charge.calls B167 w92 b26 r59.2.2.2 hso166 (wi (Int.tmod v47 4)) r161 e162) ?_)
            rintro _ w168 ⟨rfl, hS169⟩
            have hS : Sat w168 (rf w0) [O46 b26 r161.2, oar 39 (r0 (.int .i64)) 1 9 b43 q45_l2] := hb163 _ _ hS169
            refine WR.runk [5, 6, 7] [] [5, 8, 40, 41, 42, 65, 66, 67, 70, 71, 72, 75, 76, 112] (L' := [(5, .pointer (some ⟨b26, 0, none⟩)), (8, .pointer (some ⟨b43, 0, none⟩)), (40, .slice A1 l1.length c1), (41, .int .i64 (l1.length : Int)), (42, .int .i64 x42_l2), (65, .int .i64 o84.1), (66, .int .i64 o84.2.1), (67, .bool o84.2.2.1), (70, .bool o84.2.2.2.1), (71, .bool o84.2.2.2.2.1), (72, .bool o84.2.2.2.2.2.1), (75, .bool o84.2.2.2.2.2.2.1), (76, .bool o84.2.2.2.2.2.2.2), (112, .bool (r161.1 != (decide (o89 ≥ 0))))]) (w' := w168) (by kernel_rfl) ?_
            refine WR.nil ?_
            refine At.go ?_
            refine WC.cond (by kernel_rfl) (r161.1 != (decide (o89 ≥ 0))) (by kernel_rfl) (by kernel_rfl) (fun hb170 => ?_) (fun hb170 => ?_)
            · replace H := ite_t H hb170
              refine WC.seq (by kernel_rfl) ?_
              refine WC.reg [0] (by kernel_rfl) (by kernel_rfl) ?_
              refine WR.runk [0] [] [4] (L' := [(4, .bool false)]) (w' := w168) (by kernel_rfl) ?_
              refine WR.nil ?_
              refine At.go ?_
              refine WC.ret (by kernel_rfl) ?_
              refine At.thenRet ?_
              refine At.blockRet ?_
              refine At.blockRet ?_
              obtain rfl := Option.some.inj H
              have hS : Sat w168 (rf w0) [O46 b26 r161.2, oar 39 (r0 (.int .i64)) 1 9 b43 q45_l2] := hS.sel [0, 1] (by kernel_rfl)
              refine At.weaken [4] (L' := [(4, .bool false)]) (by kernel_rfl) ?_
              exact hn1 r161.2 _ rfl hS
            · replace H := ite_f H hb170
              refine WC.skip (by kernel_rfl) ?_
              refine At.go ?_
              refine WC.reg [0] (by kernel_rfl) (by kernel_rfl) ?_
              refine WR.runk [0] [] [5, 8, 9, 40, 41, 42, 65, 66, 67, 70, 71, 72, 75, 76] (L' := [(5, .pointer (some ⟨b26, 0, none⟩)), (8, .pointer (some ⟨b43, 0, none⟩)), (9, .int .i64 (-1)), (40, .slice A1 l1.length c1), (41, .int .i64 (l1.length : Int)), (42, .int .i64 x42_l2), (65, .int .i64 o84.1), (66, .int .i64 o84.2.1), (67, .bool o84.2.2.1), (70, .bool o84.2.2.2.1), (71, .bool o84.2.2.2.2.1), (72, .bool o84.2.2.2.2.2.1), (75, .bool o84.2.2.2.2.2.2.1), (76, .bool o84.2.2.2.2.2.2.2)]) (w' := w168) (by kernel_rfl) ?_
              refine WR.nil ?_
              refine At.blockNormal ?_
              refine At.blockNormal ?_
              obtain rfl := Option.some.inj H
              have hS : Sat w168 (rf w0) [O46 b26 r161.2, oar 39 (r0 (.int .i64)) 1 9 b43 q45_l2] := hS.sel [0, 1] (by kernel_rfl)
              refine At.weaken [5, 8, 9, 40, 41, 42, 65, 66, 67, 71, 72, 76] (L' := [(5, .pointer (some ⟨b26, 0, none⟩)), (8, .pointer (some ⟨b43, 0, none⟩)), (9, .int .i64 (-1)), (40, .slice A1 l1.length c1), (41, .int .i64 (l1.length : Int)), (42, .int .i64 x42_l2), (65, .int .i64 o84.1), (66, .int .i64 o84.2.1), (67, .bool o84.2.2.1), (71, .bool o84.2.2.2.2.1), (72, .bool o84.2.2.2.2.2.1), (76, .bool o84.2.2.2.2.2.2.2)]) (by kernel_rfl) ?_
              exact hn2 ((-1), o84.1, o84.2.1, o84.2.2.1, o84.2.2.2.2.1, o84.2.2.2.2.2.1, o84.2.2.2.2.2.2.2, r161.2, q45_l2) _ rfl hS
theorem colophonlaw23_FairAgain.l2_ok {Q} (w0 : World) (A1 : Option Addr) (c1 : Nat) (l1 : List Int) (b26 : Nat) (b43 : Nat) (R1 : rdS (r0 (.int .u8)) 1 (hp w0) A1 c1 l1) (out : Sum ((Int × (List (Option (Int × Int × Int × (List (Int × Bool))))) × Int × Bool × Int × Bool) × (List Int)) (Bool × (Int × (List (Option (Int × Int × Int × (List (Int × Bool))))) × Int × Bool × Int × Bool) × (List Int))) (hn0 : ∀ (o0 : (Int × (List (Option (Int × Int × Int × (List (Int × Bool))))) × Int × Bool × Int × Bool) × (List Int)) (w : World), out = (.inl o0) → Sat w (rf w0) [O46 b26 o0.1, oar 39 (r0 (.int .i64)) 1 9 b43 o0.2] → At Q (.exit 2) 156 [] w) (hn1 : ∀ (o1 : Bool × (Int × (List (Option (Int × Int × Int × (List (Int × Bool))))) × Int × Bool × Int × Bool) × (List Int)) (w : World), out = (.inr o1) → Sat w (rf w0) [O46 b26 o1.2.1, oar 39 (r0 (.int .i64)) 1 9 b43 o1.2.2] → At Q .ret 156 [(4, .bool o1.1)] w) :
    ∀ (k : Nat) (x9_l2 : Int) (x42_l2 : Int) (q27_l2 : Int × (List (Option (Int × Int × Int × (List (Int × Bool))))) × Int × Bool × Int × Bool) (q45_l2 : List Int) (w : World), Sat w (rf w0) [O46 b26 q27_l2, oar 39 (r0 (.int .i64)) 1 9 b43 q45_l2] → colophonlaw23_FairAgain.l2 l1 k x9_l2 x42_l2 q27_l2 q45_l2 = some out → WL Try.prog (cbody (cbody (cr (cl (cr (cr (cr (cr (cr (cr C5)))))))))) Q 156 [(5, .pointer (some ⟨b26, 0, none⟩)), (8, .pointer (some ⟨b43, 0, none⟩)), (9, .int .i64 x9_l2), (40, .slice A1 l1.length c1), (41, .int .i64 (l1.length : Int)), (42, .int .i64 x42_l2)] w := by
  intro k
  induction k with
  | zero => intro x9_l2 x42_l2 q27_l2 q45_l2 w hS H; exact absurd (show none = some out from H) (by simp)
  | succ k ih =>
    intro x9_l2 x42_l2 q27_l2 q45_l2 w hS H
    unfold colophonlaw23_FairAgain.l2 at H
    refine WL.round ?_
    refine WC.seq (by kernel_rfl) ?_
    refine WC.reg [0] (by kernel_rfl) (by kernel_rfl) ?_
    refine WR.runk [0] [] [5, 8, 9, 40, 41, 42, 43] (L' := [(5, .pointer (some ⟨b26, 0, none⟩)), (8, .pointer (some ⟨b43, 0, none⟩)), (9, .int .i64 x9_l2), (40, .slice A1 l1.length c1), (41, .int .i64 (l1.length : Int)), (42, .int .i64 x42_l2), (43, .bool (decide (x42_l2 < (l1.length : Int))))]) (w' := w) (by kernel_rfl) ?_
    refine WR.nil ?_
    refine At.go ?_
    refine WC.seq (by kernel_rfl) ?_
    refine WC.cond (by kernel_rfl) (decide (x42_l2 < (l1.length : Int))) (by kernel_rfl) (by kernel_rfl) (fun hb46 => ?_) (fun hb46 => ?_)
    · replace H := ite_t H hb46
      refine WC.skip (by kernel_rfl) ?_
      refine At.go ?_
      refine WC.seq (by kernel_rfl) ?_
      obtain ⟨o171, e172, H⟩ := bind_ex H
      refine WC.weaken [5, 8, 9, 40, 41, 42] (L' := [(5, .pointer (some ⟨b26, 0, none⟩)), (8, .pointer (some ⟨b43, 0, none⟩)), (9, .int .i64 x9_l2), (40, .slice A1 l1.length c1), (41, .int .i64 (l1.length : Int)), (42, .int .i64 x42_l2)]) (by kernel_rfl) ?_
      refine colophonlaw23_FairAgain.j1_ok w0 A1 c1 l1 b26 b43 x9_l2 x42_l2 q27_l2 q45_l2 R1 o171 (fun o173 w175 ho176 hS => ?_) (fun o177 w179 ho180 hS => ?_) (fun o181 w183 ho184 hS => ?_) _ hS e172
      · subst ho176
        dsimp only at H
        refine At.thenExit ?_
        refine At.thenExit ?_
        obtain rfl := Option.some.inj H
        have hS : Sat w175 (rf w0) [O46 b26 q27_l2, oar 39 (r0 (.int .i64)) 1 9 b43 q45_l2] := hS.sel [0, 1] (by kernel_rfl)
        refine At.weaken [] (L' := []) (by kernel_rfl) ?_
        exact hn0 (q27_l2, q45_l2) _ rfl hS
      · subst ho180
        dsimp only at H
        refine At.thenRet ?_
        refine At.thenRet ?_
        obtain rfl := Option.some.inj H
        have hS : Sat w179 (rf w0) [O46 b26 o177, oar 39 (r0 (.int .i64)) 1 9 b43 q45_l2] := hS.sel [0, 1] (by kernel_rfl)
        refine At.weaken [4] (L' := [(4, .bool false)]) (by kernel_rfl) ?_
        exact hn1 (false, o177, q45_l2) _ rfl hS
      · subst ho184
        dsimp only at H
        refine At.go ?_
        refine WC.reg [0, 1] (by kernel_rfl) (by kernel_rfl) ?_
        refine WR.runk [0, 1] [] [5, 8, 9, 40, 41, 42, 65, 66, 67, 71, 72, 76] (L' := [(5, .pointer (some ⟨b26, 0, none⟩)), (8, .pointer (some ⟨b43, 0, none⟩)), (9, .int .i64 o181.1), (40, .slice A1 l1.length c1), (41, .int .i64 (l1.length : Int)), (42, .int .i64 (wi (x42_l2 + 1))), (65, .int .i64 o181.2.1), (66, .int .i64 o181.2.2.1), (67, .bool o181.2.2.2.1), (71, .bool o181.2.2.2.2.1), (72, .bool o181.2.2.2.2.2.1), (76, .bool o181.2.2.2.2.2.2.1)]) (w' := w183) (by kernel_rfl) ?_
        refine WR.nil ?_
        have hS : Sat w183 (rf w0) [O46 b26 o181.2.2.2.2.2.2.2.1, oar 39 (r0 (.int .i64)) 1 9 b43 o181.2.2.2.2.2.2.2.2] := hS.sel [0, 1] (by kernel_rfl)
        refine At.again ?_
        refine WL.weaken [5, 8, 9, 40, 41, 42] (L' := [(5, .pointer (some ⟨b26, 0, none⟩)), (8, .pointer (some ⟨b43, 0, none⟩)), (9, .int .i64 o181.1), (40, .slice A1 l1.length c1), (41, .int .i64 (l1.length : Int)), (42, .int .i64 (wi (x42_l2 + 1)))]) (by kernel_rfl) ?_
        exact ih o181.1 (wi (x42_l2 + 1)) o181.2.2.2.2.2.2.2.1 o181.2.2.2.2.2.2.2.2 _ hS H
    · replace H := ite_f H hb46
      refine WC.exit (by kernel_rfl) ?_
      refine At.thenExit ?_
      refine At.thenExit ?_
      obtain rfl := Option.some.inj H
      have hS : Sat w (rf w0) [O46 b26 q27_l2, oar 39 (r0 (.int .i64)) 1 9 b43 q45_l2] := hS.sel [0, 1] (by kernel_rfl)
      refine At.weaken [] (L' := []) (by kernel_rfl) ?_
      exact hn0 (q27_l2, q45_l2) _ rfl hS
theorem colophonlaw23_FairAgain.calls (w0 : World) (a0 : Int) (A1 : Option Addr) (c1 : Nat) (l1 : List Int) (R1 : rdS (r0 (.int .u8)) 1 (hp w0) A1 c1 l1) (r : Bool) (H : colophonlaw23_FairAgain.f a0 l1 = some r) :
    Calls Try.prog 5 #[.int .i64 a0, .slice A1 l1.length c1] w0 (fun e w' => ∃ v, e = .returned v ∧ colophonlaw23_FairAgain.post w0 r v w') := by
  have hS : Sat w0 (rf w0) [] := Sat.start w0
  unfold colophonlaw23_FairAgain.f at H
  refine calls_of_WC (vs := [.int .i64 a0, .slice A1 l1.length c1]) Try.func5 (c := C5) (n := 156) (by kernel_rfl) (by kernel_rfl) (by kernel_rfl) ?_
  refine WC.seq (by kernel_rfl) ?_
  refine WC.reg [0] (by kernel_rfl) (by kernel_rfl) ?_
  refine WR.runk [0] [] [0, 1] (L' := [(0, .int .i64 a0), (1, .slice A1 l1.length c1)]) (w' := w0) (by kernel_rfl) ?_
  refine WR.nil ?_
  refine At.go ?_
  refine WC.seq (by kernel_rfl) ?_
  refine WC.seq (by kernel_rfl) ?_
  refine WC.reg [0, 1] (by kernel_rfl) (by kernel_rfl) ?_
  obtain ⟨r1, e2, H⟩ := bind_ex H
  refine WR.st (St.call (by kernel_rfl) (f := 7) (args := #[]) (by kernel_rfl) (colophonlaw23_first.calls w0  r1 e2) ?_)
  rintro _ w8 ⟨rfl, hS9⟩
  have hS : Sat w8 (rf w0) [] := hS.ext hS9
  refine WR.runk [1] [] [0, 1, 20] (L' := [(0, .int .i64 a0), (1, .slice A1 l1.length c1), (20, .bool (!r1))]) (w' := w8) (by kernel_rfl) ?_
  refine WR.nil ?_
  refine At.go ?_
  refine WC.cond (by kernel_rfl) (!r1) (by kernel_rfl) (by kernel_rfl) (fun hb10 => ?_) (fun hb10 => ?_)
  · replace H := ite_t H hb10
    refine WC.seq (by kernel_rfl) ?_
    refine WC.reg [0] (by kernel_rfl) (by kernel_rfl) ?_
    refine WR.runk [0] [] [4] (L' := [(4, .bool false)]) (w' := w8) (by kernel_rfl) ?_
    refine WR.nil ?_
    refine At.go ?_
    refine WC.ret (by kernel_rfl) ?_
    refine At.thenRet ?_
    obtain rfl := Option.some.inj H
    have hS : Sat w8 (rf w0) [] := hS.sel [] (by kernel_rfl)
    exact At.body [.bool false] (by kernel_rfl) ⟨_, rfl, rfl, hS⟩
  · replace H := ite_f H hb10
    refine WC.skip (by kernel_rfl) ?_
    refine At.go ?_
    refine WC.seq (by kernel_rfl) ?_
    refine WC.reg [0, 1, 2, 3, 4, 5, 6, 7, 8, 9, 10, 11] (by kernel_rfl) (by kernel_rfl) ?_
    refine WR.runk [0, 1, 2, 3, 4] [5, 6, 7, 8, 9, 10, 11] [1, 26] (L' := [(1, .slice A1 l1.length c1), (26, .int .i64 (wi (1 + (wi (Int.tmod (IntKind.wrap .u64 a0) 9)))))]) (w' := w8) (by kernel_rfl) ?_
    refine WR.st (St.box hS (by kernel_rfl) (.cells #[.int .i64 1, .int .i64 2, .int .i64 3] 3) (fun b11 => .slice (some ⟨b11, 0, none⟩) 3 3) (fun _ => by kernel_rfl) (fun b11 w12 hS => ?_))
    refine WR.runk [] [6, 7, 8, 9, 10, 11] [1, 26, 27] (L' := [(1, .slice A1 l1.length c1), (26, .int .i64 (wi (1 + (wi (Int.tmod (IntKind.wrap .u64 a0) 9))))), (27, .slice (some ⟨b11, 0, none⟩) 3 3)]) (w' := w12) (by kernel_rfl) ?_
    obtain ⟨r13, e14, H⟩ := bind_ex H
    refine WR.st (St.call (by kernel_rfl) (f := 8) (args := #[.int .i64 (wi (1 + (wi (Int.tmod (IntKind.wrap .u64 a0) 9)))), .slice (some ⟨b11, 0, none⟩) 3 3]) (by kernel_rfl) (fair_New.calls w12 (wi (1 + (wi (Int.tmod (IntKind.wrap .u64 a0) 9)))) (some ⟨b11, 0, none⟩) 3 ([1, 2, 3] : List Int) (Sat.ptsAt 0 (r0 (.int .i64)) 1 ([1, 2, 3] : List Int) hS rfl rfl (rdL.cons1 rfl (rdL.cons1 rfl (rdL.cons1 rfl (rdL.nil _ _))))) r13 e14) ?_)
    rintro _ w20 ⟨pv22, rfl, hS21⟩
    have hS : Sat w20 (rf w0) [optP O46 pv22 r13.1, pts b11 (.cells #[.int .i64 1, .int .i64 2, .int .i64 3] 3 (0, 0))] := hS.ext hS21
    refine WR.runk [7, 8, 9, 10, 11] [] [1, 5] (L' := [(1, .slice A1 l1.length c1), (5, pv22)]) (w' := w20) (by kernel_rfl) ?_
    refine WR.nil ?_
    refine At.go ?_
    refine WC.seq (by kernel_rfl) ?_
    refine WC.seq (by kernel_rfl) ?_
    refine WC.reg [0] (by kernel_rfl) (by kernel_rfl) ?_
    refine WR.runk [0] [] [1, 5, 31] (L' := [(1, .slice A1 l1.length c1), (5, pv22), (31, .int .i64 0)]) (w' := w20) (by kernel_rfl) ?_
    refine WR.nil ?_
    refine At.go ?_
    refine WC.block (by kernel_rfl) ?_
    obtain ⟨y23, hr24, H⟩ := bind_ex H
    obtain ⟨b26, hv25, hN195⟩ := optP.some hS hr24
    subst hv25
    have hS : Sat w20 (rf w0) [O46 b26 y23, pts b11 (.cells #[.int .i64 1, .int .i64 2, .int .i64 3] 3 (0, 0))] := hN195
    have hS : Sat w20 (rf w0) [O46 b26 y23] := hS.sel [0] (by kernel_rfl)
    obtain ⟨o38, e39, H⟩ := bind_ex H
    refine WC.loop (by kernel_rfl) ?_
    refine WL.weaken [1, 5, 31] (L' := [(1, .slice A1 l1.length c1), (5, .pointer (some ⟨b26, 0, none⟩)), (31, .int .i64 0)]) (by kernel_rfl) ?_
    refine colophonlaw23_FairAgain.l1_ok w0 A1 c1 l1 b26 o38 (fun w41 hS => ?_) FU 0 y23 _ hS e39
    refine At.hit ?_
    refine At.go ?_
    refine WC.seq (by kernel_rfl) ?_
    refine WC.reg [0] (by kernel_rfl) (by kernel_rfl) ?_
    refine WR.runk [] [0] [1, 5] (L' := [(1, .slice A1 l1.length c1), (5, .pointer (some ⟨b26, 0, none⟩))]) (w' := w41) (by kernel_rfl) ?_
    refine WR.st (St.box hS (by kernel_rfl) (.cells ⟨List.replicate 9 (.int .i64 0)⟩ 39) (fun b43 => .pointer (some ⟨b43, 0, none⟩)) (fun _ => by kernel_rfl) (fun b43 w44 hS => ?_))
    have hS : Sat w44 (rf w0) [oar 39 (r0 (.int .i64)) 1 9 b43 (List.replicate 9 (0 : Int)), O46 b26 o38] := oar.ofPts (κ := (.int .i64)) 9 0 [.int .i64 0] (by kernel_rfl) (by kernel_rfl) rfl (by kernel_rfl) hS
    refine WR.runk [] [] [1, 5, 8] (L' := [(1, .slice A1 l1.length c1), (5, .pointer (some ⟨b26, 0, none⟩)), (8, .pointer (some ⟨b43, 0, none⟩))]) (w' := w44) (by kernel_rfl) ?_
    refine WR.nil ?_
    refine At.go ?_
    refine WC.seq (by kernel_rfl) ?_
    refine WC.reg [0] (by kernel_rfl) (by kernel_rfl) ?_
    refine WR.runk [0] [] [1, 5, 8, 9] (L' := [(1, .slice A1 l1.length c1), (5, .pointer (some ⟨b26, 0, none⟩)), (8, .pointer (some ⟨b43, 0, none⟩)), (9, .int .i64 (-1))]) (w' := w44) (by kernel_rfl) ?_
    refine WR.nil ?_
    refine At.go ?_
    refine WC.seq (by kernel_rfl) ?_
    refine WC.seq (by kernel_rfl) ?_
    refine WC.reg [0, 1, 2] (by kernel_rfl) (by kernel_rfl) ?_
    refine WR.runk [0, 1, 2] [] [5, 8, 9, 40, 41, 42] (L' := [(5, .pointer (some ⟨b26, 0, none⟩)), (8, .pointer (some ⟨b43, 0, none⟩)), (9, .int .i64 (-1)), (40, .slice A1 l1.length c1), (41, .int .i64 (l1.length : Int)), (42, .int .i64 0)]) (w' := w44) (by kernel_rfl) ?_
    refine WR.nil ?_
    refine At.go ?_
    refine WC.block (by kernel_rfl) ?_
    have hS : Sat w44 (rf w0) [O46 b26 o38, oar 39 (r0 (.int .i64)) 1 9 b43 (List.replicate 9 (0 : Int))] := hS.sel [1, 0] (by kernel_rfl)
    obtain ⟨o185, e186, H⟩ := bind_ex H
    refine WC.loop (by kernel_rfl) ?_
    refine WL.weaken [5, 8, 9, 40, 41, 42] (L' := [(5, .pointer (some ⟨b26, 0, none⟩)), (8, .pointer (some ⟨b43, 0, none⟩)), (9, .int .i64 (-1)), (40, .slice A1 l1.length c1), (41, .int .i64 (l1.length : Int)), (42, .int .i64 0)]) (by kernel_rfl) ?_
    refine colophonlaw23_FairAgain.l2_ok w0 A1 c1 l1 b26 b43 R1 o185 (fun o187 w189 ho190 hS => ?_) (fun o191 w193 ho194 hS => ?_) FU (-1) 0 o38 (List.replicate 9 (0 : Int)) _ hS e186
    · subst ho190
      dsimp only at H
      refine At.hit ?_
      refine At.go ?_
      refine WC.seq (by kernel_rfl) ?_
      refine WC.reg [0] (by kernel_rfl) (by kernel_rfl) ?_
      refine WR.runk [0] [] [4] (L' := [(4, .bool true)]) (w' := w189) (by kernel_rfl) ?_
      refine WR.nil ?_
      refine At.go ?_
      refine WC.ret (by kernel_rfl) ?_
      obtain rfl := Option.some.inj H
      have hS : Sat w189 (rf w0) [] := hS.sel [] (by kernel_rfl)
      exact At.body [.bool true] (by kernel_rfl) ⟨_, rfl, rfl, hS⟩
    · subst ho194
      dsimp only at H
      refine At.blockRet ?_
      refine At.thenRet ?_
      obtain rfl := Option.some.inj H
      have hS : Sat w193 (rf w0) [] := hS.sel [] (by kernel_rfl)
      exact At.body [.bool o191.1] (by kernel_rfl) ⟨_, rfl, rfl, hS⟩
end Go.Proofs.Ytnffhpnlehcoiaa
