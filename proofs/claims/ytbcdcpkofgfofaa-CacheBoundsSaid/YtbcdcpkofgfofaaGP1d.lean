/-
  Printed by gen.py (my own tool): for each Go function a plain Lean function and the proof that a call of it does what that function says.
-/
import Derived.Test.YtbcdcpkofgfofaaGP1c
set_option linter.unusedVariables false
set_option linter.unusedSimpArgs false
set_option maxRecDepth 100000
namespace Go.Proofs.Ytbcdcpkofgfofaa
open Go Go.Gol
/-! ### 11 (*colophon/colophonref07.Cache).Hold -/
def colophonref07_Cache_Hold.l1 (y37 : List (Int × Int × Bool)) : Nat → Int → Int → (Int × (List (Int × Int × Bool)) × Int × Int × Int) → Option (Int × (Int × (List (Int × Int × Bool)) × Int × Int × Int))
  | 0, _, _, _ => none
  | k + 1, x6_l1, x9_l1, q0_l1 => (if decide (x9_l1 < wi (2 * (y37.length : Int))) then (if decide (x6_l1 < 0) then ((at? q0_l1.2.1 q0_l1.2.2.1).bind fun v47 => (if (v47.2.1 == 0) then (if (!v47.2.2) then (if (v47.2.1 == 0) then (if ((wi (q0_l1.2.2.1 + 1)) == (y37.length : Int)) then colophonref07_Cache_Hold.l1 y37 k q0_l1.2.2.1 (wi (x9_l1 + 1)) (q0_l1.1, (List.set q0_l1.2.1 (q0_l1.2.2.1).toNat (v47.1, v47.2.1, false)), 0, q0_l1.2.2.2.1, q0_l1.2.2.2.2) else colophonref07_Cache_Hold.l1 y37 k q0_l1.2.2.1 (wi (x9_l1 + 1)) (q0_l1.1, (List.set q0_l1.2.1 (q0_l1.2.2.1).toNat (v47.1, v47.2.1, false)), wi (q0_l1.2.2.1 + 1), q0_l1.2.2.2.1, q0_l1.2.2.2.2)) else (if ((wi (q0_l1.2.2.1 + 1)) == (y37.length : Int)) then colophonref07_Cache_Hold.l1 y37 k q0_l1.2.2.1 (wi (x9_l1 + 1)) (q0_l1.1, q0_l1.2.1, 0, q0_l1.2.2.2.1, q0_l1.2.2.2.2) else colophonref07_Cache_Hold.l1 y37 k q0_l1.2.2.1 (wi (x9_l1 + 1)) (q0_l1.1, q0_l1.2.1, wi (q0_l1.2.2.1 + 1), q0_l1.2.2.2.1, q0_l1.2.2.2.2))) else (if (v47.2.1 == 0) then (if ((wi (q0_l1.2.2.1 + 1)) == (y37.length : Int)) then colophonref07_Cache_Hold.l1 y37 k x6_l1 (wi (x9_l1 + 1)) (q0_l1.1, (List.set q0_l1.2.1 (q0_l1.2.2.1).toNat (v47.1, v47.2.1, false)), 0, q0_l1.2.2.2.1, q0_l1.2.2.2.2) else colophonref07_Cache_Hold.l1 y37 k x6_l1 (wi (x9_l1 + 1)) (q0_l1.1, (List.set q0_l1.2.1 (q0_l1.2.2.1).toNat (v47.1, v47.2.1, false)), wi (q0_l1.2.2.1 + 1), q0_l1.2.2.2.1, q0_l1.2.2.2.2)) else (if ((wi (q0_l1.2.2.1 + 1)) == (y37.length : Int)) then colophonref07_Cache_Hold.l1 y37 k x6_l1 (wi (x9_l1 + 1)) (q0_l1.1, q0_l1.2.1, 0, q0_l1.2.2.2.1, q0_l1.2.2.2.2) else colophonref07_Cache_Hold.l1 y37 k x6_l1 (wi (x9_l1 + 1)) (q0_l1.1, q0_l1.2.1, wi (q0_l1.2.2.1 + 1), q0_l1.2.2.2.1, q0_l1.2.2.2.2)))) else (if (v47.2.1 == 0) then (if ((wi (q0_l1.2.2.1 + 1)) == (y37.length : Int)) then colophonref07_Cache_Hold.l1 y37 k x6_l1 (wi (x9_l1 + 1)) (q0_l1.1, (List.set q0_l1.2.1 (q0_l1.2.2.1).toNat (v47.1, v47.2.1, false)), 0, q0_l1.2.2.2.1, q0_l1.2.2.2.2) else colophonref07_Cache_Hold.l1 y37 k x6_l1 (wi (x9_l1 + 1)) (q0_l1.1, (List.set q0_l1.2.1 (q0_l1.2.2.1).toNat (v47.1, v47.2.1, false)), wi (q0_l1.2.2.1 + 1), q0_l1.2.2.2.1, q0_l1.2.2.2.2)) else (if ((wi (q0_l1.2.2.1 + 1)) == (y37.length : Int)) then colophonref07_Cache_Hold.l1 y37 k x6_l1 (wi (x9_l1 + 1)) (q0_l1.1, q0_l1.2.1, 0, q0_l1.2.2.2.1, q0_l1.2.2.2.2) else colophonref07_Cache_Hold.l1 y37 k x6_l1 (wi (x9_l1 + 1)) (q0_l1.1, q0_l1.2.1, wi (q0_l1.2.2.1 + 1), q0_l1.2.2.2.1, q0_l1.2.2.2.2))))) else some (x6_l1, q0_l1)) else some (x6_l1, q0_l1))
def colophonref07_Cache_Hold.f (p0 : Int × (List (Int × Int × Bool)) × Int × Int × Int) (a1 : Int) : Option (Bool × Int × (Int × (List (Int × Int × Bool)) × Int × Int × Int)) := (if decide (a1 < 0) then some (false, 222, p0) else (if decide (a1 ≥ p0.1) then some (false, 222, p0) else ((colophonref07_Cache_at.f (some (p0.1, p0.2.1, p0.2.2.1, p0.2.2.2.1, p0.2.2.2.2)) a1).bind fun r5 => (if decide (r5 ≥ 0) then ((at? p0.2.1 r5).bind fun v15 => ((at? (List.set p0.2.1 r5.toNat (v15.1, wi (v15.2.1 + 1), v15.2.2)) r5).bind fun v19 => some (true, 0, (p0.1, (List.set (List.set p0.2.1 r5.toNat (v15.1, wi (v15.2.1 + 1), v15.2.2)) r5.toNat (v19.1, v19.2.1, true)), p0.2.2.1, wi (p0.2.2.2.1 + 1), p0.2.2.2.2)))) else ((colophonref07_Cache_at.f (some (p0.1, p0.2.1, p0.2.2.1, p0.2.2.2.1, p0.2.2.2.2)) (-1)).bind fun r24 => (if decide (r24 < 0) then ((app? 5864062014805 (([] : List (Int × Int × Bool)) : List (Int × Int × Bool)) p0.2.1).bind fun y37 => ((colophonref07_Cache_Hold.l1 y37 FU r24 0 p0).bind fun o78 => (if decide (o78.1 < 0) then some (false, 70, (o78.2.1, y37, p0.2.2.1, o78.2.2.2.2.1, o78.2.2.2.2.2)) else ((at? o78.2.2.1 o78.1).bind fun v91 => ((set? o78.2.2.1 o78.1 (a1, 1, true)).bind fun y93 => some (false, 0, (o78.2.1, y93, o78.2.2.2.1, o78.2.2.2.2.1, wi (o78.2.2.2.2.2 + 1)))))))) else ((at? p0.2.1 r24).bind fun v98 => ((set? p0.2.1 r24 (a1, 1, true)).bind fun y100 => some (false, 0, (p0.1, y100, p0.2.2.1, p0.2.2.2.1, wi (p0.2.2.2.2 + 1)))))))))))
def colophonref07_Cache_Hold.post (B : Rf) (b0 : Nat) (p0 : Int × (List (Int × Int × Bool)) × Int × Int × Int) (w : World) (r : Bool × Int × (Int × (List (Int × Int × Bool)) × Int × Int × Int)) (v : Value) (w' : World) : Prop := v = .tuple #[.bool r.1, .int .i64 r.2.1] ∧ Sat w' B [O40 b0 r.2.2]
theorem colophonref07_Cache_Hold.l1_ok {Q} (B : Rf) (b0 : Nat) (p0 : Int × (List (Int × Int × Bool)) × Int × Int × Int) (a1 : Int) (y37 : List (Int × Int × Bool)) (A38 : Option Addr) (c39 : Nat) (out : Int × (Int × (List (Int × Int × Bool)) × Int × Int × Int)) (hn0 : ∀ (w : World), Sat w B [osl 42 (r0 (.pair (.int .i64) (.pair (.int .i64) .bool))) 3 A38 c39 y37, O40 b0 out.2] → At Q (.exit 0) 151 [(0, .pointer (some ⟨b0, 0, none⟩)), (1, .int .i64 a1), (6, .int .i64 out.1), (7, .slice A38 y37.length c39), (8, .int .i64 p0.2.2.1)] w) :
    ∀ (k : Nat) (x6_l1 : Int) (x9_l1 : Int) (q0_l1 : Int × (List (Int × Int × Bool)) × Int × Int × Int) (w : World), Sat w B [osl 42 (r0 (.pair (.int .i64) (.pair (.int .i64) .bool))) 3 A38 c39 y37, O40 b0 q0_l1] → colophonref07_Cache_Hold.l1 y37 k x6_l1 x9_l1 q0_l1 = some out → WL Try.prog (cbody (cbody (cr (cl (cr (cr (cthen (cr (cl (cr (cr (cr (cr (cr C11)))))))))))))) Q 151 [(0, .pointer (some ⟨b0, 0, none⟩)), (1, .int .i64 a1), (6, .int .i64 x6_l1), (7, .slice A38 y37.length c39), (8, .int .i64 p0.2.2.1), (9, .int .i64 x9_l1)] w := by
  intro k
  induction k with
  | zero => intro x6_l1 x9_l1 q0_l1 w hS H; exact absurd (show none = some out from H) (by simp)
  | succ k ih =>
    intro x6_l1 x9_l1 q0_l1 w hS H
    unfold colophonref07_Cache_Hold.l1 at H
    refine WL.round ?_
    refine WC.seq kr ?_
    refine WC.seq kr ?_
    refine WC.reg [0, 1, 2, 3, 4, 5, 6, 7, 8] kr kr ?_
    refine WR.runk [0, 1, 2, 3, 4, 5] [6, 7, 8] [0, 1, 6, 7, 8, 9, 70] (L' := [(0, .pointer (some ⟨b0, 0, none⟩)), (1, .int .i64 a1), (6, .int .i64 x6_l1), (7, .slice A38 y37.length c39), (8, .int .i64 p0.2.2.1), (9, .int .i64 x9_l1), (70, .bool (decide (x9_l1 < wi (2 * (y37.length : Int)))))]) (w' := w) kr ?_
    refine WR.split 70 (b := decide (x9_l1 < wi (2 * (y37.length : Int)))) kr (fun hb41 => ?_) (fun hb41 => ?_)
    ·replace H := ite_t H hb41
     refine WR.runk [6, 7, 8] [] [0, 1, 6, 7, 8, 9, 73] (L' := [(0, .pointer (some ⟨b0, 0, none⟩)), (1, .int .i64 a1), (6, .int .i64 x6_l1), (7, .slice A38 y37.length c39), (8, .int .i64 p0.2.2.1), (9, .int .i64 x9_l1), (73, .bool (decide (x6_l1 < 0)))]) (w' := w) kr ?_
     refine WR.nil ?_
     refine At.go ?_
     refine WC.cond kr (decide (x6_l1 < 0)) kr kr (fun hb42 => ?_) (fun hb42 => ?_)
     ·replace H := ite_t H hb42
      refine WC.skip kr ?_
      refine At.go ?_
      refine WC.seq kr ?_
      refine WC.block kr ?_
      refine WC.seq kr ?_
      refine WC.drawn kr kr 10 kr (fun w43 hw44 => ?_)
      have hS := hS.heap hw44.1 hw44.2
      refine WD.weaken [0, 1, 6, 7, 8, 9] (L' := [(0, .pointer (some ⟨b0, 0, none⟩)), (1, .int .i64 a1), (6, .int .i64 x6_l1), (7, .slice A38 y37.length c39), (8, .int .i64 p0.2.2.1), (9, .int .i64 x9_l1)]) kr ?_
      refine WD.pure (i := 0) (v := .pointer (some ⟨b0, 0, none⟩)) kr kr (fun _ => by kernel_rfl) ?_
      refine WD.weaken [0, 1, 6, 7, 8, 9, 76] (L' := [(0, .pointer (some ⟨b0, 0, none⟩)), (1, .int .i64 a1), (6, .int .i64 x6_l1), (7, .slice A38 y37.length c39), (8, .int .i64 p0.2.2.1), (9, .int .i64 x9_l1), (76, .pointer (some ⟨b0, 0, none⟩))]) kr ?_
      refine WD.pure (i := 1) (v := .pointer (some ⟨b0, 0, none⟩)) kr kr (fun _ => by kernel_rfl) ?_
      refine WD.weaken [0, 1, 6, 7, 8, 9, 77] (L' := [(0, .pointer (some ⟨b0, 0, none⟩)), (1, .int .i64 a1), (6, .int .i64 x6_l1), (7, .slice A38 y37.length c39), (8, .int .i64 p0.2.2.1), (9, .int .i64 x9_l1), (77, .pointer (some ⟨b0, 0, none⟩))]) kr ?_
      refine WD.pure (i := 2) (v := .pointer (some ⟨b0, 1, none⟩)) kr kr (fun _ => by kernel_rfl) ?_
      refine WD.weaken [0, 1, 6, 7, 8, 9, 78] (L' := [(0, .pointer (some ⟨b0, 0, none⟩)), (1, .int .i64 a1), (6, .int .i64 x6_l1), (7, .slice A38 y37.length c39), (8, .int .i64 p0.2.2.1), (9, .int .i64 x9_l1), (78, .pointer (some ⟨b0, 1, none⟩))]) kr ?_
      have hS : Sat w43 B [O40 b0 q0_l1, osl 42 (r0 (.pair (.int .i64) (.pair (.int .i64) .bool))) 3 A38 c39 y37] := hS.sel [1, 0] kr
      obtain ⟨A45, c46, hS⟩ := O40.open hS
      have hS : Sat w43 B [pts b0 (.cells #[.int .i64 q0_l1.1, .slice A45 q0_l1.2.1.length c46, .int .i64 q0_l1.2.2.1, .int .i64 q0_l1.2.2.2.1, .int .i64 q0_l1.2.2.2.2] 40 (0, 0)), osl 42 (r0 (.pair (.int .i64) (.pair (.int .i64) .bool))) 3 A45 c46 q0_l1.2.1, osl 42 (r0 (.pair (.int .i64) (.pair (.int .i64) .bool))) 3 A38 c39 y37] := hS
      refine WD.ofR (i := 3) kr (RSt.loadObj (t := 38) (k := 1) (v := .slice A45 q0_l1.2.1.length c46) (.tmp 78) kr kr kr 0 hS rfl kr rfl ?_)
      refine WD.weaken [0, 1, 6, 7, 8, 9, 79] (L' := [(0, .pointer (some ⟨b0, 0, none⟩)), (1, .int .i64 a1), (6, .int .i64 x6_l1), (7, .slice A38 y37.length c39), (8, .int .i64 p0.2.2.1), (9, .int .i64 x9_l1), (79, .slice A45 q0_l1.2.1.length c46)]) kr ?_
      refine WD.pure (i := 4) (v := .pointer (some ⟨b0, 0, none⟩)) kr kr (fun _ => by kernel_rfl) ?_
      refine WD.weaken [0, 1, 6, 7, 8, 9, 79, 80] (L' := [(0, .pointer (some ⟨b0, 0, none⟩)), (1, .int .i64 a1), (6, .int .i64 x6_l1), (7, .slice A38 y37.length c39), (8, .int .i64 p0.2.2.1), (9, .int .i64 x9_l1), (79, .slice A45 q0_l1.2.1.length c46), (80, .pointer (some ⟨b0, 0, none⟩))]) kr ?_
      refine WD.pure (i := 5) (v := .pointer (some ⟨b0, 0, none⟩)) kr kr (fun _ => by kernel_rfl) ?_
      refine WD.weaken [0, 1, 6, 7, 8, 9, 79, 81] (L' := [(0, .pointer (some ⟨b0, 0, none⟩)), (1, .int .i64 a1), (6, .int .i64 x6_l1), (7, .slice A38 y37.length c39), (8, .int .i64 p0.2.2.1), (9, .int .i64 x9_l1), (79, .slice A45 q0_l1.2.1.length c46), (81, .pointer (some ⟨b0, 0, none⟩))]) kr ?_
      refine WD.pure (i := 6) (v := .pointer (some ⟨b0, 2, none⟩)) kr kr (fun _ => by kernel_rfl) ?_
      refine WD.weaken [0, 1, 6, 7, 8, 9, 79, 82] (L' := [(0, .pointer (some ⟨b0, 0, none⟩)), (1, .int .i64 a1), (6, .int .i64 x6_l1), (7, .slice A38 y37.length c39), (8, .int .i64 p0.2.2.1), (9, .int .i64 x9_l1), (79, .slice A45 q0_l1.2.1.length c46), (82, .pointer (some ⟨b0, 2, none⟩))]) kr ?_
      refine WD.ofR (i := 7) kr (RSt.loadObj (t := 3) (k := 2) (v := .int .i64 q0_l1.2.2.1) (.tmp 82) kr kr kr 0 hS rfl kr rfl ?_)
      refine WD.weaken [0, 1, 6, 7, 8, 9, 79, 83] (L' := [(0, .pointer (some ⟨b0, 0, none⟩)), (1, .int .i64 a1), (6, .int .i64 x6_l1), (7, .slice A38 y37.length c39), (8, .int .i64 p0.2.2.1), (9, .int .i64 x9_l1), (79, .slice A45 q0_l1.2.1.length c46), (83, .int .i64 q0_l1.2.2.1)]) kr ?_
      obtain ⟨v47, e48, H⟩ := bind_ex H
      refine WD.ofP (i := 8) kr (PSt.idx (k := .i64) (.tmp 79) (.tmp 83) kr kr E38 kr kr (Sat.rdAt 1 hS rfl) e48 ?_)
      refine WD.weaken [0, 1, 6, 7, 8, 9, 84] (L' := [(0, .pointer (some ⟨b0, 0, none⟩)), (1, .int .i64 a1), (6, .int .i64 x6_l1), (7, .slice A38 y37.length c39), (8, .int .i64 p0.2.2.1), (9, .int .i64 x9_l1), (84, .pointer (some (adr A45 (q0_l1.2.2.1).toNat 3)))]) kr ?_
      refine WD.pure (i := 9) (v := .pointer (some (adr A45 (q0_l1.2.2.1).toNat 3))) kr kr (fun _ => by kernel_rfl) ?_
      refine WD.weaken [0, 1, 6, 7, 8, 9, 10] (L' := [(0, .pointer (some ⟨b0, 0, none⟩)), (1, .int .i64 a1), (6, .int .i64 x6_l1), (7, .slice A38 y37.length c39), (8, .int .i64 p0.2.2.1), (9, .int .i64 x9_l1), (10, .pointer (some (adr A45 (q0_l1.2.2.1).toNat 3)))]) kr ?_
      refine WD.nil kr ?_
      refine At.go ?_
      refine WC.seq kr ?_
      refine WC.seq kr ?_
      refine WC.reg [0, 1, 2, 3, 4, 5, 6, 7, 8, 9, 10, 11] kr kr ?_
      refine WR.runk [0, 1, 2] [3, 4, 5, 6, 7, 8, 9, 10, 11] [0, 1, 6, 7, 8, 9, 10, 87] (L' := [(0, .pointer (some ⟨b0, 0, none⟩)), (1, .int .i64 a1), (6, .int .i64 x6_l1), (7, .slice A38 y37.length c39), (8, .int .i64 p0.2.2.1), (9, .int .i64 x9_l1), (10, .pointer (some (adr A45 (q0_l1.2.2.1).toNat 3))), (87, .pointer (some ((adr A45 (q0_l1.2.2.1).toNat 3).add 1)))]) (w' := w43) kr ?_
      refine WR.st (St.ofR (RSt.loadPart (t := 3) (κ := (.pair (.int .i64) (.pair (.int .i64) .bool))) (.tmp 87) 1 kr kr kr kr kr (Sat.rdAt 1 hS rfl) e48 (u := .int .i64 v47.2.1) kr ?_))
      refine WR.runk [4, 5] [6, 7, 8, 9, 10, 11] [0, 1, 6, 7, 8, 9, 10, 90] (L' := [(0, .pointer (some ⟨b0, 0, none⟩)), (1, .int .i64 a1), (6, .int .i64 x6_l1), (7, .slice A38 y37.length c39), (8, .int .i64 p0.2.2.1), (9, .int .i64 x9_l1), (10, .pointer (some (adr A45 (q0_l1.2.2.1).toNat 3))), (90, .bool (v47.2.1 == 0))]) (w' := w43) kr ?_
      refine WR.split 90 (b := (v47.2.1 == 0)) kr (fun hb49 => ?_) (fun hb49 => ?_)
      ·replace H := ite_t H hb49
       refine WR.runk [6, 7, 8] [9, 10, 11] [0, 1, 6, 7, 8, 9, 10, 90, 93] (L' := [(0, .pointer (some ⟨b0, 0, none⟩)), (1, .int .i64 a1), (6, .int .i64 x6_l1), (7, .slice A38 y37.length c39), (8, .int .i64 p0.2.2.1), (9, .int .i64 x9_l1), (10, .pointer (some (adr A45 (q0_l1.2.2.1).toNat 3))), (90, .bool true), (93, .pointer (some ((adr A45 (q0_l1.2.2.1).toNat 3).add 2)))]) (w' := w43) kr ?_
       refine WR.st (St.ofR (RSt.loadPart (t := 4) (κ := (.pair (.int .i64) (.pair (.int .i64) .bool))) (.tmp 93) 2 kr kr kr kr kr (Sat.rdAt 1 hS rfl) e48 (u := .bool v47.2.2) kr ?_))
       refine WR.runk [10, 11] [] [0, 1, 6, 7, 8, 9, 10, 96] (L' := [(0, .pointer (some ⟨b0, 0, none⟩)), (1, .int .i64 a1), (6, .int .i64 x6_l1), (7, .slice A38 y37.length c39), (8, .int .i64 p0.2.2.1), (9, .int .i64 x9_l1), (10, .pointer (some (adr A45 (q0_l1.2.2.1).toNat 3))), (96, .bool (!v47.2.2))]) (w' := w43) kr ?_
       refine WR.nil ?_
       refine At.go ?_
       refine WC.cond kr (!v47.2.2) kr kr (fun hb50 => ?_) (fun hb50 => ?_)
       ·replace H := ite_t H hb50
        refine WC.reg [0, 1, 2, 3, 4] kr kr ?_
        refine WR.runk [0, 1, 2] [3, 4] [0, 1, 6, 7, 8, 9, 10, 99] (L' := [(0, .pointer (some ⟨b0, 0, none⟩)), (1, .int .i64 a1), (6, .int .i64 x6_l1), (7, .slice A38 y37.length c39), (8, .int .i64 p0.2.2.1), (9, .int .i64 x9_l1), (10, .pointer (some (adr A45 (q0_l1.2.2.1).toNat 3))), (99, .pointer (some ⟨b0, 2, none⟩))]) (w' := w43) kr ?_
        refine WR.st (St.ofR (RSt.loadObj (t := 3) (k := 2) (v := .int .i64 q0_l1.2.2.1) (.tmp 99) kr kr kr 0 hS rfl kr rfl ?_))
        refine WR.runk [4] [] [0, 1, 6, 7, 8, 9, 10] (L' := [(0, .pointer (some ⟨b0, 0, none⟩)), (1, .int .i64 a1), (6, .int .i64 q0_l1.2.2.1), (7, .slice A38 y37.length c39), (8, .int .i64 p0.2.2.1), (9, .int .i64 x9_l1), (10, .pointer (some (adr A45 (q0_l1.2.2.1).toNat 3)))]) (w' := w43) kr ?_
        refine WR.nil ?_
        refine At.go ?_
        refine WC.seq kr ?_
        refine WC.seq kr ?_
        refine WC.reg [0, 1, 2, 3, 4] kr kr ?_
        refine WR.runk [0, 1, 2] [3, 4] [0, 1, 6, 7, 8, 9, 10, 103] (L' := [(0, .pointer (some ⟨b0, 0, none⟩)), (1, .int .i64 a1), (6, .int .i64 q0_l1.2.2.1), (7, .slice A38 y37.length c39), (8, .int .i64 p0.2.2.1), (9, .int .i64 x9_l1), (10, .pointer (some (adr A45 (q0_l1.2.2.1).toNat 3))), (103, .pointer (some ((adr A45 (q0_l1.2.2.1).toNat 3).add 1)))]) (w' := w43) kr ?_
        refine WR.st (St.ofR (RSt.loadPart (t := 3) (κ := (.pair (.int .i64) (.pair (.int .i64) .bool))) (.tmp 103) 1 kr kr kr kr kr (Sat.rdAt 1 hS rfl) e48 (u := .int .i64 v47.2.1) kr ?_))
        refine WR.runk [4] [] [0, 1, 6, 7, 8, 9, 10, 105] (L' := [(0, .pointer (some ⟨b0, 0, none⟩)), (1, .int .i64 a1), (6, .int .i64 q0_l1.2.2.1), (7, .slice A38 y37.length c39), (8, .int .i64 p0.2.2.1), (9, .int .i64 x9_l1), (10, .pointer (some (adr A45 (q0_l1.2.2.1).toNat 3))), (105, .bool (v47.2.1 == 0))]) (w' := w43) kr ?_
        refine WR.nil ?_
        refine At.go ?_
        refine WC.cond kr (v47.2.1 == 0) kr kr (fun hb51 => ?_) (fun hb51 => ?_)
        ·replace H := ite_t H hb51
         refine WC.reg [0, 1, 2, 3] kr kr ?_
         refine WR.runk [0, 1, 2] [3] [0, 1, 6, 7, 8, 9, 108] (L' := [(0, .pointer (some ⟨b0, 0, none⟩)), (1, .int .i64 a1), (6, .int .i64 q0_l1.2.2.1), (7, .slice A38 y37.length c39), (8, .int .i64 p0.2.2.1), (9, .int .i64 x9_l1), (108, .pointer (some ((adr A45 (q0_l1.2.2.1).toNat 3).add 2)))]) (w' := w43) kr ?_
         have hS : Sat w43 B [osl 42 (r0 (.pair (.int .i64) (.pair (.int .i64) .bool))) 3 A45 c46 q0_l1.2.1, pts b0 (.cells #[.int .i64 q0_l1.1, .slice A45 q0_l1.2.1.length c46, .int .i64 q0_l1.2.2.1, .int .i64 q0_l1.2.2.2.1, .int .i64 q0_l1.2.2.2.2] 40 (0, 0)), osl 42 (r0 (.pair (.int .i64) (.pair (.int .i64) .bool))) 3 A38 c39 y37] := hS.sel [1, 0, 2] kr
         refine WR.st (St.storePart (t := 4) (κ := (.pair (.int .i64) (.pair (.int .i64) .bool))) (v' := (v47.1, v47.2.1, false)) (.tmp 108) (.const (.bool false)) 2 kr kr kr kr hS kr kr kr kr e48 rfl (fun w52 hS => ?_))
         have hS : Sat w52 B [osl 42 (r0 (.pair (.int .i64) (.pair (.int .i64) .bool))) 3 A45 c46 (List.set q0_l1.2.1 (q0_l1.2.2.1).toNat (v47.1, v47.2.1, false)), pts b0 (.cells #[.int .i64 q0_l1.1, .slice A45 q0_l1.2.1.length c46, .int .i64 q0_l1.2.2.1, .int .i64 q0_l1.2.2.2.1, .int .i64 q0_l1.2.2.2.2] 40 (0, 0)), osl 42 (r0 (.pair (.int .i64) (.pair (.int .i64) .bool))) 3 A38 c39 y37] := hS
         have hl53 : List.length (List.set q0_l1.2.1 (q0_l1.2.2.1).toNat (v47.1, v47.2.1, false)) = List.length q0_l1.2.1 := List.length_set
         have hS : Sat w52 B [osl 42 (r0 (.pair (.int .i64) (.pair (.int .i64) .bool))) 3 A45 c46 (List.set q0_l1.2.1 (q0_l1.2.2.1).toNat (v47.1, v47.2.1, false)), pts b0 (.cells #[.int .i64 q0_l1.1, .slice A45 (List.set q0_l1.2.1 (q0_l1.2.2.1).toNat (v47.1, v47.2.1, false)).length c46, .int .i64 q0_l1.2.2.1, .int .i64 q0_l1.2.2.2.1, .int .i64 q0_l1.2.2.2.2] 40 (0, 0)), osl 42 (r0 (.pair (.int .i64) (.pair (.int .i64) .bool))) 3 A38 c39 y37] := by simpa only [hl53] using hS
         refine WR.runk [] [] [0, 1, 6, 7, 8, 9] (L' := [(0, .pointer (some ⟨b0, 0, none⟩)), (1, .int .i64 a1), (6, .int .i64 q0_l1.2.2.1), (7, .slice A38 y37.length c39), (8, .int .i64 p0.2.2.1), (9, .int .i64 x9_l1)]) (w' := w52) kr ?_
         refine WR.nil ?_
         refine At.go ?_
         refine WC.seq kr ?_
         refine WC.reg [0, 1, 2, 3, 4, 5, 6, 7] kr kr ?_
         refine WR.runk [0, 1, 2] [3, 4, 5, 6, 7] [0, 1, 6, 7, 8, 9, 109, 111] (L' := [(0, .pointer (some ⟨b0, 0, none⟩)), (1, .int .i64 a1), (6, .int .i64 q0_l1.2.2.1), (7, .slice A38 y37.length c39), (8, .int .i64 p0.2.2.1), (9, .int .i64 x9_l1), (109, .pointer (some ⟨b0, 0, none⟩)), (111, .pointer (some ⟨b0, 2, none⟩))]) (w' := w52) kr ?_
         refine WR.st (St.ofR (RSt.loadObj (t := 3) (k := 2) (v := .int .i64 q0_l1.2.2.1) (.tmp 111) kr kr kr 1 hS rfl kr rfl ?_))
         refine WR.runk [4, 5, 6] [7] [0, 1, 6, 7, 8, 9, 113, 115] (L' := [(0, .pointer (some ⟨b0, 0, none⟩)), (1, .int .i64 a1), (6, .int .i64 q0_l1.2.2.1), (7, .slice A38 y37.length c39), (8, .int .i64 p0.2.2.1), (9, .int .i64 x9_l1), (113, .int .i64 (wi (q0_l1.2.2.1 + 1))), (115, .pointer (some ⟨b0, 2, none⟩))]) (w' := w52) kr ?_
         have hS : Sat w52 B [pts b0 (.cells #[.int .i64 q0_l1.1, .slice A45 (List.set q0_l1.2.1 (q0_l1.2.2.1).toNat (v47.1, v47.2.1, false)).length c46, .int .i64 q0_l1.2.2.1, .int .i64 q0_l1.2.2.2.1, .int .i64 q0_l1.2.2.2.2] 40 (0, 0)), osl 42 (r0 (.pair (.int .i64) (.pair (.int .i64) .bool))) 3 A45 c46 (List.set q0_l1.2.1 (q0_l1.2.2.1).toNat (v47.1, v47.2.1, false)), osl 42 (r0 (.pair (.int .i64) (.pair (.int .i64) .bool))) 3 A38 c39 y37] := hS.sel [1, 0, 2] kr
         refine WR.st (St.storeObj (t := 3) (k := 2) (cur' := #[.int .i64 q0_l1.1, .slice A45 (List.set q0_l1.2.1 (q0_l1.2.2.1).toNat (v47.1, v47.2.1, false)).length c46, .int .i64 (wi (q0_l1.2.2.1 + 1)), .int .i64 q0_l1.2.2.2.1, .int .i64 q0_l1.2.2.2.2]) (.tmp 115) (.tmp 113) kr kr kr hS kr kr kr rfl rfl (fun w54 hS => ?_))
         refine WR.runk [] [] [0, 1, 6, 7, 8, 9] (L' := [(0, .pointer (some ⟨b0, 0, none⟩)), (1, .int .i64 a1), (6, .int .i64 q0_l1.2.2.1), (7, .slice A38 y37.length c39), (8, .int .i64 p0.2.2.1), (9, .int .i64 x9_l1)]) (w' := w54) kr ?_
         refine WR.nil ?_
         refine At.go ?_
         refine WC.seq kr ?_
         refine WC.reg [0, 1, 2, 3, 4, 5, 6] kr kr ?_
         refine WR.runk [0, 1, 2] [3, 4, 5, 6] [0, 1, 6, 7, 8, 9, 118] (L' := [(0, .pointer (some ⟨b0, 0, none⟩)), (1, .int .i64 a1), (6, .int .i64 q0_l1.2.2.1), (7, .slice A38 y37.length c39), (8, .int .i64 p0.2.2.1), (9, .int .i64 x9_l1), (118, .pointer (some ⟨b0, 2, none⟩))]) (w' := w54) kr ?_
         refine WR.st (St.ofR (RSt.loadObj (t := 3) (k := 2) (v := .int .i64 (wi (q0_l1.2.2.1 + 1))) (.tmp 118) kr kr kr 0 hS rfl kr rfl ?_))
         refine WR.runk [4, 5, 6] [] [0, 1, 6, 7, 8, 9, 122] (L' := [(0, .pointer (some ⟨b0, 0, none⟩)), (1, .int .i64 a1), (6, .int .i64 q0_l1.2.2.1), (7, .slice A38 y37.length c39), (8, .int .i64 p0.2.2.1), (9, .int .i64 x9_l1), (122, .bool ((wi (q0_l1.2.2.1 + 1)) == (y37.length : Int)))]) (w' := w54) kr ?_
         refine WR.nil ?_
         refine At.go ?_
         refine WC.cond kr ((wi (q0_l1.2.2.1 + 1)) == (y37.length : Int)) kr kr (fun hb55 => ?_) (fun hb55 => ?_)
         ·replace H := ite_t H hb55
          refine WC.reg [0, 1, 2, 3] kr kr ?_
          refine WR.runk [0, 1, 2] [3] [0, 1, 6, 7, 8, 9, 125] (L' := [(0, .pointer (some ⟨b0, 0, none⟩)), (1, .int .i64 a1), (6, .int .i64 q0_l1.2.2.1), (7, .slice A38 y37.length c39), (8, .int .i64 p0.2.2.1), (9, .int .i64 x9_l1), (125, .pointer (some ⟨b0, 2, none⟩))]) (w' := w54) kr ?_
          refine WR.st (St.storeObj (t := 3) (k := 2) (cur' := #[.int .i64 q0_l1.1, .slice A45 (List.set q0_l1.2.1 (q0_l1.2.2.1).toNat (v47.1, v47.2.1, false)).length c46, .int .i64 0, .int .i64 q0_l1.2.2.2.1, .int .i64 q0_l1.2.2.2.2]) (.tmp 125) (.const (.int .i64 0)) kr kr kr hS kr kr kr rfl rfl (fun w56 hS => ?_))
          refine WR.runk [] [] [0, 1, 6, 7, 8, 9] (L' := [(0, .pointer (some ⟨b0, 0, none⟩)), (1, .int .i64 a1), (6, .int .i64 q0_l1.2.2.1), (7, .slice A38 y37.length c39), (8, .int .i64 p0.2.2.1), (9, .int .i64 x9_l1)]) (w' := w56) kr ?_
          refine WR.nil ?_
          refine At.blockNormal ?_
          refine At.go ?_
          refine WC.reg [0, 1, 2] kr kr ?_
          refine WR.runk [0, 1, 2] [] [0, 1, 6, 7, 8, 9] (L' := [(0, .pointer (some ⟨b0, 0, none⟩)), (1, .int .i64 a1), (6, .int .i64 q0_l1.2.2.1), (7, .slice A38 y37.length c39), (8, .int .i64 p0.2.2.1), (9, .int .i64 (wi (x9_l1 + 1)))]) (w' := w56) kr ?_
          refine WR.nil ?_
          have hS : Sat w56 B [pts b0 (.cells #[.int .i64 q0_l1.1, .slice A45 (List.set q0_l1.2.1 (q0_l1.2.2.1).toNat (v47.1, v47.2.1, false)).length c46, .int .i64 0, .int .i64 q0_l1.2.2.2.1, .int .i64 q0_l1.2.2.2.2] 40 (0, 0)), osl 42 (r0 (.pair (.int .i64) (.pair (.int .i64) .bool))) 3 A45 c46 (List.set q0_l1.2.1 (q0_l1.2.2.1).toNat (v47.1, v47.2.1, false)), osl 42 (r0 (.pair (.int .i64) (.pair (.int .i64) .bool))) 3 A38 c39 y37] := hS.sel [0, 1, 2] kr
          have hS : Sat w56 B [O40 b0 (q0_l1.1, (List.set q0_l1.2.1 (q0_l1.2.2.1).toNat (v47.1, v47.2.1, false)), 0, q0_l1.2.2.2.1, q0_l1.2.2.2.2), osl 42 (r0 (.pair (.int .i64) (.pair (.int .i64) .bool))) 3 A38 c39 y37] := O40.close (q0_l1.1, (List.set q0_l1.2.1 (q0_l1.2.2.1).toNat (v47.1, v47.2.1, false)), 0, q0_l1.2.2.2.1, q0_l1.2.2.2.2) A45 c46 hS
          have hS : Sat w56 B [osl 42 (r0 (.pair (.int .i64) (.pair (.int .i64) .bool))) 3 A38 c39 y37, O40 b0 (q0_l1.1, (List.set q0_l1.2.1 (q0_l1.2.2.1).toNat (v47.1, v47.2.1, false)), 0, q0_l1.2.2.2.1, q0_l1.2.2.2.2)] := hS.sel [1, 0] kr
          refine At.again ?_
          refine WL.weaken [0, 1, 6, 7, 8, 9] (L' := [(0, .pointer (some ⟨b0, 0, none⟩)), (1, .int .i64 a1), (6, .int .i64 q0_l1.2.2.1), (7, .slice A38 y37.length c39), (8, .int .i64 p0.2.2.1), (9, .int .i64 (wi (x9_l1 + 1)))]) kr ?_
          exact ih q0_l1.2.2.1 (wi (x9_l1 + 1)) (q0_l1.1, (List.set q0_l1.2.1 (q0_l1.2.2.1).toNat (v47.1, v47.2.1, false)), 0, q0_l1.2.2.2.1, q0_l1.2.2.2.2) _ hS H
         ·replace H := ite_f H hb55
          refine WC.skip kr ?_
          refine At.blockNormal ?_
          refine At.go ?_
          refine WC.reg [0, 1, 2] kr kr ?_
          refine WR.runk [0, 1, 2] [] [0, 1, 6, 7, 8, 9] (L' := [(0, .pointer (some ⟨b0, 0, none⟩)), (1, .int .i64 a1), (6, .int .i64 q0_l1.2.2.1), (7, .slice A38 y37.length c39), (8, .int .i64 p0.2.2.1), (9, .int .i64 (wi (x9_l1 + 1)))]) (w' := w54) kr ?_
          refine WR.nil ?_
          have hS : Sat w54 B [pts b0 (.cells #[.int .i64 q0_l1.1, .slice A45 (List.set q0_l1.2.1 (q0_l1.2.2.1).toNat (v47.1, v47.2.1, false)).length c46, .int .i64 (wi (q0_l1.2.2.1 + 1)), .int .i64 q0_l1.2.2.2.1, .int .i64 q0_l1.2.2.2.2] 40 (0, 0)), osl 42 (r0 (.pair (.int .i64) (.pair (.int .i64) .bool))) 3 A45 c46 (List.set q0_l1.2.1 (q0_l1.2.2.1).toNat (v47.1, v47.2.1, false)), osl 42 (r0 (.pair (.int .i64) (.pair (.int .i64) .bool))) 3 A38 c39 y37] := hS.sel [0, 1, 2] kr
          have hS : Sat w54 B [O40 b0 (q0_l1.1, (List.set q0_l1.2.1 (q0_l1.2.2.1).toNat (v47.1, v47.2.1, false)), wi (q0_l1.2.2.1 + 1), q0_l1.2.2.2.1, q0_l1.2.2.2.2), osl 42 (r0 (.pair (.int .i64) (.pair (.int .i64) .bool))) 3 A38 c39 y37] := O40.close (q0_l1.1, (List.set q0_l1.2.1 (q0_l1.2.2.1).toNat (v47.1, v47.2.1, false)), wi (q0_l1.2.2.1 + 1), q0_l1.2.2.2.1, q0_l1.2.2.2.2) A45 c46 hS
          have hS : Sat w54 B [osl 42 (r0 (.pair (.int .i64) (.pair (.int .i64) .bool))) 3 A38 c39 y37, O40 b0 (q0_l1.1, (List.set q0_l1.2.1 (q0_l1.2.2.1).toNat (v47.1, v47.2.1, false)), wi (q0_l1.2.2.1 + 1), q0_l1.2.2.2.1, q0_l1.2.2.2.2)] := hS.sel [1, 0] kr
          refine At.again ?_
          refine WL.weaken [0, 1, 6, 7, 8, 9] (L' := [(0, .pointer (some ⟨b0, 0, none⟩)), (1, .int .i64 a1), (6, .int .i64 q0_l1.2.2.1), (7, .slice A38 y37.length c39), (8, .int .i64 p0.2.2.1), (9, .int .i64 (wi (x9_l1 + 1)))]) kr ?_
          exact ih q0_l1.2.2.1 (wi (x9_l1 + 1)) (q0_l1.1, (List.set q0_l1.2.1 (q0_l1.2.2.1).toNat (v47.1, v47.2.1, false)), wi (q0_l1.2.2.1 + 1), q0_l1.2.2.2.1, q0_l1.2.2.2.2) _ hS H
        ·replace H := ite_f H hb51
         refine WC.skip kr ?_
         refine At.go ?_
         refine WC.seq kr ?_
         refine WC.reg [0, 1, 2, 3, 4, 5, 6, 7] kr kr ?_
         refine WR.runk [0, 1, 2] [3, 4, 5, 6, 7] [0, 1, 6, 7, 8, 9, 109, 111] (L' := [(0, .pointer (some ⟨b0, 0, none⟩)), (1, .int .i64 a1), (6, .int .i64 q0_l1.2.2.1), (7, .slice A38 y37.length c39), (8, .int .i64 p0.2.2.1), (9, .int .i64 x9_l1), (109, .pointer (some ⟨b0, 0, none⟩)), (111, .pointer (some ⟨b0, 2, none⟩))]) (w' := w43) kr ?_
         refine WR.st (St.ofR (RSt.loadObj (t := 3) (k := 2) (v := .int .i64 q0_l1.2.2.1) (.tmp 111) kr kr kr 0 hS rfl kr rfl ?_))
         refine WR.runk [4, 5, 6] [7] [0, 1, 6, 7, 8, 9, 113, 115] (L' := [(0, .pointer (some ⟨b0, 0, none⟩)), (1, .int .i64 a1), (6, .int .i64 q0_l1.2.2.1), (7, .slice A38 y37.length c39), (8, .int .i64 p0.2.2.1), (9, .int .i64 x9_l1), (113, .int .i64 (wi (q0_l1.2.2.1 + 1))), (115, .pointer (some ⟨b0, 2, none⟩))]) (w' := w43) kr ?_
         refine WR.st (St.storeObj (t := 3) (k := 2) (cur' := #[.int .i64 q0_l1.1, .slice A45 q0_l1.2.1.length c46, .int .i64 (wi (q0_l1.2.2.1 + 1)), .int .i64 q0_l1.2.2.2.1, .int .i64 q0_l1.2.2.2.2]) (.tmp 115) (.tmp 113) kr kr kr hS kr kr kr rfl rfl (fun w57 hS => ?_))
         refine WR.runk [] [] [0, 1, 6, 7, 8, 9] (L' := [(0, .pointer (some ⟨b0, 0, none⟩)), (1, .int .i64 a1), (6, .int .i64 q0_l1.2.2.1), (7, .slice A38 y37.length c39), (8, .int .i64 p0.2.2.1), (9, .int .i64 x9_l1)]) (w' := w57) kr ?_
         refine WR.nil ?_
         refine At.go ?_
         refine WC.seq kr ?_
         refine WC.reg [0, 1, 2, 3, 4, 5, 6] kr kr ?_
         refine WR.runk [0, 1, 2] [3, 4, 5, 6] [0, 1, 6, 7, 8, 9, 118] (L' := [(0, .pointer (some ⟨b0, 0, none⟩)), (1, .int .i64 a1), (6, .int .i64 q0_l1.2.2.1), (7, .slice A38 y37.length c39), (8, .int .i64 p0.2.2.1), (9, .int .i64 x9_l1), (118, .pointer (some ⟨b0, 2, none⟩))]) (w' := w57) kr ?_
         refine WR.st (St.ofR (RSt.loadObj (t := 3) (k := 2) (v := .int .i64 (wi (q0_l1.2.2.1 + 1))) (.tmp 118) kr kr kr 0 hS rfl kr rfl ?_))
         refine WR.runk [4, 5, 6] [] [0, 1, 6, 7, 8, 9, 122] (L' := [(0, .pointer (some ⟨b0, 0, none⟩)), (1, .int .i64 a1), (6, .int .i64 q0_l1.2.2.1), (7, .slice A38 y37.length c39), (8, .int .i64 p0.2.2.1), (9, .int .i64 x9_l1), (122, .bool ((wi (q0_l1.2.2.1 + 1)) == (y37.length : Int)))]) (w' := w57) kr ?_
         refine WR.nil ?_
         refine At.go ?_
         refine WC.cond kr ((wi (q0_l1.2.2.1 + 1)) == (y37.length : Int)) kr kr (fun hb58 => ?_) (fun hb58 => ?_)
         ·replace H := ite_t H hb58
          refine WC.reg [0, 1, 2, 3] kr kr ?_
          refine WR.runk [0, 1, 2] [3] [0, 1, 6, 7, 8, 9, 125] (L' := [(0, .pointer (some ⟨b0, 0, none⟩)), (1, .int .i64 a1), (6, .int .i64 q0_l1.2.2.1), (7, .slice A38 y37.length c39), (8, .int .i64 p0.2.2.1), (9, .int .i64 x9_l1), (125, .pointer (some ⟨b0, 2, none⟩))]) (w' := w57) kr ?_
          refine WR.st (St.storeObj (t := 3) (k := 2) (cur' := #[.int .i64 q0_l1.1, .slice A45 q0_l1.2.1.length c46, .int .i64 0, .int .i64 q0_l1.2.2.2.1, .int .i64 q0_l1.2.2.2.2]) (.tmp 125) (.const (.int .i64 0)) kr kr kr hS kr kr kr rfl rfl (fun w59 hS => ?_))
          refine WR.runk [] [] [0, 1, 6, 7, 8, 9] (L' := [(0, .pointer (some ⟨b0, 0, none⟩)), (1, .int .i64 a1), (6, .int .i64 q0_l1.2.2.1), (7, .slice A38 y37.length c39), (8, .int .i64 p0.2.2.1), (9, .int .i64 x9_l1)]) (w' := w59) kr ?_
          refine WR.nil ?_
          refine At.blockNormal ?_
          refine At.go ?_
          refine WC.reg [0, 1, 2] kr kr ?_
          refine WR.runk [0, 1, 2] [] [0, 1, 6, 7, 8, 9] (L' := [(0, .pointer (some ⟨b0, 0, none⟩)), (1, .int .i64 a1), (6, .int .i64 q0_l1.2.2.1), (7, .slice A38 y37.length c39), (8, .int .i64 p0.2.2.1), (9, .int .i64 (wi (x9_l1 + 1)))]) (w' := w59) kr ?_
          refine WR.nil ?_
          have hS : Sat w59 B [pts b0 (.cells #[.int .i64 q0_l1.1, .slice A45 q0_l1.2.1.length c46, .int .i64 0, .int .i64 q0_l1.2.2.2.1, .int .i64 q0_l1.2.2.2.2] 40 (0, 0)), osl 42 (r0 (.pair (.int .i64) (.pair (.int .i64) .bool))) 3 A45 c46 q0_l1.2.1, osl 42 (r0 (.pair (.int .i64) (.pair (.int .i64) .bool))) 3 A38 c39 y37] := hS.sel [0, 1, 2] kr
          have hS : Sat w59 B [O40 b0 (q0_l1.1, q0_l1.2.1, 0, q0_l1.2.2.2.1, q0_l1.2.2.2.2), osl 42 (r0 (.pair (.int .i64) (.pair (.int .i64) .bool))) 3 A38 c39 y37] := O40.close (q0_l1.1, q0_l1.2.1, 0, q0_l1.2.2.2.1, q0_l1.2.2.2.2) A45 c46 hS
          have hS : Sat w59 B [osl 42 (r0 (.pair (.int .i64) (.pair (.int .i64) .bool))) 3 A38 c39 y37, O40 b0 (q0_l1.1, q0_l1.2.1, 0, q0_l1.2.2.2.1, q0_l1.2.2.2.2)] := hS.sel [1, 0] kr
          refine At.again ?_
          refine WL.weaken [0, 1, 6, 7, 8, 9] (L' := [(0, .pointer (some ⟨b0, 0, none⟩)), (1, .int .i64 a1), (6, .int .i64 q0_l1.2.2.1), (7, .slice A38 y37.length c39), (8, .int .i64 p0.2.2.1), (9, .int .i64 (wi (x9_l1 + 1)))]) kr ?_
          exact ih q0_l1.2.2.1 (wi (x9_l1 + 1)) (q0_l1.1, q0_l1.2.1, 0, q0_l1.2.2.2.1, q0_l1.2.2.2.2) _ hS H
         ·replace H := ite_f H hb58
          refine WC.skip kr ?_
          refine At.blockNormal ?_
          refine At.go ?_
          refine WC.reg [0, 1, 2] kr kr ?_
          refine WR.runk [0, 1, 2] [] [0, 1, 6, 7, 8, 9] (L' := [(0, .pointer (some ⟨b0, 0, none⟩)), (1, .int .i64 a1), (6, .int .i64 q0_l1.2.2.1), (7, .slice A38 y37.length c39), (8, .int .i64 p0.2.2.1), (9, .int .i64 (wi (x9_l1 + 1)))]) (w' := w57) kr ?_
          refine WR.nil ?_
          have hS : Sat w57 B [pts b0 (.cells #[.int .i64 q0_l1.1, .slice A45 q0_l1.2.1.length c46, .int .i64 (wi (q0_l1.2.2.1 + 1)), .int .i64 q0_l1.2.2.2.1, .int .i64 q0_l1.2.2.2.2] 40 (0, 0)), osl 42 (r0 (.pair (.int .i64) (.pair (.int .i64) .bool))) 3 A45 c46 q0_l1.2.1, osl 42 (r0 (.pair (.int .i64) (.pair (.int .i64) .bool))) 3 A38 c39 y37] := hS.sel [0, 1, 2] kr
          have hS : Sat w57 B [O40 b0 (q0_l1.1, q0_l1.2.1, wi (q0_l1.2.2.1 + 1), q0_l1.2.2.2.1, q0_l1.2.2.2.2), osl 42 (r0 (.pair (.int .i64) (.pair (.int .i64) .bool))) 3 A38 c39 y37] := O40.close (q0_l1.1, q0_l1.2.1, wi (q0_l1.2.2.1 + 1), q0_l1.2.2.2.1, q0_l1.2.2.2.2) A45 c46 hS
          have hS : Sat w57 B [osl 42 (r0 (.pair (.int .i64) (.pair (.int .i64) .bool))) 3 A38 c39 y37, O40 b0 (q0_l1.1, q0_l1.2.1, wi (q0_l1.2.2.1 + 1), q0_l1.2.2.2.1, q0_l1.2.2.2.2)] := hS.sel [1, 0] kr
          refine At.again ?_
          refine WL.weaken [0, 1, 6, 7, 8, 9] (L' := [(0, .pointer (some ⟨b0, 0, none⟩)), (1, .int .i64 a1), (6, .int .i64 q0_l1.2.2.1), (7, .slice A38 y37.length c39), (8, .int .i64 p0.2.2.1), (9, .int .i64 (wi (x9_l1 + 1)))]) kr ?_
          exact ih q0_l1.2.2.1 (wi (x9_l1 + 1)) (q0_l1.1, q0_l1.2.1, wi (q0_l1.2.2.1 + 1), q0_l1.2.2.2.1, q0_l1.2.2.2.2) _ hS H
       ·replace H := ite_f H hb50
        refine WC.skip kr ?_
        refine At.go ?_
        refine WC.seq kr ?_
        refine WC.seq kr ?_
        refine WC.reg [0, 1, 2, 3, 4] kr kr ?_
        refine WR.runk [0, 1, 2] [3, 4] [0, 1, 6, 7, 8, 9, 10, 103] (L' := [(0, .pointer (some ⟨b0, 0, none⟩)), (1, .int .i64 a1), (6, .int .i64 x6_l1), (7, .slice A38 y37.length c39), (8, .int .i64 p0.2.2.1), (9, .int .i64 x9_l1), (10, .pointer (some (adr A45 (q0_l1.2.2.1).toNat 3))), (103, .pointer (some ((adr A45 (q0_l1.2.2.1).toNat 3).add 1)))]) (w' := w43) kr ?_
        refine WR.st (St.ofR (RSt.loadPart (t := 3) (κ := (.pair (.int .i64) (.pair (.int .i64) .bool))) (.tmp 103) 1 kr kr kr kr kr (Sat.rdAt 1 hS rfl) e48 (u := .int .i64 v47.2.1) kr ?_))
        refine WR.runk [4] [] [0, 1, 6, 7, 8, 9, 10, 105] (L' := [(0, .pointer (some ⟨b0, 0, none⟩)), (1, .int .i64 a1), (6, .int .i64 x6_l1), (7, .slice A38 y37.length c39), (8, .int .i64 p0.2.2.1), (9, .int .i64 x9_l1), (10, .pointer (some (adr A45 (q0_l1.2.2.1).toNat 3))), (105, .bool (v47.2.1 == 0))]) (w' := w43) kr ?_
        refine WR.nil ?_
        refine At.go ?_
        refine WC.cond kr (v47.2.1 == 0) kr kr (fun hb60 => ?_) (fun hb60 => ?_)
        ·replace H := ite_t H hb60
         refine WC.reg [0, 1, 2, 3] kr kr ?_
         refine WR.runk [0, 1, 2] [3] [0, 1, 6, 7, 8, 9, 108] (L' := [(0, .pointer (some ⟨b0, 0, none⟩)), (1, .int .i64 a1), (6, .int .i64 x6_l1), (7, .slice A38 y37.length c39), (8, .int .i64 p0.2.2.1), (9, .int .i64 x9_l1), (108, .pointer (some ((adr A45 (q0_l1.2.2.1).toNat 3).add 2)))]) (w' := w43) kr ?_
         have hS : Sat w43 B [osl 42 (r0 (.pair (.int .i64) (.pair (.int .i64) .bool))) 3 A45 c46 q0_l1.2.1, pts b0 (.cells #[.int .i64 q0_l1.1, .slice A45 q0_l1.2.1.length c46, .int .i64 q0_l1.2.2.1, .int .i64 q0_l1.2.2.2.1, .int .i64 q0_l1.2.2.2.2] 40 (0, 0)), osl 42 (r0 (.pair (.int .i64) (.pair (.int .i64) .bool))) 3 A38 c39 y37] := hS.sel [1, 0, 2] kr
         refine WR.st (St.storePart (t := 4) (κ := (.pair (.int .i64) (.pair (.int .i64) .bool))) (v' := (v47.1, v47.2.1, false)) (.tmp 108) (.const (.bool false)) 2 kr kr kr kr hS kr kr kr kr e48 rfl (fun w61 hS => ?_))
         have hS : Sat w61 B [osl 42 (r0 (.pair (.int .i64) (.pair (.int .i64) .bool))) 3 A45 c46 (List.set q0_l1.2.1 (q0_l1.2.2.1).toNat (v47.1, v47.2.1, false)), pts b0 (.cells #[.int .i64 q0_l1.1, .slice A45 q0_l1.2.1.length c46, .int .i64 q0_l1.2.2.1, .int .i64 q0_l1.2.2.2.1, .int .i64 q0_l1.2.2.2.2] 40 (0, 0)), osl 42 (r0 (.pair (.int .i64) (.pair (.int .i64) .bool))) 3 A38 c39 y37] := hS
         have hl62 : List.length (List.set q0_l1.2.1 (q0_l1.2.2.1).toNat (v47.1, v47.2.1, false)) = List.length q0_l1.2.1 := List.length_set
         have hS : Sat w61 B [osl 42 (r0 (.pair (.int .i64) (.pair (.int .i64) .bool))) 3 A45 c46 (List.set q0_l1.2.1 (q0_l1.2.2.1).toNat (v47.1, v47.2.1, false)), pts b0 (.cells #[.int .i64 q0_l1.1, .slice A45 (List.set q0_l1.2.1 (q0_l1.2.2.1).toNat (v47.1, v47.2.1, false)).length c46, .int .i64 q0_l1.2.2.1, .int .i64 q0_l1.2.2.2.1, .int .i64 q0_l1.2.2.2.2] 40 (0, 0)), osl 42 (r0 (.pair (.int .i64) (.pair (.int .i64) .bool))) 3 A38 c39 y37] := by simpa only [hl62] using hS
         refine WR.runk [] [] [0, 1, 6, 7, 8, 9] (L' := [(0, .pointer (some ⟨b0, 0, none⟩)), (1, .int .i64 a1), (6, .int .i64 x6_l1), (7, .slice A38 y37.length c39), (8, .int .i64 p0.2.2.1), (9, .int .i64 x9_l1)]) (w' := w61) kr ?_
         refine WR.nil ?_
         refine At.go ?_
         refine WC.seq kr ?_
         refine WC.reg [0, 1, 2, 3, 4, 5, 6, 7] kr kr ?_
         refine WR.runk [0, 1, 2] [3, 4, 5, 6, 7] [0, 1, 6, 7, 8, 9, 109, 111] (L' := [(0, .pointer (some ⟨b0, 0, none⟩)), (1, .int .i64 a1), (6, .int .i64 x6_l1), (7, .slice A38 y37.length c39), (8, .int .i64 p0.2.2.1), (9, .int .i64 x9_l1), (109, .pointer (some ⟨b0, 0, none⟩)), (111, .pointer (some ⟨b0, 2, none⟩))]) (w' := w61) kr ?_
         refine WR.st (St.ofR (RSt.loadObj (t := 3) (k := 2) (v := .int .i64 q0_l1.2.2.1) (.tmp 111) kr kr kr 1 hS rfl kr rfl ?_))
         refine WR.runk [4, 5, 6] [7] [0, 1, 6, 7, 8, 9, 113, 115] (L' := [(0, .pointer (some ⟨b0, 0, none⟩)), (1, .int .i64 a1), (6, .int .i64 x6_l1), (7, .slice A38 y37.length c39), (8, .int .i64 p0.2.2.1), (9, .int .i64 x9_l1), (113, .int .i64 (wi (q0_l1.2.2.1 + 1))), (115, .pointer (some ⟨b0, 2, none⟩))]) (w' := w61) kr ?_
         have hS : Sat w61 B [pts b0 (.cells #[.int .i64 q0_l1.1, .slice A45 (List.set q0_l1.2.1 (q0_l1.2.2.1).toNat (v47.1, v47.2.1, false)).length c46, .int .i64 q0_l1.2.2.1, .int .i64 q0_l1.2.2.2.1, .int .i64 q0_l1.2.2.2.2] 40 (0, 0)), osl 42 (r0 (.pair (.int .i64) (.pair (.int .i64) .bool))) 3 A45 c46 (List.set q0_l1.2.1 (q0_l1.2.2.1).toNat (v47.1, v47.2.1, false)), osl 42 (r0 (.pair (.int .i64) (.pair (.int .i64) .bool))) 3 A38 c39 y37] := hS.sel [1, 0, 2] kr
         refine WR.st (St.storeObj (t := 3) (k := 2) (cur' := #[.int .i64 q0_l1.1, .slice A45 (List.set q0_l1.2.1 (q0_l1.2.2.1).toNat (v47.1, v47.2.1, false)).length c46, .int .i64 (wi (q0_l1.2.2.1 + 1)), .int .i64 q0_l1.2.2.2.1, .int .i64 q0_l1.2.2.2.2]) (.tmp 115) (.tmp 113) kr kr kr hS kr kr kr rfl rfl (fun w63 hS => ?_))
         refine WR.runk [] [] [0, 1, 6, 7, 8, 9] (L' := [(0, .pointer (some ⟨b0, 0, none⟩)), (1, .int .i64 a1), (6, .int .i64 x6_l1), (7, .slice A38 y37.length c39), (8, .int .i64 p0.2.2.1), (9, .int .i64 x9_l1)]) (w' := w63) kr ?_
         refine WR.nil ?_
         refine At.go ?_
         refine WC.seq kr ?_
         refine WC.reg [0, 1, 2, 3, 4, 5, 6] kr kr ?_
         refine WR.runk [0, 1, 2] [3, 4, 5, 6] [0, 1, 6, 7, 8, 9, 118] (L' := [(0, .pointer (some ⟨b0, 0, none⟩)), (1, .int .i64 a1), (6, .int .i64 x6_l1), (7, .slice A38 y37.length c39), (8, .int .i64 p0.2.2.1), (9, .int .i64 x9_l1), (118, .pointer (some ⟨b0, 2, none⟩))]) (w' := w63) kr ?_
         refine WR.st (St.ofR (RSt.loadObj (t := 3) (k := 2) (v := .int .i64 (wi (q0_l1.2.2.1 + 1))) (.tmp 118) kr kr kr 0 hS rfl kr rfl ?_))
         refine WR.runk [4, 5, 6] [] [0, 1, 6, 7, 8, 9, 122] (L' := [(0, .pointer (some ⟨b0, 0, none⟩)), (1, .int .i64 a1), (6, .int .i64 x6_l1), (7, .slice A38 y37.length c39), (8, .int .i64 p0.2.2.1), (9, .int .i64 x9_l1), (122, .bool ((wi (q0_l1.2.2.1 + 1)) == (y37.length : Int)))]) (w' := w63) kr ?_
         refine WR.nil ?_
         refine At.go ?_
         refine WC.cond kr ((wi (q0_l1.2.2.1 + 1)) == (y37.length : Int)) kr kr (fun hb64 => ?_) (fun hb64 => ?_)
         ·replace H := ite_t H hb64
          refine WC.reg [0, 1, 2, 3] kr kr ?_
          refine WR.runk [0, 1, 2] [3] [0, 1, 6, 7, 8, 9, 125] (L' := [(0, .pointer (some ⟨b0, 0, none⟩)), (1, .int .i64 a1), (6, .int .i64 x6_l1), (7, .slice A38 y37.length c39), (8, .int .i64 p0.2.2.1), (9, .int .i64 x9_l1), (125, .pointer (some ⟨b0, 2, none⟩))]) (w' := w63) kr ?_
          refine WR.st (St.storeObj (t := 3) (k := 2) (cur' := #[.int .i64 q0_l1.1, .slice A45 (List.set q0_l1.2.1 (q0_l1.2.2.1).toNat (v47.1, v47.2.1, false)).length c46, .int .i64 0, .int .i64 q0_l1.2.2.2.1, .int .i64 q0_l1.2.2.2.2]) (.tmp 125) (.const (.int .i64 0)) kr kr kr hS kr kr kr rfl rfl (fun w65 hS => ?_))
          refine WR.runk [] [] [0, 1, 6, 7, 8, 9] (L' := [(0, .pointer (some ⟨b0, 0, none⟩)), (1, .int .i64 a1), (6, .int .i64 x6_l1), (7, .slice A38 y37.length c39), (8, .int .i64 p0.2.2.1), (9, .int .i64 x9_l1)]) (w' := w65) kr ?_
          refine WR.nil ?_
          refine At.blockNormal ?_
          refine At.go ?_
          refine WC.reg [0, 1, 2] kr kr ?_
          refine WR.runk [0, 1, 2] [] [0, 1, 6, 7, 8, 9] (L' := [(0, .pointer (some ⟨b0, 0, none⟩)), (1, .int .i64 a1), (6, .int .i64 x6_l1), (7, .slice A38 y37.length c39), (8, .int .i64 p0.2.2.1), (9, .int .i64 (wi (x9_l1 + 1)))]) (w' := w65) kr ?_
          refine WR.nil ?_
          have hS : Sat w65 B [pts b0 (.cells #[.int .i64 q0_l1.1, .slice A45 (List.set q0_l1.2.1 (q0_l1.2.2.1).toNat (v47.1, v47.2.1, false)).length c46, .int .i64 0, .int .i64 q0_l1.2.2.2.1, .int .i64 q0_l1.2.2.2.2] 40 (0, 0)), osl 42 (r0 (.pair (.int .i64) (.pair (.int .i64) .bool))) 3 A45 c46 (List.set q0_l1.2.1 (q0_l1.2.2.1).toNat (v47.1, v47.2.1, false)), osl 42 (r0 (.pair (.int .i64) (.pair (.int .i64) .bool))) 3 A38 c39 y37] := hS.sel [0, 1, 2] kr
          have hS : Sat w65 B [O40 b0 (q0_l1.1, (List.set q0_l1.2.1 (q0_l1.2.2.1).toNat (v47.1, v47.2.1, false)), 0, q0_l1.2.2.2.1, q0_l1.2.2.2.2), osl 42 (r0 (.pair (.int .i64) (.pair (.int .i64) .bool))) 3 A38 c39 y37] := O40.close (q0_l1.1, (List.set q0_l1.2.1 (q0_l1.2.2.1).toNat (v47.1, v47.2.1, false)), 0, q0_l1.2.2.2.1, q0_l1.2.2.2.2) A45 c46 hS
          have hS : Sat w65 B [osl 42 (r0 (.pair (.int .i64) (.pair (.int .i64) .bool))) 3 A38 c39 y37, O40 b0 (q0_l1.1, (List.set q0_l1.2.1 (q0_l1.2.2.1).toNat (v47.1, v47.2.1, false)), 0, q0_l1.2.2.2.1, q0_l1.2.2.2.2)] := hS.sel [1, 0] kr
          refine At.again ?_
          refine WL.weaken [0, 1, 6, 7, 8, 9] (L' := [(0, .pointer (some ⟨b0, 0, none⟩)), (1, .int .i64 a1), (6, .int .i64 x6_l1), (7, .slice A38 y37.length c39), (8, .int .i64 p0.2.2.1), (9, .int .i64 (wi (x9_l1 + 1)))]) kr ?_
          exact ih x6_l1 (wi (x9_l1 + 1)) (q0_l1.1, (List.set q0_l1.2.1 (q0_l1.2.2.1).toNat (v47.1, v47.2.1, false)), 0, q0_l1.2.2.2.1, q0_l1.2.2.2.2) _ hS H
         ·replace H := ite_f H hb64
          refine WC.skip kr ?_
          refine At.blockNormal ?_
          refine At.go ?_
          refine WC.reg [0, 1, 2] kr kr ?_
          refine WR.runk [0, 1, 2] [] [0, 1, 6, 7, 8, 9] (L' := [(0, .pointer (some ⟨b0, 0, none⟩)), (1, .int .i64 a1), (6, .int .i64 x6_l1), (7, .slice A38 y37.length c39), (8, .int .i64 p0.2.2.1), (9, .int .i64 (wi (x9_l1 + 1)))]) (w' := w63) kr ?_
          refine WR.nil ?_
          have hS : Sat w63 B [pts b0 (.cells #[.int .i64 q0_l1.1, .slice A45 (List.set q0_l1.2.1 (q0_l1.2.2.1).toNat (v47.1, v47.2.1, false)).length c46, .int .i64 (wi (q0_l1.2.2.1 + 1)), .int .i64 q0_l1.2.2.2.1, .int .i64 q0_l1.2.2.2.2] 40 (0, 0)), osl 42 (r0 (.pair (.int .i64) (.pair (.int .i64) .bool))) 3 A45 c46 (List.set q0_l1.2.1 (q0_l1.2.2.1).toNat (v47.1, v47.2.1, false)), osl 42 (r0 (.pair (.int .i64) (.pair (.int .i64) .bool))) 3 A38 c39 y37] := hS.sel [0, 1, 2] kr
          have hS : Sat w63 B [O40 b0 (q0_l1.1, (List.set q0_l1.2.1 (q0_l1.2.2.1).toNat (v47.1, v47.2.1, false)), wi (q0_l1.2.2.1 + 1), q0_l1.2.2.2.1, q0_l1.2.2.2.2), osl 42 (r0 (.pair (.int .i64) (.pair (.int .i64) .bool))) 3 A38 c39 y37] := O40.close (q0_l1.1, (List.set q0_l1.2.1 (q0_l1.2.2.1).toNat (v47.1, v47.2.1, false)), wi (q0_l1.2.2.1 + 1), q0_l1.2.2.2.1, q0_l1.2.2.2.2) A45 c46 hS
          have hS : Sat w63 B [osl 42 (r0 (.pair (.int .i64) (.pair (.int .i64) .bool))) 3 A38 c39 y37, O40 b0 (q0_l1.1, (List.set q0_l1.2.1 (q0_l1.2.2.1).toNat (v47.1, v47.2.1, false)), wi (q0_l1.2.2.1 + 1), q0_l1.2.2.2.1, q0_l1.2.2.2.2)] := hS.sel [1, 0] kr
          refine At.again ?_
          refine WL.weaken [0, 1, 6, 7, 8, 9] (L' := [(0, .pointer (some ⟨b0, 0, none⟩)), (1, .int .i64 a1), (6, .int .i64 x6_l1), (7, .slice A38 y37.length c39), (8, .int .i64 p0.2.2.1), (9, .int .i64 (wi (x9_l1 + 1)))]) kr ?_
          exact ih x6_l1 (wi (x9_l1 + 1)) (q0_l1.1, (List.set q0_l1.2.1 (q0_l1.2.2.1).toNat (v47.1, v47.2.1, false)), wi (q0_l1.2.2.1 + 1), q0_l1.2.2.2.1, q0_l1.2.2.2.2) _ hS H
        ·replace H := ite_f H hb60
         refine WC.skip kr ?_
         refine At.go ?_
         refine WC.seq kr ?_
         refine WC.reg [0, 1, 2, 3, 4, 5, 6, 7] kr kr ?_
         refine WR.runk [0, 1, 2] [3, 4, 5, 6, 7] [0, 1, 6, 7, 8, 9, 109, 111] (L' := [(0, .pointer (some ⟨b0, 0, none⟩)), (1, .int .i64 a1), (6, .int .i64 x6_l1), (7, .slice A38 y37.length c39), (8, .int .i64 p0.2.2.1), (9, .int .i64 x9_l1), (109, .pointer (some ⟨b0, 0, none⟩)), (111, .pointer (some ⟨b0, 2, none⟩))]) (w' := w43) kr ?_
         refine WR.st (St.ofR (RSt.loadObj (t := 3) (k := 2) (v := .int .i64 q0_l1.2.2.1) (.tmp 111) kr kr kr 0 hS rfl kr rfl ?_))
         refine WR.runk [4, 5, 6] [7] [0, 1, 6, 7, 8, 9, 113, 115] (L' := [(0, .pointer (some ⟨b0, 0, none⟩)), (1, .int .i64 a1), (6, .int .i64 x6_l1), (7, .slice A38 y37.length c39), (8, .int .i64 p0.2.2.1), (9, .int .i64 x9_l1), (113, .int .i64 (wi (q0_l1.2.2.1 + 1))), (115, .pointer (some ⟨b0, 2, none⟩))]) (w' := w43) kr ?_
         refine WR.st (St.storeObj (t := 3) (k := 2) (cur' := #[.int .i64 q0_l1.1, .slice A45 q0_l1.2.1.length c46, .int .i64 (wi (q0_l1.2.2.1 + 1)), .int .i64 q0_l1.2.2.2.1, .int .i64 q0_l1.2.2.2.2]) (.tmp 115) (.tmp 113) kr kr kr hS kr kr kr rfl rfl (fun w66 hS => ?_))
         refine WR.runk [] [] [0, 1, 6, 7, 8, 9] (L' := [(0, .pointer (some ⟨b0, 0, none⟩)), (1, .int .i64 a1), (6, .int .i64 x6_l1), (7, .slice A38 y37.length c39), (8, .int .i64 p0.2.2.1), (9, .int .i64 x9_l1)]) (w' := w66) kr ?_
         refine WR.nil ?_
         refine At.go ?_
         refine WC.seq kr ?_
         refine WC.reg [0, 1, 2, 3, 4, 5, 6] kr kr ?_
         refine WR.runk [0, 1, 2] [3, 4, 5, 6] [0, 1, 6, 7, 8, 9, 118] (L' := [(0, .pointer (some ⟨b0, 0, none⟩)), (1, .int .i64 a1), (6, .int .i64 x6_l1), (7, .slice A38 y37.length c39), (8, .int .i64 p0.2.2.1), (9, .int .i64 x9_l1), (118, .pointer (some ⟨b0, 2, none⟩))]) (w' := w66) kr ?_
         refine WR.st (St.ofR (RSt.loadObj (t := 3) (k := 2) (v := .int .i64 (wi (q0_l1.2.2.1 + 1))) (.tmp 118) kr kr kr 0 hS rfl kr rfl ?_))
         refine WR.runk [4, 5, 6] [] [0, 1, 6, 7, 8, 9, 122] (L' := [(0, .pointer (some ⟨b0, 0, none⟩)), (1, .int .i64 a1), (6, .int .i64 x6_l1), (7, .slice A38 y37.length c39), (8, .int .i64 p0.2.2.1), (9, .int .i64 x9_l1), (122, .bool ((wi (q0_l1.2.2.1 + 1)) == (y37.length : Int)))]) (w' := w66) kr ?_
         refine WR.nil ?_
         refine At.go ?_
         refine WC.cond kr ((wi (q0_l1.2.2.1 + 1)) == (y37.length : Int)) kr kr (fun hb67 => ?_) (fun hb67 => ?_)
         ·replace H := ite_t H hb67
          refine WC.reg [0, 1, 2, 3] kr kr ?_
          refine WR.runk [0, 1, 2] [3] [0, 1, 6, 7, 8, 9, 125] (L' := [(0, .pointer (some ⟨b0, 0, none⟩)), (1, .int .i64 a1), (6, .int .i64 x6_l1), (7, .slice A38 y37.length c39), (8, .int .i64 p0.2.2.1), (9, .int .i64 x9_l1), (125, .pointer (some ⟨b0, 2, none⟩))]) (w' := w66) kr ?_
          refine WR.st (St.storeObj (t := 3) (k := 2) (cur' := #[.int .i64 q0_l1.1, .slice A45 q0_l1.2.1.length c46, .int .i64 0, .int .i64 q0_l1.2.2.2.1, .int .i64 q0_l1.2.2.2.2]) (.tmp 125) (.const (.int .i64 0)) kr kr kr hS kr kr kr rfl rfl (fun w68 hS => ?_))
          refine WR.runk [] [] [0, 1, 6, 7, 8, 9] (L' := [(0, .pointer (some ⟨b0, 0, none⟩)), (1, .int .i64 a1), (6, .int .i64 x6_l1), (7, .slice A38 y37.length c39), (8, .int .i64 p0.2.2.1), (9, .int .i64 x9_l1)]) (w' := w68) kr ?_
          refine WR.nil ?_
          refine At.blockNormal ?_
          refine At.go ?_
          refine WC.reg [0, 1, 2] kr kr ?_
          refine WR.runk [0, 1, 2] [] [0, 1, 6, 7, 8, 9] (L' := [(0, .pointer (some ⟨b0, 0, none⟩)), (1, .int .i64 a1), (6, .int .i64 x6_l1), (7, .slice A38 y37.length c39), (8, .int .i64 p0.2.2.1), (9, .int .i64 (wi (x9_l1 + 1)))]) (w' := w68) kr ?_
          refine WR.nil ?_
          have hS : Sat w68 B [pts b0 (.cells #[.int .i64 q0_l1.1, .slice A45 q0_l1.2.1.length c46, .int .i64 0, .int .i64 q0_l1.2.2.2.1, .int .i64 q0_l1.2.2.2.2] 40 (0, 0)), osl 42 (r0 (.pair (.int .i64) (.pair (.int .i64) .bool))) 3 A45 c46 q0_l1.2.1, osl 42 (r0 (.pair (.int .i64) (.pair (.int .i64) .bool))) 3 A38 c39 y37] := hS.sel [0, 1, 2] kr
          have hS : Sat w68 B [O40 b0 (q0_l1.1, q0_l1.2.1, 0, q0_l1.2.2.2.1, q0_l1.2.2.2.2), osl 42 (r0 (.pair (.int .i64) (.pair (.int .i64) .bool))) 3 A38 c39 y37] := O40.close (q0_l1.1, q0_l1.2.1, 0, q0_l1.2.2.2.1, q0_l1.2.2.2.2) A45 c46 hS
          have hS : Sat w68 B [osl 42 (r0 (.pair (.int .i64) (.pair (.int .i64) .bool))) 3 A38 c39 y37, O40 b0 (q0_l1.1, q0_l1.2.1, 0, q0_l1.2.2.2.1, q0_l1.2.2.2.2)] := hS.sel [1, 0] kr
          refine At.again ?_
          refine WL.weaken [0, 1, 6, 7, 8, 9] (L' := [(0, .pointer (some ⟨b0, 0, none⟩)), (1, .int .i64 a1), (6, .int .i64 x6_l1), (7, .slice A38 y37.length c39), (8, .int .i64 p0.2.2.1), (9, .int .i64 (wi (x9_l1 + 1)))]) kr ?_
          exact ih x6_l1 (wi (x9_l1 + 1)) (q0_l1.1, q0_l1.2.1, 0, q0_l1.2.2.2.1, q0_l1.2.2.2.2) _ hS H
         ·replace H := ite_f H hb67
          refine WC.skip kr ?_
          refine At.blockNormal ?_
          refine At.go ?_
          refine WC.reg [0, 1, 2] kr kr ?_
          refine WR.runk [0, 1, 2] [] [0, 1, 6, 7, 8, 9] (L' := [(0, .pointer (some ⟨b0, 0, none⟩)), (1, .int .i64 a1), (6, .int .i64 x6_l1), (7, .slice A38 y37.length c39), (8, .int .i64 p0.2.2.1), (9, .int .i64 (wi (x9_l1 + 1)))]) (w' := w66) kr ?_
          refine WR.nil ?_
          have hS : Sat w66 B [pts b0 (.cells #[.int .i64 q0_l1.1, .slice A45 q0_l1.2.1.length c46, .int .i64 (wi (q0_l1.2.2.1 + 1)), .int .i64 q0_l1.2.2.2.1, .int .i64 q0_l1.2.2.2.2] 40 (0, 0)), osl 42 (r0 (.pair (.int .i64) (.pair (.int .i64) .bool))) 3 A45 c46 q0_l1.2.1, osl 42 (r0 (.pair (.int .i64) (.pair (.int .i64) .bool))) 3 A38 c39 y37] := hS.sel [0, 1, 2] kr
          have hS : Sat w66 B [O40 b0 (q0_l1.1, q0_l1.2.1, wi (q0_l1.2.2.1 + 1), q0_l1.2.2.2.1, q0_l1.2.2.2.2), osl 42 (r0 (.pair (.int .i64) (.pair (.int .i64) .bool))) 3 A38 c39 y37] := O40.close (q0_l1.1, q0_l1.2.1, wi (q0_l1.2.2.1 + 1), q0_l1.2.2.2.1, q0_l1.2.2.2.2) A45 c46 hS
          have hS : Sat w66 B [osl 42 (r0 (.pair (.int .i64) (.pair (.int .i64) .bool))) 3 A38 c39 y37, O40 b0 (q0_l1.1, q0_l1.2.1, wi (q0_l1.2.2.1 + 1), q0_l1.2.2.2.1, q0_l1.2.2.2.2)] := hS.sel [1, 0] kr
          refine At.again ?_
          refine WL.weaken [0, 1, 6, 7, 8, 9] (L' := [(0, .pointer (some ⟨b0, 0, none⟩)), (1, .int .i64 a1), (6, .int .i64 x6_l1), (7, .slice A38 y37.length c39), (8, .int .i64 p0.2.2.1), (9, .int .i64 (wi (x9_l1 + 1)))]) kr ?_
          exact ih x6_l1 (wi (x9_l1 + 1)) (q0_l1.1, q0_l1.2.1, wi (q0_l1.2.2.1 + 1), q0_l1.2.2.2.1, q0_l1.2.2.2.2) _ hS H
      ·replace H := ite_f H hb49
       refine WR.runk [6, 7, 8, 9, 10, 11] [] [0, 1, 6, 7, 8, 9, 10, 96] (L' := [(0, .pointer (some ⟨b0, 0, none⟩)), (1, .int .i64 a1), (6, .int .i64 x6_l1), (7, .slice A38 y37.length c39), (8, .int .i64 p0.2.2.1), (9, .int .i64 x9_l1), (10, .pointer (some (adr A45 (q0_l1.2.2.1).toNat 3))), (96, .bool false)]) (w' := w43) kr ?_
       refine WR.nil ?_
       refine At.go ?_
       refine WC.condF kr kr kr ?_
       refine WC.skip kr ?_
       refine At.go ?_
       refine WC.seq kr ?_
       refine WC.seq kr ?_
       refine WC.reg [0, 1, 2, 3, 4] kr kr ?_
       refine WR.runk [0, 1, 2] [3, 4] [0, 1, 6, 7, 8, 9, 10, 103] (L' := [(0, .pointer (some ⟨b0, 0, none⟩)), (1, .int .i64 a1), (6, .int .i64 x6_l1), (7, .slice A38 y37.length c39), (8, .int .i64 p0.2.2.1), (9, .int .i64 x9_l1), (10, .pointer (some (adr A45 (q0_l1.2.2.1).toNat 3))), (103, .pointer (some ((adr A45 (q0_l1.2.2.1).toNat 3).add 1)))]) (w' := w43) kr ?_
       refine WR.st (St.ofR (RSt.loadPart (t := 3) (κ := (.pair (.int .i64) (.pair (.int .i64) .bool))) (.tmp 103) 1 kr kr kr kr kr (Sat.rdAt 1 hS rfl) e48 (u := .int .i64 v47.2.1) kr ?_))
       refine WR.runk [4] [] [0, 1, 6, 7, 8, 9, 10, 105] (L' := [(0, .pointer (some ⟨b0, 0, none⟩)), (1, .int .i64 a1), (6, .int .i64 x6_l1), (7, .slice A38 y37.length c39), (8, .int .i64 p0.2.2.1), (9, .int .i64 x9_l1), (10, .pointer (some (adr A45 (q0_l1.2.2.1).toNat 3))), (105, .bool (v47.2.1 == 0))]) (w' := w43) kr ?_
       refine WR.nil ?_
       refine At.go ?_
       refine WC.cond kr (v47.2.1 == 0) kr kr (fun hb69 => ?_) (fun hb69 => ?_)
       ·replace H := ite_t H hb69
        refine WC.reg [0, 1, 2, 3] kr kr ?_
        refine WR.runk [0, 1, 2] [3] [0, 1, 6, 7, 8, 9, 108] (L' := [(0, .pointer (some ⟨b0, 0, none⟩)), (1, .int .i64 a1), (6, .int .i64 x6_l1), (7, .slice A38 y37.length c39), (8, .int .i64 p0.2.2.1), (9, .int .i64 x9_l1), (108, .pointer (some ((adr A45 (q0_l1.2.2.1).toNat 3).add 2)))]) (w' := w43) kr ?_
        have hS : Sat w43 B [osl 42 (r0 (.pair (.int .i64) (.pair (.int .i64) .bool))) 3 A45 c46 q0_l1.2.1, pts b0 (.cells #[.int .i64 q0_l1.1, .slice A45 q0_l1.2.1.length c46, .int .i64 q0_l1.2.2.1, .int .i64 q0_l1.2.2.2.1, .int .i64 q0_l1.2.2.2.2] 40 (0, 0)), osl 42 (r0 (.pair (.int .i64) (.pair (.int .i64) .bool))) 3 A38 c39 y37] := hS.sel [1, 0, 2] kr
        refine WR.st (St.storePart (t := 4) (κ := (.pair (.int .i64) (.pair (.int .i64) .bool))) (v' := (v47.1, v47.2.1, false)) (.tmp 108) (.const (.bool false)) 2 kr kr kr kr hS kr kr kr kr e48 rfl (fun w70 hS => ?_))
        have hS : Sat w70 B [osl 42 (r0 (.pair (.int .i64) (.pair (.int .i64) .bool))) 3 A45 c46 (List.set q0_l1.2.1 (q0_l1.2.2.1).toNat (v47.1, v47.2.1, false)), pts b0 (.cells #[.int .i64 q0_l1.1, .slice A45 q0_l1.2.1.length c46, .int .i64 q0_l1.2.2.1, .int .i64 q0_l1.2.2.2.1, .int .i64 q0_l1.2.2.2.2] 40 (0, 0)), osl 42 (r0 (.pair (.int .i64) (.pair (.int .i64) .bool))) 3 A38 c39 y37] := hS
        have hl71 : List.length (List.set q0_l1.2.1 (q0_l1.2.2.1).toNat (v47.1, v47.2.1, false)) = List.length q0_l1.2.1 := List.length_set
        have hS : Sat w70 B [osl 42 (r0 (.pair (.int .i64) (.pair (.int .i64) .bool))) 3 A45 c46 (List.set q0_l1.2.1 (q0_l1.2.2.1).toNat (v47.1, v47.2.1, false)), pts b0 (.cells #[.int .i64 q0_l1.1, .slice A45 (List.set q0_l1.2.1 (q0_l1.2.2.1).toNat (v47.1, v47.2.1, false)).length c46, .int .i64 q0_l1.2.2.1, .int .i64 q0_l1.2.2.2.1, .int .i64 q0_l1.2.2.2.2] 40 (0, 0)), osl 42 (r0 (.pair (.int .i64) (.pair (.int .i64) .bool))) 3 A38 c39 y37] := by simpa only [hl71] using hS
        refine WR.runk [] [] [0, 1, 6, 7, 8, 9] (L' := [(0, .pointer (some ⟨b0, 0, none⟩)), (1, .int .i64 a1), (6, .int .i64 x6_l1), (7, .slice A38 y37.length c39), (8, .int .i64 p0.2.2.1), (9, .int .i64 x9_l1)]) (w' := w70) kr ?_
        refine WR.nil ?_
        refine At.go ?_
        refine WC.seq kr ?_
        refine WC.reg [0, 1, 2, 3, 4, 5, 6, 7] kr kr ?_
        refine WR.runk [0, 1, 2] [3, 4, 5, 6, 7] [0, 1, 6, 7, 8, 9, 109, 111] (L' := [(0, .pointer (some ⟨b0, 0, none⟩)), (1, .int .i64 a1), (6, .int .i64 x6_l1), (7, .slice A38 y37.length c39), (8, .int .i64 p0.2.2.1), (9, .int .i64 x9_l1), (109, .pointer (some ⟨b0, 0, none⟩)), (111, .pointer (some ⟨b0, 2, none⟩))]) (w' := w70) kr ?_
        refine WR.st (St.ofR (RSt.loadObj (t := 3) (k := 2) (v := .int .i64 q0_l1.2.2.1) (.tmp 111) kr kr kr 1 hS rfl kr rfl ?_))
        refine WR.runk [4, 5, 6] [7] [0, 1, 6, 7, 8, 9, 113, 115] (L' := [(0, .pointer (some ⟨b0, 0, none⟩)), (1, .int .i64 a1), (6, .int .i64 x6_l1), (7, .slice A38 y37.length c39), (8, .int .i64 p0.2.2.1), (9, .int .i64 x9_l1), (113, .int .i64 (wi (q0_l1.2.2.1 + 1))), (115, .pointer (some ⟨b0, 2, none⟩))]) (w' := w70) kr ?_
        have hS : Sat w70 B [pts b0 (.cells #[.int .i64 q0_l1.1, .slice A45 (List.set q0_l1.2.1 (q0_l1.2.2.1).toNat (v47.1, v47.2.1, false)).length c46, .int .i64 q0_l1.2.2.1, .int .i64 q0_l1.2.2.2.1, .int .i64 q0_l1.2.2.2.2] 40 (0, 0)), osl 42 (r0 (.pair (.int .i64) (.pair (.int .i64) .bool))) 3 A45 c46 (List.set q0_l1.2.1 (q0_l1.2.2.1).toNat (v47.1, v47.2.1, false)), osl 42 (r0 (.pair (.int .i64) (.pair (.int .i64) .bool))) 3 A38 c39 y37] := hS.sel [1, 0, 2] kr
        refine WR.st (St.storeObj (t := 3) (k := 2) (cur' := #[.int .i64 q0_l1.1, .slice A45 (List.set q0_l1.2.1 (q0_l1.2.2.1).toNat (v47.1, v47.2.1, false)).length c46, .int .i64 (wi (q0_l1.2.2.1 + 1)), .int .i64 q0_l1.2.2.2.1, .int .i64 q0_l1.2.2.2.2]) (.tmp 115) (.tmp 113) kr kr kr hS kr kr kr rfl rfl (fun w72 hS => ?_))
        refine WR.runk [] [] [0, 1, 6, 7, 8, 9] (L' := [(0, .pointer (some ⟨b0, 0, none⟩)), (1, .int .i64 a1), (6, .int .i64 x6_l1), (7, .slice A38 y37.length c39), (8, .int .i64 p0.2.2.1), (9, .int .i64 x9_l1)]) (w' := w72) kr ?_
        refine WR.nil ?_
        refine At.go ?_
        refine WC.seq kr ?_
        refine WC.reg [0, 1, 2, 3, 4, 5, 6] kr kr ?_
        refine WR.runk [0, 1, 2] [3, 4, 5, 6] [0, 1, 6, 7, 8, 9, 118] (L' := [(0, .pointer (some ⟨b0, 0, none⟩)), (1, .int .i64 a1), (6, .int .i64 x6_l1), (7, .slice A38 y37.length c39), (8, .int .i64 p0.2.2.1), (9, .int .i64 x9_l1), (118, .pointer (some ⟨b0, 2, none⟩))]) (w' := w72) kr ?_
        refine WR.st (St.ofR (RSt.loadObj (t := 3) (k := 2) (v := .int .i64 (wi (q0_l1.2.2.1 + 1))) (.tmp 118) kr kr kr 0 hS rfl kr rfl ?_))
        refine WR.runk [4, 5, 6] [] [0, 1, 6, 7, 8, 9, 122] (L' := [(0, .pointer (some ⟨b0, 0, none⟩)), (1, .int .i64 a1), (6, .int .i64 x6_l1), (7, .slice A38 y37.length c39), (8, .int .i64 p0.2.2.1), (9, .int .i64 x9_l1), (122, .bool ((wi (q0_l1.2.2.1 + 1)) == (y37.length : Int)))]) (w' := w72) kr ?_
        refine WR.nil ?_
        refine At.go ?_
        refine WC.cond kr ((wi (q0_l1.2.2.1 + 1)) == (y37.length : Int)) kr kr (fun hb73 => ?_) (fun hb73 => ?_)
        ·replace H := ite_t H hb73
         refine WC.reg [0, 1, 2, 3] kr kr ?_
         refine WR.runk [0, 1, 2] [3] [0, 1, 6, 7, 8, 9, 125] (L' := [(0, .pointer (some ⟨b0, 0, none⟩)), (1, .int .i64 a1), (6, .int .i64 x6_l1), (7, .slice A38 y37.length c39), (8, .int .i64 p0.2.2.1), (9, .int .i64 x9_l1), (125, .pointer (some ⟨b0, 2, none⟩))]) (w' := w72) kr ?_
         refine WR.st (St.storeObj (t := 3) (k := 2) (cur' := #[.int .i64 q0_l1.1, .slice A45 (List.set q0_l1.2.1 (q0_l1.2.2.1).toNat (v47.1, v47.2.1, false)).length c46, .int .i64 0, .int .i64 q0_l1.2.2.2.1, .int .i64 q0_l1.2.2.2.2]) (.tmp 125) (.const (.int .i64 0)) kr kr kr hS kr kr kr rfl rfl (fun w74 hS => ?_))
         refine WR.runk [] [] [0, 1, 6, 7, 8, 9] (L' := [(0, .pointer (some ⟨b0, 0, none⟩)), (1, .int .i64 a1), (6, .int .i64 x6_l1), (7, .slice A38 y37.length c39), (8, .int .i64 p0.2.2.1), (9, .int .i64 x9_l1)]) (w' := w74) kr ?_
         refine WR.nil ?_
         refine At.blockNormal ?_
         refine At.go ?_
         refine WC.reg [0, 1, 2] kr kr ?_
         refine WR.runk [0, 1, 2] [] [0, 1, 6, 7, 8, 9] (L' := [(0, .pointer (some ⟨b0, 0, none⟩)), (1, .int .i64 a1), (6, .int .i64 x6_l1), (7, .slice A38 y37.length c39), (8, .int .i64 p0.2.2.1), (9, .int .i64 (wi (x9_l1 + 1)))]) (w' := w74) kr ?_
         refine WR.nil ?_
         have hS : Sat w74 B [pts b0 (.cells #[.int .i64 q0_l1.1, .slice A45 (List.set q0_l1.2.1 (q0_l1.2.2.1).toNat (v47.1, v47.2.1, false)).length c46, .int .i64 0, .int .i64 q0_l1.2.2.2.1, .int .i64 q0_l1.2.2.2.2] 40 (0, 0)), osl 42 (r0 (.pair (.int .i64) (.pair (.int .i64) .bool))) 3 A45 c46 (List.set q0_l1.2.1 (q0_l1.2.2.1).toNat (v47.1, v47.2.1, false)), osl 42 (r0 (.pair (.int .i64) (.pair (.int .i64) .bool))) 3 A38 c39 y37] := hS.sel [0, 1, 2] kr
         have hS : Sat w74 B [O40 b0 (q0_l1.1, (List.set q0_l1.2.1 (q0_l1.2.2.1).toNat (v47.1, v47.2.1, false)), 0, q0_l1.2.2.2.1, q0_l1.2.2.2.2), osl 42 (r0 (.pair (.int .i64) (.pair (.int .i64) .bool))) 3 A38 c39 y37] := O40.close (q0_l1.1, (List.set q0_l1.2.1 (q0_l1.2.2.1).toNat (v47.1, v47.2.1, false)), 0, q0_l1.2.2.2.1, q0_l1.2.2.2.2) A45 c46 hS
         have hS : Sat w74 B [osl 42 (r0 (.pair (.int .i64) (.pair (.int .i64) .bool))) 3 A38 c39 y37, O40 b0 (q0_l1.1, (List.set q0_l1.2.1 (q0_l1.2.2.1).toNat (v47.1, v47.2.1, false)), 0, q0_l1.2.2.2.1, q0_l1.2.2.2.2)] := hS.sel [1, 0] kr
         refine At.again ?_
         refine WL.weaken [0, 1, 6, 7, 8, 9] (L' := [(0, .pointer (some ⟨b0, 0, none⟩)), (1, .int .i64 a1), (6, .int .i64 x6_l1), (7, .slice A38 y37.length c39), (8, .int .i64 p0.2.2.1), (9, .int .i64 (wi (x9_l1 + 1)))]) kr ?_
         exact ih x6_l1 (wi (x9_l1 + 1)) (q0_l1.1, (List.set q0_l1.2.1 (q0_l1.2.2.1).toNat (v47.1, v47.2.1, false)), 0, q0_l1.2.2.2.1, q0_l1.2.2.2.2) _ hS H
        ·replace H := ite_f H hb73
         refine WC.skip kr ?_
         refine At.blockNormal ?_
         refine At.go ?_
         refine WC.reg [0, 1, 2] kr kr ?_
         refine WR.runk [0, 1, 2] [] [0, 1, 6, 7, 8, 9] (L' := [(0, .pointer (some ⟨b0, 0, none⟩)), (1, .int .i64 a1), (6, .int .i64 x6_l1), (7, .slice A38 y37.length c39), (8, .int .i64 p0.2.2.1), (9, .int .i64 (wi (x9_l1 + 1)))]) (w' := w72) kr ?_
         refine WR.nil ?_
         have hS : Sat w72 B [pts b0 (.cells #[.int .i64 q0_l1.1, .slice A45 (List.set q0_l1.2.1 (q0_l1.2.2.1).toNat (v47.1, v47.2.1, false)).length c46, .int .i64 (wi (q0_l1.2.2.1 + 1)), .int .i64 q0_l1.2.2.2.1, .int .i64 q0_l1.2.2.2.2] 40 (0, 0)), osl 42 (r0 (.pair (.int .i64) (.pair (.int .i64) .bool))) 3 A45 c46 (List.set q0_l1.2.1 (q0_l1.2.2.1).toNat (v47.1, v47.2.1, false)), osl 42 (r0 (.pair (.int .i64) (.pair (.int .i64) .bool))) 3 A38 c39 y37] := hS.sel [0, 1, 2] kr
         have hS : Sat w72 B [O40 b0 (q0_l1.1, (List.set q0_l1.2.1 (q0_l1.2.2.1).toNat (v47.1, v47.2.1, false)), wi (q0_l1.2.2.1 + 1), q0_l1.2.2.2.1, q0_l1.2.2.2.2), osl 42 (r0 (.pair (.int .i64) (.pair (.int .i64) .bool))) 3 A38 c39 y37] := O40.close (q0_l1.1, (List.set q0_l1.2.1 (q0_l1.2.2.1).toNat (v47.1, v47.2.1, false)), wi (q0_l1.2.2.1 + 1), q0_l1.2.2.2.1, q0_l1.2.2.2.2) A45 c46 hS
         have hS : Sat w72 B [osl 42 (r0 (.pair (.int .i64) (.pair (.int .i64) .bool))) 3 A38 c39 y37, O40 b0 (q0_l1.1, (List.set q0_l1.2.1 (q0_l1.2.2.1).toNat (v47.1, v47.2.1, false)), wi (q0_l1.2.2.1 + 1), q0_l1.2.2.2.1, q0_l1.2.2.2.2)] := hS.sel [1, 0] kr
         refine At.again ?_
         refine WL.weaken [0, 1, 6, 7, 8, 9] (L' := [(0, .pointer (some ⟨b0, 0, none⟩)), (1, .int .i64 a1), (6, .int .i64 x6_l1), (7, .slice A38 y37.length c39), (8, .int .i64 p0.2.2.1), (9, .int .i64 (wi (x9_l1 + 1)))]) kr ?_
         exact ih x6_l1 (wi (x9_l1 + 1)) (q0_l1.1, (List.set q0_l1.2.1 (q0_l1.2.2.1).toNat (v47.1, v47.2.1, false)), wi (q0_l1.2.2.1 + 1), q0_l1.2.2.2.1, q0_l1.2.2.2.2) _ hS H
       ·replace H := ite_f H hb69
        refine WC.skip kr ?_
        refine At.go ?_
        refine WC.seq kr ?_
        refine WC.reg [0, 1, 2, 3, 4, 5, 6, 7] kr kr ?_
        refine WR.runk [0, 1, 2] [3, 4, 5, 6, 7] [0, 1, 6, 7, 8, 9, 109, 111] (L' := [(0, .pointer (some ⟨b0, 0, none⟩)), (1, .int .i64 a1), (6, .int .i64 x6_l1), (7, .slice A38 y37.length c39), (8, .int .i64 p0.2.2.1), (9, .int .i64 x9_l1), (109, .pointer (some ⟨b0, 0, none⟩)), (111, .pointer (some ⟨b0, 2, none⟩))]) (w' := w43) kr ?_
        refine WR.st (St.ofR (RSt.loadObj (t := 3) (k := 2) (v := .int .i64 q0_l1.2.2.1) (.tmp 111) kr kr kr 0 hS rfl kr rfl ?_))
        refine WR.runk [4, 5, 6] [7] [0, 1, 6, 7, 8, 9, 113, 115] (L' := [(0, .pointer (some ⟨b0, 0, none⟩)), (1, .int .i64 a1), (6, .int .i64 x6_l1), (7, .slice A38 y37.length c39), (8, .int .i64 p0.2.2.1), (9, .int .i64 x9_l1), (113, .int .i64 (wi (q0_l1.2.2.1 + 1))), (115, .pointer (some ⟨b0, 2, none⟩))]) (w' := w43) kr ?_
        refine WR.st (St.storeObj (t := 3) (k := 2) (cur' := #[.int .i64 q0_l1.1, .slice A45 q0_l1.2.1.length c46, .int .i64 (wi (q0_l1.2.2.1 + 1)), .int .i64 q0_l1.2.2.2.1, .int .i64 q0_l1.2.2.2.2]) (.tmp 115) (.tmp 113) kr kr kr hS kr kr kr rfl rfl (fun w75 hS => ?_))
        refine WR.runk [] [] [0, 1, 6, 7, 8, 9] (L' := [(0, .pointer (some ⟨b0, 0, none⟩)), (1, .int .i64 a1), (6, .int .i64 x6_l1), (7, .slice A38 y37.length c39), (8, .int .i64 p0.2.2.1), (9, .int .i64 x9_l1)]) (w' := w75) kr ?_
        refine WR.nil ?_
        refine At.go ?_
        refine WC.seq kr ?_
        refine WC.reg [0, 1, 2, 3, 4, 5, 6] kr kr ?_
        refine WR.runk [0, 1, 2] [3, 4, 5, 6] [0, 1, 6, 7, 8, 9, 118] (L' := [(0, .pointer (some ⟨b0, 0, none⟩)), (1, .int .i64 a1), (6, .int .i64 x6_l1), (7, .slice A38 y37.length c39), (8, .int .i64 p0.2.2.1), (9, .int .i64 x9_l1), (118, .pointer (some ⟨b0, 2, none⟩))]) (w' := w75) kr ?_
        refine WR.st (St.ofR (RSt.loadObj (t := 3) (k := 2) (v := .int .i64 (wi (q0_l1.2.2.1 + 1))) (.tmp 118) kr kr kr 0 hS rfl kr rfl ?_))
        refine WR.runk [4, 5, 6] [] [0, 1, 6, 7, 8, 9, 122] (L' := [(0, .pointer (some ⟨b0, 0, none⟩)), (1, .int .i64 a1), (6, .int .i64 x6_l1), (7, .slice A38 y37.length c39), (8, .int .i64 p0.2.2.1), (9, .int .i64 x9_l1), (122, .bool ((wi (q0_l1.2.2.1 + 1)) == (y37.length : Int)))]) (w' := w75) kr ?_
        refine WR.nil ?_
        refine At.go ?_
        refine WC.cond kr ((wi (q0_l1.2.2.1 + 1)) == (y37.length : Int)) kr kr (fun hb76 => ?_) (fun hb76 => ?_)
        ·replace H := ite_t H hb76
         refine WC.reg [0, 1, 2, 3] kr kr ?_
         refine WR.runk [0, 1, 2] [3] [0, 1, 6, 7, 8, 9, 125] (L' := [(0, .pointer (some ⟨b0, 0, none⟩)), (1, .int .i64 a1), (6, .int .i64 x6_l1), (7, .slice A38 y37.length c39), (8, .int .i64 p0.2.2.1), (9, .int .i64 x9_l1), (125, .pointer (some ⟨b0, 2, none⟩))]) (w' := w75) kr ?_
         refine WR.st (St.storeObj (t := 3) (k := 2) (cur' := #[.int .i64 q0_l1.1, .slice A45 q0_l1.2.1.length c46, .int .i64 0, .int .i64 q0_l1.2.2.2.1, .int .i64 q0_l1.2.2.2.2]) (.tmp 125) (.const (.int .i64 0)) kr kr kr hS kr kr kr rfl rfl (fun w77 hS => ?_))
         refine WR.runk [] [] [0, 1, 6, 7, 8, 9] (L' := [(0, .pointer (some ⟨b0, 0, none⟩)), (1, .int .i64 a1), (6, .int .i64 x6_l1), (7, .slice A38 y37.length c39), (8, .int .i64 p0.2.2.1), (9, .int .i64 x9_l1)]) (w' := w77) kr ?_
         refine WR.nil ?_
         refine At.blockNormal ?_
         refine At.go ?_
         refine WC.reg [0, 1, 2] kr kr ?_
         refine WR.runk [0, 1, 2] [] [0, 1, 6, 7, 8, 9] (L' := [(0, .pointer (some ⟨b0, 0, none⟩)), (1, .int .i64 a1), (6, .int .i64 x6_l1), (7, .slice A38 y37.length c39), (8, .int .i64 p0.2.2.1), (9, .int .i64 (wi (x9_l1 + 1)))]) (w' := w77) kr ?_
         refine WR.nil ?_
         have hS : Sat w77 B [pts b0 (.cells #[.int .i64 q0_l1.1, .slice A45 q0_l1.2.1.length c46, .int .i64 0, .int .i64 q0_l1.2.2.2.1, .int .i64 q0_l1.2.2.2.2] 40 (0, 0)), osl 42 (r0 (.pair (.int .i64) (.pair (.int .i64) .bool))) 3 A45 c46 q0_l1.2.1, osl 42 (r0 (.pair (.int .i64) (.pair (.int .i64) .bool))) 3 A38 c39 y37] := hS.sel [0, 1, 2] kr
         have hS : Sat w77 B [O40 b0 (q0_l1.1, q0_l1.2.1, 0, q0_l1.2.2.2.1, q0_l1.2.2.2.2), osl 42 (r0 (.pair (.int .i64) (.pair (.int .i64) .bool))) 3 A38 c39 y37] := O40.close (q0_l1.1, q0_l1.2.1, 0, q0_l1.2.2.2.1, q0_l1.2.2.2.2) A45 c46 hS
         have hS : Sat w77 B [osl 42 (r0 (.pair (.int .i64) (.pair (.int .i64) .bool))) 3 A38 c39 y37, O40 b0 (q0_l1.1, q0_l1.2.1, 0, q0_l1.2.2.2.1, q0_l1.2.2.2.2)] := hS.sel [1, 0] kr
         refine At.again ?_
         refine WL.weaken [0, 1, 6, 7, 8, 9] (L' := [(0, .pointer (some ⟨b0, 0, none⟩)), (1, .int .i64 a1), (6, .int .i64 x6_l1), (7, .slice A38 y37.length c39), (8, .int .i64 p0.2.2.1), (9, .int .i64 (wi (x9_l1 + 1)))]) kr ?_
         exact ih x6_l1 (wi (x9_l1 + 1)) (q0_l1.1, q0_l1.2.1, 0, q0_l1.2.2.2.1, q0_l1.2.2.2.2) _ hS H
        ·replace H := ite_f H hb76
         refine WC.skip kr ?_
         refine At.blockNormal ?_
         refine At.go ?_
         refine WC.reg [0, 1, 2] kr kr ?_
         refine WR.runk [0, 1, 2] [] [0, 1, 6, 7, 8, 9] (L' := [(0, .pointer (some ⟨b0, 0, none⟩)), (1, .int .i64 a1), (6, .int .i64 x6_l1), (7, .slice A38 y37.length c39), (8, .int .i64 p0.2.2.1), (9, .int .i64 (wi (x9_l1 + 1)))]) (w' := w75) kr ?_
         refine WR.nil ?_
         have hS : Sat w75 B [pts b0 (.cells #[.int .i64 q0_l1.1, .slice A45 q0_l1.2.1.length c46, .int .i64 (wi (q0_l1.2.2.1 + 1)), .int .i64 q0_l1.2.2.2.1, .int .i64 q0_l1.2.2.2.2] 40 (0, 0)), osl 42 (r0 (.pair (.int .i64) (.pair (.int .i64) .bool))) 3 A45 c46 q0_l1.2.1, osl 42 (r0 (.pair (.int .i64) (.pair (.int .i64) .bool))) 3 A38 c39 y37] := hS.sel [0, 1, 2] kr
         have hS : Sat w75 B [O40 b0 (q0_l1.1, q0_l1.2.1, wi (q0_l1.2.2.1 + 1), q0_l1.2.2.2.1, q0_l1.2.2.2.2), osl 42 (r0 (.pair (.int .i64) (.pair (.int .i64) .bool))) 3 A38 c39 y37] := O40.close (q0_l1.1, q0_l1.2.1, wi (q0_l1.2.2.1 + 1), q0_l1.2.2.2.1, q0_l1.2.2.2.2) A45 c46 hS
         have hS : Sat w75 B [osl 42 (r0 (.pair (.int .i64) (.pair (.int .i64) .bool))) 3 A38 c39 y37, O40 b0 (q0_l1.1, q0_l1.2.1, wi (q0_l1.2.2.1 + 1), q0_l1.2.2.2.1, q0_l1.2.2.2.2)] := hS.sel [1, 0] kr
         refine At.again ?_
         refine WL.weaken [0, 1, 6, 7, 8, 9] (L' := [(0, .pointer (some ⟨b0, 0, none⟩)), (1, .int .i64 a1), (6, .int .i64 x6_l1), (7, .slice A38 y37.length c39), (8, .int .i64 p0.2.2.1), (9, .int .i64 (wi (x9_l1 + 1)))]) kr ?_
         exact ih x6_l1 (wi (x9_l1 + 1)) (q0_l1.1, q0_l1.2.1, wi (q0_l1.2.2.1 + 1), q0_l1.2.2.2.1, q0_l1.2.2.2.2) _ hS H
     ·replace H := ite_f H hb42
      refine WC.exit kr ?_
      refine At.thenExit ?_
      refine At.thenExit ?_
      obtain rfl := Option.some.inj H
      have hS : Sat w B [osl 42 (r0 (.pair (.int .i64) (.pair (.int .i64) .bool))) 3 A38 c39 y37, O40 b0 q0_l1] := hS.sel [0, 1] kr
      refine At.weaken [0, 1, 6, 7, 8] (L' := [(0, .pointer (some ⟨b0, 0, none⟩)), (1, .int .i64 a1), (6, .int .i64 x6_l1), (7, .slice A38 y37.length c39), (8, .int .i64 p0.2.2.1)]) kr ?_
      exact hn0 _ hS
    ·replace H := ite_f H hb41
     refine WR.runk [6, 7, 8] [] [0, 1, 6, 7, 8, 9, 73] (L' := [(0, .pointer (some ⟨b0, 0, none⟩)), (1, .int .i64 a1), (6, .int .i64 x6_l1), (7, .slice A38 y37.length c39), (8, .int .i64 p0.2.2.1), (9, .int .i64 x9_l1), (73, .bool false)]) (w' := w) kr ?_
     refine WR.nil ?_
     refine At.go ?_
     refine WC.condF kr kr kr ?_
     refine WC.exit kr ?_
     refine At.thenExit ?_
     refine At.thenExit ?_
     obtain rfl := Option.some.inj H
     have hS : Sat w B [osl 42 (r0 (.pair (.int .i64) (.pair (.int .i64) .bool))) 3 A38 c39 y37, O40 b0 q0_l1] := hS.sel [0, 1] kr
     refine At.weaken [0, 1, 6, 7, 8] (L' := [(0, .pointer (some ⟨b0, 0, none⟩)), (1, .int .i64 a1), (6, .int .i64 x6_l1), (7, .slice A38 y37.length c39), (8, .int .i64 p0.2.2.1)]) kr ?_
     exact hn0 _ hS
theorem colophonref07_Cache_Hold.calls (B : Rf) (w0 : World) (b0 : Nat) (p0 : Int × (List (Int × Int × Bool)) × Int × Int × Int) (hS : Sat w0 B [O40 b0 p0]) (a1 : Int) (r : Bool × Int × (Int × (List (Int × Int × Bool)) × Int × Int × Int)) (H : colophonref07_Cache_Hold.f p0 a1 = some r) :
    Calls Try.prog 11 #[.pointer (some ⟨b0, 0, none⟩), .int .i64 a1] w0 (fun e w' => ∃ v, e = .returned v ∧ colophonref07_Cache_Hold.post B b0 p0 w0 r v w') := by
  unfold colophonref07_Cache_Hold.f at H
  refine calls_of_WC (vs := [.pointer (some ⟨b0, 0, none⟩), .int .i64 a1]) Try.func11 (c := C11) (n := 151) kr kr kr ?_
  refine WC.seq kr ?_
  refine WC.reg [0, 1] kr kr ?_
  refine WR.runk [0, 1] [] [0, 1] (L' := [(0, .pointer (some ⟨b0, 0, none⟩)), (1, .int .i64 a1)]) (w' := w0) kr ?_
  refine WR.nil ?_
  refine At.go ?_
  refine WC.seq kr ?_
  refine WC.seq kr ?_
  refine WC.reg [0, 1, 2, 3, 4, 5, 6, 7, 8, 9] kr kr ?_
  refine WR.runk [0, 1, 2] [3, 4, 5, 6, 7, 8, 9] [0, 1, 13] (L' := [(0, .pointer (some ⟨b0, 0, none⟩)), (1, .int .i64 a1), (13, .bool (decide (a1 < 0)))]) (w' := w0) kr ?_
  refine WR.split 13 (b := decide (a1 < 0)) kr (fun hb1 => ?_) (fun hb1 => ?_)
  ·replace H := ite_t H hb1
   refine WR.runk [3, 4, 5, 6, 7, 8, 9] [] [0, 1, 20] (L' := [(0, .pointer (some ⟨b0, 0, none⟩)), (1, .int .i64 a1), (20, .bool true)]) (w' := w0) kr ?_
   refine WR.nil ?_
   refine At.go ?_
   refine WC.condT kr kr kr ?_
   refine WC.seq kr ?_
   refine WC.reg [0, 1] kr kr ?_
   refine WR.runk [0, 1] [] [4, 5] (L' := [(4, .bool false), (5, .int .i64 222)]) (w' := w0) kr ?_
   refine WR.nil ?_
   refine At.go ?_
   refine WC.ret kr ?_
   refine At.thenRet ?_
   obtain rfl := Option.some.inj H
   have hS : Sat w0 B [O40 b0 p0] := hS.sel [0] kr
   exact At.body [.bool false, .int .i64 222] kr ⟨_, rfl, rfl, hS⟩
  ·replace H := ite_f H hb1
   refine WR.runk [3, 4, 5, 6] [7, 8, 9] [0, 1, 13, 14, 17] (L' := [(0, .pointer (some ⟨b0, 0, none⟩)), (1, .int .i64 a1), (13, .bool false), (14, .int .i64 a1), (17, .pointer (some ⟨b0, 0, none⟩))]) (w' := w0) kr ?_
   obtain ⟨A2, c3, hS⟩ := O40.open hS
   have hS : Sat w0 B [pts b0 (.cells #[.int .i64 p0.1, .slice A2 p0.2.1.length c3, .int .i64 p0.2.2.1, .int .i64 p0.2.2.2.1, .int .i64 p0.2.2.2.2] 40 (0, 0)), osl 42 (r0 (.pair (.int .i64) (.pair (.int .i64) .bool))) 3 A2 c3 p0.2.1] := hS
   refine WR.st (St.ofR (RSt.loadObj (t := 3) (k := 0) (v := .int .i64 p0.1) (.tmp 17) kr kr kr 0 hS rfl kr rfl ?_))
   refine WR.runk [8, 9] [] [0, 1, 20] (L' := [(0, .pointer (some ⟨b0, 0, none⟩)), (1, .int .i64 a1), (20, .bool (decide (a1 ≥ p0.1)))]) (w' := w0) kr ?_
   refine WR.nil ?_
   refine At.go ?_
   refine WC.cond kr (decide (a1 ≥ p0.1)) kr kr (fun hb4 => ?_) (fun hb4 => ?_)
   ·replace H := ite_t H hb4
    refine WC.seq kr ?_
    refine WC.reg [0, 1] kr kr ?_
    refine WR.runk [0, 1] [] [4, 5] (L' := [(4, .bool false), (5, .int .i64 222)]) (w' := w0) kr ?_
    refine WR.nil ?_
    refine At.go ?_
    refine WC.ret kr ?_
    refine At.thenRet ?_
    obtain rfl := Option.some.inj H
    have hS : Sat w0 B [pts b0 (.cells #[.int .i64 p0.1, .slice A2 p0.2.1.length c3, .int .i64 p0.2.2.1, .int .i64 p0.2.2.2.1, .int .i64 p0.2.2.2.2] 40 (0, 0)), osl 42 (r0 (.pair (.int .i64) (.pair (.int .i64) .bool))) 3 A2 c3 p0.2.1] := hS.sel [0, 1] kr
    have hS : Sat w0 B [O40 b0 p0] := O40.close p0 A2 c3 hS
    have hS : Sat w0 B [O40 b0 p0] := hS.sel [0] kr
    exact At.body [.bool false, .int .i64 222] kr ⟨_, rfl, rfl, hS⟩
   ·replace H := ite_f H hb4
    refine WC.skip kr ?_
    refine At.go ?_
    refine WC.seq kr ?_
    refine WC.reg [0, 1, 2, 3] kr kr ?_
    refine WR.runk [0, 1] [2, 3] [0, 1, 21, 22] (L' := [(0, .pointer (some ⟨b0, 0, none⟩)), (1, .int .i64 a1), (21, .pointer (some ⟨b0, 0, none⟩)), (22, .int .i64 a1)]) (w' := w0) kr ?_
    obtain ⟨r5, e6, H⟩ := bind_ex H
    refine WR.st (St.call kr (f := 24) (args := #[.pointer (some ⟨b0, 0, none⟩), .int .i64 a1]) kr (colophonref07_Cache_at.calls w0 (.pointer (some ⟨b0, 0, none⟩)) (some (p0.1, p0.2.1, p0.2.2.1, p0.2.2.2.1, p0.2.2.2.2)) (P40.mk (y := (p0.1, p0.2.1, p0.2.2.1, p0.2.2.2.1, p0.2.2.2.2)) (Sat.blockAt 0 hS rfl) (Sat.rdAt 1 hS rfl)) a1 r5 e6) ?_)
    rintro _ w12 ⟨rfl, hS13⟩
    have hS : Sat w12 B [pts b0 (.cells #[.int .i64 p0.1, .slice A2 p0.2.1.length c3, .int .i64 p0.2.2.1, .int .i64 p0.2.2.2.1, .int .i64 p0.2.2.2.2] 40 (0, 0)), osl 42 (r0 (.pair (.int .i64) (.pair (.int .i64) .bool))) 3 A2 c3 p0.2.1] := hS.ext hS13
    refine WR.runk [3] [] [0, 1, 6] (L' := [(0, .pointer (some ⟨b0, 0, none⟩)), (1, .int .i64 a1), (6, .int .i64 r5)]) (w' := w12) kr ?_
    refine WR.nil ?_
    refine At.go ?_
    refine WC.seq kr ?_
    refine WC.seq kr ?_
    refine WC.reg [0, 1] kr kr ?_
    refine WR.runk [0, 1] [] [0, 1, 6, 25] (L' := [(0, .pointer (some ⟨b0, 0, none⟩)), (1, .int .i64 a1), (6, .int .i64 r5), (25, .bool (decide (r5 ≥ 0)))]) (w' := w12) kr ?_
    refine WR.nil ?_
    refine At.go ?_
    refine WC.cond kr (decide (r5 ≥ 0)) kr kr (fun hb14 => ?_) (fun hb14 => ?_)
    ·replace H := ite_t H hb14
     refine WC.seq kr ?_
     refine WC.reg [0, 1, 2, 3, 4, 5, 6, 7, 8, 9, 10, 11] kr kr ?_
     refine WR.runk [0, 1, 2] [3, 4, 5, 6, 7, 8, 9, 10, 11] [0, 6, 28] (L' := [(0, .pointer (some ⟨b0, 0, none⟩)), (6, .int .i64 r5), (28, .pointer (some ⟨b0, 1, none⟩))]) (w' := w12) kr ?_
     refine WR.st (St.ofR (RSt.loadObj (t := 38) (k := 1) (v := .slice A2 p0.2.1.length c3) (.tmp 28) kr kr kr 0 hS rfl kr rfl ?_))
     refine WR.runk [4] [5, 6, 7, 8, 9, 10, 11] [0, 6, 29, 30] (L' := [(0, .pointer (some ⟨b0, 0, none⟩)), (6, .int .i64 r5), (29, .slice A2 p0.2.1.length c3), (30, .int .i64 r5)]) (w' := w12) kr ?_
     obtain ⟨v15, e16, H⟩ := bind_ex H
     refine WR.st (St.ofP (PSt.idx (k := .i64) (.tmp 29) (.tmp 30) kr kr E38 kr kr (Sat.rdAt 1 hS rfl) e16 ?_))
     refine WR.runk [6] [7, 8, 9, 10, 11] [0, 6, 29, 30, 32] (L' := [(0, .pointer (some ⟨b0, 0, none⟩)), (6, .int .i64 r5), (29, .slice A2 p0.2.1.length c3), (30, .int .i64 r5), (32, .pointer (some ((adr A2 r5.toNat 3).add 1)))]) (w' := w12) kr ?_
     refine WR.st (St.ofR (RSt.loadPart (t := 3) (κ := (.pair (.int .i64) (.pair (.int .i64) .bool))) (.tmp 32) 1 kr kr kr kr kr (Sat.rdAt 1 hS rfl) e16 (u := .int .i64 v15.2.1) kr ?_))
     refine WR.runk [8] [9, 10, 11] [0, 6, 29, 30, 34] (L' := [(0, .pointer (some ⟨b0, 0, none⟩)), (6, .int .i64 r5), (29, .slice A2 p0.2.1.length c3), (30, .int .i64 r5), (34, .int .i64 (wi (v15.2.1 + 1)))]) (w' := w12) kr ?_
     refine WR.st (St.ofP (PSt.idx (k := .i64) (.tmp 29) (.tmp 30) kr kr E38 kr kr (Sat.rdAt 1 hS rfl) e16 ?_))
     refine WR.runk [10] [11] [0, 6, 34, 36] (L' := [(0, .pointer (some ⟨b0, 0, none⟩)), (6, .int .i64 r5), (34, .int .i64 (wi (v15.2.1 + 1))), (36, .pointer (some ((adr A2 r5.toNat 3).add 1)))]) (w' := w12) kr ?_
     have hS : Sat w12 B [osl 42 (r0 (.pair (.int .i64) (.pair (.int .i64) .bool))) 3 A2 c3 p0.2.1, pts b0 (.cells #[.int .i64 p0.1, .slice A2 p0.2.1.length c3, .int .i64 p0.2.2.1, .int .i64 p0.2.2.2.1, .int .i64 p0.2.2.2.2] 40 (0, 0))] := hS.sel [1, 0] kr
     refine WR.st (St.storePart (t := 3) (κ := (.pair (.int .i64) (.pair (.int .i64) .bool))) (v' := (v15.1, wi (v15.2.1 + 1), v15.2.2)) (.tmp 36) (.tmp 34) 1 kr kr kr kr hS kr kr kr kr e16 rfl (fun w17 hS => ?_))
     have hS : Sat w17 B [osl 42 (r0 (.pair (.int .i64) (.pair (.int .i64) .bool))) 3 A2 c3 (List.set p0.2.1 r5.toNat (v15.1, wi (v15.2.1 + 1), v15.2.2)), pts b0 (.cells #[.int .i64 p0.1, .slice A2 p0.2.1.length c3, .int .i64 p0.2.2.1, .int .i64 p0.2.2.2.1, .int .i64 p0.2.2.2.2] 40 (0, 0))] := hS
     have hl18 : List.length (List.set p0.2.1 r5.toNat (v15.1, wi (v15.2.1 + 1), v15.2.2)) = List.length p0.2.1 := List.length_set
     have hS : Sat w17 B [osl 42 (r0 (.pair (.int .i64) (.pair (.int .i64) .bool))) 3 A2 c3 (List.set p0.2.1 r5.toNat (v15.1, wi (v15.2.1 + 1), v15.2.2)), pts b0 (.cells #[.int .i64 p0.1, .slice A2 (List.set p0.2.1 r5.toNat (v15.1, wi (v15.2.1 + 1), v15.2.2)).length c3, .int .i64 p0.2.2.1, .int .i64 p0.2.2.2.1, .int .i64 p0.2.2.2.2] 40 (0, 0))] := by simpa only [hl18] using hS
     refine WR.runk [] [] [0, 6] (L' := [(0, .pointer (some ⟨b0, 0, none⟩)), (6, .int .i64 r5)]) (w' := w17) kr ?_
     refine WR.nil ?_
     refine At.go ?_
     refine WC.seq kr ?_
     refine WC.reg [0, 1, 2, 3, 4, 5, 6, 7] kr kr ?_
     refine WR.runk [0, 1, 2] [3, 4, 5, 6, 7] [0, 6, 39] (L' := [(0, .pointer (some ⟨b0, 0, none⟩)), (6, .int .i64 r5), (39, .pointer (some ⟨b0, 1, none⟩))]) (w' := w17) kr ?_
     refine WR.st (St.ofR (RSt.loadObj (t := 38) (k := 1) (v := .slice A2 (List.set p0.2.1 r5.toNat (v15.1, wi (v15.2.1 + 1), v15.2.2)).length c3) (.tmp 39) kr kr kr 1 hS rfl kr rfl ?_))
     refine WR.runk [4] [5, 6, 7] [0, 40, 41] (L' := [(0, .pointer (some ⟨b0, 0, none⟩)), (40, .slice A2 (List.set p0.2.1 r5.toNat (v15.1, wi (v15.2.1 + 1), v15.2.2)).length c3), (41, .int .i64 r5)]) (w' := w17) kr ?_
     obtain ⟨v19, e20, H⟩ := bind_ex H
     refine WR.st (St.ofP (PSt.idx (k := .i64) (.tmp 40) (.tmp 41) kr kr E38 kr kr (Sat.rdAt 0 hS rfl) e20 ?_))
     refine WR.runk [6] [7] [0, 43] (L' := [(0, .pointer (some ⟨b0, 0, none⟩)), (43, .pointer (some ((adr A2 r5.toNat 3).add 2)))]) (w' := w17) kr ?_
     refine WR.st (St.storePart (t := 4) (κ := (.pair (.int .i64) (.pair (.int .i64) .bool))) (v' := (v19.1, v19.2.1, true)) (.tmp 43) (.const (.bool true)) 2 kr kr kr kr hS kr kr kr kr e20 rfl (fun w21 hS => ?_))
     have hS : Sat w21 B [osl 42 (r0 (.pair (.int .i64) (.pair (.int .i64) .bool))) 3 A2 c3 (List.set (List.set p0.2.1 r5.toNat (v15.1, wi (v15.2.1 + 1), v15.2.2)) r5.toNat (v19.1, v19.2.1, true)), pts b0 (.cells #[.int .i64 p0.1, .slice A2 (List.set p0.2.1 r5.toNat (v15.1, wi (v15.2.1 + 1), v15.2.2)).length c3, .int .i64 p0.2.2.1, .int .i64 p0.2.2.2.1, .int .i64 p0.2.2.2.2] 40 (0, 0))] := hS
     have hl22 : List.length (List.set (List.set p0.2.1 r5.toNat (v15.1, wi (v15.2.1 + 1), v15.2.2)) r5.toNat (v19.1, v19.2.1, true)) = List.length (List.set p0.2.1 r5.toNat (v15.1, wi (v15.2.1 + 1), v15.2.2)) := List.length_set
     have hS : Sat w21 B [osl 42 (r0 (.pair (.int .i64) (.pair (.int .i64) .bool))) 3 A2 c3 (List.set (List.set p0.2.1 r5.toNat (v15.1, wi (v15.2.1 + 1), v15.2.2)) r5.toNat (v19.1, v19.2.1, true)), pts b0 (.cells #[.int .i64 p0.1, .slice A2 (List.set (List.set p0.2.1 r5.toNat (v15.1, wi (v15.2.1 + 1), v15.2.2)) r5.toNat (v19.1, v19.2.1, true)).length c3, .int .i64 p0.2.2.1, .int .i64 p0.2.2.2.1, .int .i64 p0.2.2.2.2] 40 (0, 0))] := by simpa only [hl22] using hS
     refine WR.runk [] [] [0] (L' := [(0, .pointer (some ⟨b0, 0, none⟩))]) (w' := w21) kr ?_
     refine WR.nil ?_
     refine At.go ?_
     refine WC.seq kr ?_
     refine WC.reg [0, 1, 2, 3, 4, 5, 6, 7] kr kr ?_
     refine WR.runk [0, 1, 2] [3, 4, 5, 6, 7] [44, 46] (L' := [(44, .pointer (some ⟨b0, 0, none⟩)), (46, .pointer (some ⟨b0, 3, none⟩))]) (w' := w21) kr ?_
     refine WR.st (St.ofR (RSt.loadObj (t := 3) (k := 3) (v := .int .i64 p0.2.2.2.1) (.tmp 46) kr kr kr 1 hS rfl kr rfl ?_))
     refine WR.runk [4, 5, 6] [7] [48, 50] (L' := [(48, .int .i64 (wi (p0.2.2.2.1 + 1))), (50, .pointer (some ⟨b0, 3, none⟩))]) (w' := w21) kr ?_
     have hS : Sat w21 B [pts b0 (.cells #[.int .i64 p0.1, .slice A2 (List.set (List.set p0.2.1 r5.toNat (v15.1, wi (v15.2.1 + 1), v15.2.2)) r5.toNat (v19.1, v19.2.1, true)).length c3, .int .i64 p0.2.2.1, .int .i64 p0.2.2.2.1, .int .i64 p0.2.2.2.2] 40 (0, 0)), osl 42 (r0 (.pair (.int .i64) (.pair (.int .i64) .bool))) 3 A2 c3 (List.set (List.set p0.2.1 r5.toNat (v15.1, wi (v15.2.1 + 1), v15.2.2)) r5.toNat (v19.1, v19.2.1, true))] := hS.sel [1, 0] kr
     refine WR.st (St.storeObj (t := 3) (k := 3) (cur' := #[.int .i64 p0.1, .slice A2 (List.set (List.set p0.2.1 r5.toNat (v15.1, wi (v15.2.1 + 1), v15.2.2)) r5.toNat (v19.1, v19.2.1, true)).length c3, .int .i64 p0.2.2.1, .int .i64 (wi (p0.2.2.2.1 + 1)), .int .i64 p0.2.2.2.2]) (.tmp 50) (.tmp 48) kr kr kr hS kr kr kr rfl rfl (fun w23 hS => ?_))
     refine WR.runk [] [] [] (L' := []) (w' := w23) kr ?_
     refine WR.nil ?_
     refine At.go ?_
     refine WC.seq kr ?_
     refine WC.reg [0, 1] kr kr ?_
     refine WR.runk [0, 1] [] [4, 5] (L' := [(4, .bool true), (5, .int .i64 0)]) (w' := w23) kr ?_
     refine WR.nil ?_
     refine At.go ?_
     refine WC.ret kr ?_
     refine At.thenRet ?_
     obtain rfl := Option.some.inj H
     have hS : Sat w23 B [pts b0 (.cells #[.int .i64 p0.1, .slice A2 (List.set (List.set p0.2.1 r5.toNat (v15.1, wi (v15.2.1 + 1), v15.2.2)) r5.toNat (v19.1, v19.2.1, true)).length c3, .int .i64 p0.2.2.1, .int .i64 (wi (p0.2.2.2.1 + 1)), .int .i64 p0.2.2.2.2] 40 (0, 0)), osl 42 (r0 (.pair (.int .i64) (.pair (.int .i64) .bool))) 3 A2 c3 (List.set (List.set p0.2.1 r5.toNat (v15.1, wi (v15.2.1 + 1), v15.2.2)) r5.toNat (v19.1, v19.2.1, true))] := hS.sel [0, 1] kr
     have hS : Sat w23 B [O40 b0 (p0.1, (List.set (List.set p0.2.1 r5.toNat (v15.1, wi (v15.2.1 + 1), v15.2.2)) r5.toNat (v19.1, v19.2.1, true)), p0.2.2.1, wi (p0.2.2.2.1 + 1), p0.2.2.2.2)] := O40.close (p0.1, (List.set (List.set p0.2.1 r5.toNat (v15.1, wi (v15.2.1 + 1), v15.2.2)) r5.toNat (v19.1, v19.2.1, true)), p0.2.2.1, wi (p0.2.2.2.1 + 1), p0.2.2.2.2) A2 c3 hS
     have hS : Sat w23 B [O40 b0 (p0.1, (List.set (List.set p0.2.1 r5.toNat (v15.1, wi (v15.2.1 + 1), v15.2.2)) r5.toNat (v19.1, v19.2.1, true)), p0.2.2.1, wi (p0.2.2.2.1 + 1), p0.2.2.2.2)] := hS.sel [0] kr
     exact At.body [.bool true, .int .i64 0] kr ⟨_, rfl, rfl, hS⟩
    ·replace H := ite_f H hb14
     refine WC.skip kr ?_
     refine At.go ?_
     refine WC.seq kr ?_
     refine WC.reg [0, 1, 2] kr kr ?_
     refine WR.runk [0] [1, 2] [0, 1, 6, 51] (L' := [(0, .pointer (some ⟨b0, 0, none⟩)), (1, .int .i64 a1), (6, .int .i64 r5), (51, .pointer (some ⟨b0, 0, none⟩))]) (w' := w12) kr ?_
     obtain ⟨r24, e25, H⟩ := bind_ex H
     refine WR.st (St.call kr (f := 24) (args := #[.pointer (some ⟨b0, 0, none⟩), .int .i64 (-1)]) kr (colophonref07_Cache_at.calls w12 (.pointer (some ⟨b0, 0, none⟩)) (some (p0.1, p0.2.1, p0.2.2.1, p0.2.2.2.1, p0.2.2.2.2)) (P40.mk (y := (p0.1, p0.2.1, p0.2.2.1, p0.2.2.2.1, p0.2.2.2.2)) (Sat.blockAt 0 hS rfl) (Sat.rdAt 1 hS rfl)) (-1) r24 e25) ?_)
     rintro _ w31 ⟨rfl, hS32⟩
     have hS : Sat w31 B [pts b0 (.cells #[.int .i64 p0.1, .slice A2 p0.2.1.length c3, .int .i64 p0.2.2.1, .int .i64 p0.2.2.2.1, .int .i64 p0.2.2.2.2] 40 (0, 0)), osl 42 (r0 (.pair (.int .i64) (.pair (.int .i64) .bool))) 3 A2 c3 p0.2.1] := hS.ext hS32
     refine WR.runk [2] [] [0, 1, 6] (L' := [(0, .pointer (some ⟨b0, 0, none⟩)), (1, .int .i64 a1), (6, .int .i64 r24)]) (w' := w31) kr ?_
     refine WR.nil ?_
     refine At.go ?_
     refine WC.seq kr ?_
     refine WC.seq kr ?_
     refine WC.reg [0, 1] kr kr ?_
     refine WR.runk [0, 1] [] [0, 1, 6, 54] (L' := [(0, .pointer (some ⟨b0, 0, none⟩)), (1, .int .i64 a1), (6, .int .i64 r24), (54, .bool (decide (r24 < 0)))]) (w' := w31) kr ?_
     refine WR.nil ?_
     refine At.go ?_
     refine WC.cond kr (decide (r24 < 0)) kr kr (fun hb33 => ?_) (fun hb33 => ?_)
     ·replace H := ite_t H hb33
      refine WC.seq kr ?_
      refine WC.reg [0, 1, 2, 3, 4, 5, 6] kr kr ?_
      refine WR.runk [] [0, 1, 2, 3, 4, 5, 6] [0, 1, 6] (L' := [(0, .pointer (some ⟨b0, 0, none⟩)), (1, .int .i64 a1), (6, .int .i64 r24)]) (w' := w31) kr ?_
      refine WR.st (St.box hS kr (.cells #[] 42) (fun b34 => .slice (some ⟨b34, 0, none⟩) 0 0) (fun _ => by kernel_rfl) (fun b34 w35 hS => ?_))
      refine WR.runk [1, 2, 3] [4, 5, 6] [0, 1, 6, 55, 58] (L' := [(0, .pointer (some ⟨b0, 0, none⟩)), (1, .int .i64 a1), (6, .int .i64 r24), (55, .slice (some ⟨b34, 0, none⟩) 0 0), (58, .pointer (some ⟨b0, 1, none⟩))]) (w' := w35) kr ?_
      refine WR.st (St.ofR (RSt.loadObj (t := 38) (k := 1) (v := .slice A2 p0.2.1.length c3) (.tmp 58) kr kr kr 1 hS rfl kr rfl ?_))
      refine WR.runk [] [5, 6] [0, 1, 6, 55, 59] (L' := [(0, .pointer (some ⟨b0, 0, none⟩)), (1, .int .i64 a1), (6, .int .i64 r24), (55, .slice (some ⟨b34, 0, none⟩) 0 0), (59, .slice A2 p0.2.1.length c3)]) (w' := w35) kr ?_
      have hS : Sat w35 B [osl 42 (r0 (.pair (.int .i64) (.pair (.int .i64) .bool))) 3 (some ⟨b34, 0, none⟩) (([] : List (Int × Int × Bool)) : List (Int × Int × Bool)).length (([] : List (Int × Int × Bool)) : List (Int × Int × Bool)), pts b0 (.cells #[.int .i64 p0.1, .slice A2 p0.2.1.length c3, .int .i64 p0.2.2.1, .int .i64 p0.2.2.2.1, .int .i64 p0.2.2.2.2] 40 (0, 0)), osl 42 (r0 (.pair (.int .i64) (.pair (.int .i64) .bool))) 3 A2 c3 p0.2.1] := Sat.toOsl' (r0 (.pair (.int .i64) (.pair (.int .i64) .bool))) 3 (([] : List (Int × Int × Bool)) : List (Int × Int × Bool)) hS rfl (rdL.nil _ _)
      obtain ⟨y37, e36, H⟩ := bind_ex H
      refine WR.st (St.append' (.tmp 55) (.tmp 59) kr kr E38 (r0_one _) hS kr kr (Sat.rdAt 2 hS rfl) 5864062014805 kr kr e36 (fun A38 c39 w40 hS => ?_))
      refine WR.runk [6] [] [0, 1, 6, 7] (L' := [(0, .pointer (some ⟨b0, 0, none⟩)), (1, .int .i64 a1), (6, .int .i64 r24), (7, .slice A38 y37.length c39)]) (w' := w40) kr ?_
      refine WR.nil ?_
      refine At.go ?_
      refine WC.seq kr ?_
      refine WC.reg [0, 1, 2, 3, 4] kr kr ?_
      refine WR.runk [0, 1, 2] [3, 4] [0, 1, 6, 7, 63] (L' := [(0, .pointer (some ⟨b0, 0, none⟩)), (1, .int .i64 a1), (6, .int .i64 r24), (7, .slice A38 y37.length c39), (63, .pointer (some ⟨b0, 2, none⟩))]) (w' := w40) kr ?_
      refine WR.st (St.ofR (RSt.loadObj (t := 3) (k := 2) (v := .int .i64 p0.2.2.1) (.tmp 63) kr kr kr 1 hS rfl kr rfl ?_))
      refine WR.runk [4] [] [0, 1, 6, 7, 8] (L' := [(0, .pointer (some ⟨b0, 0, none⟩)), (1, .int .i64 a1), (6, .int .i64 r24), (7, .slice A38 y37.length c39), (8, .int .i64 p0.2.2.1)]) (w' := w40) kr ?_
      refine WR.nil ?_
      refine At.go ?_
      refine WC.seq kr ?_
      refine WC.seq kr ?_
      refine WC.reg [0] kr kr ?_
      refine WR.runk [0] [] [0, 1, 6, 7, 8, 9] (L' := [(0, .pointer (some ⟨b0, 0, none⟩)), (1, .int .i64 a1), (6, .int .i64 r24), (7, .slice A38 y37.length c39), (8, .int .i64 p0.2.2.1), (9, .int .i64 0)]) (w' := w40) kr ?_
      refine WR.nil ?_
      refine At.go ?_
      refine WC.block kr ?_
      have hS : Sat w40 B [pts b0 (.cells #[.int .i64 p0.1, .slice A2 p0.2.1.length c3, .int .i64 p0.2.2.1, .int .i64 p0.2.2.2.1, .int .i64 p0.2.2.2.2] 40 (0, 0)), osl 42 (r0 (.pair (.int .i64) (.pair (.int .i64) .bool))) 3 A2 c3 p0.2.1, osl 42 (r0 (.pair (.int .i64) (.pair (.int .i64) .bool))) 3 A38 c39 y37] := hS.sel [1, 2, 0] kr
      have hS : Sat w40 B [O40 b0 p0, osl 42 (r0 (.pair (.int .i64) (.pair (.int .i64) .bool))) 3 A38 c39 y37] := O40.close p0 A2 c3 hS
      have hS : Sat w40 B [osl 42 (r0 (.pair (.int .i64) (.pair (.int .i64) .bool))) 3 A38 c39 y37, O40 b0 p0] := hS.sel [1, 0] kr
      obtain ⟨o78, e79, H⟩ := bind_ex H
      refine WC.loop kr ?_
      refine WL.weaken [0, 1, 6, 7, 8, 9] (L' := [(0, .pointer (some ⟨b0, 0, none⟩)), (1, .int .i64 a1), (6, .int .i64 r24), (7, .slice A38 y37.length c39), (8, .int .i64 p0.2.2.1), (9, .int .i64 0)]) kr ?_
      refine colophonref07_Cache_Hold.l1_ok B b0 p0 a1 y37 A38 c39 o78 (fun w81 hS => ?_) FU r24 0 p0 _ hS e79
      refine At.hit ?_
      refine At.go ?_
      refine WC.seq kr ?_
      refine WC.reg [0, 1] kr kr ?_
      refine WR.runk [0, 1] [] [0, 1, 6, 7, 8, 127] (L' := [(0, .pointer (some ⟨b0, 0, none⟩)), (1, .int .i64 a1), (6, .int .i64 o78.1), (7, .slice A38 y37.length c39), (8, .int .i64 p0.2.2.1), (127, .bool (decide (o78.1 < 0)))]) (w' := w81) kr ?_
      refine WR.nil ?_
      refine At.go ?_
      refine WC.cond kr (decide (o78.1 < 0)) kr kr (fun hb83 => ?_) (fun hb83 => ?_)
      ·replace H := ite_t H hb83
       refine WC.seq kr ?_
       refine WC.reg [0, 1, 2, 3, 4] kr kr ?_
       refine WR.runk [0, 1, 2, 3] [4] [0, 8, 129, 131] (L' := [(0, .pointer (some ⟨b0, 0, none⟩)), (8, .int .i64 p0.2.2.1), (129, .slice A38 y37.length c39), (131, .pointer (some ⟨b0, 1, none⟩))]) (w' := w81) kr ?_
       have hS : Sat w81 B [O40 b0 o78.2, osl 42 (r0 (.pair (.int .i64) (.pair (.int .i64) .bool))) 3 A38 c39 y37] := hS.sel [1, 0] kr
       obtain ⟨A84, c85, hS⟩ := O40.open hS
       have hS : Sat w81 B [pts b0 (.cells #[.int .i64 o78.2.1, .slice A84 o78.2.2.1.length c85, .int .i64 o78.2.2.2.1, .int .i64 o78.2.2.2.2.1, .int .i64 o78.2.2.2.2.2] 40 (0, 0)), osl 42 (r0 (.pair (.int .i64) (.pair (.int .i64) .bool))) 3 A84 c85 o78.2.2.1, osl 42 (r0 (.pair (.int .i64) (.pair (.int .i64) .bool))) 3 A38 c39 y37] := hS
       refine WR.st (St.storeObj (t := 38) (k := 1) (cur' := #[.int .i64 o78.2.1, .slice A38 y37.length c39, .int .i64 o78.2.2.2.1, .int .i64 o78.2.2.2.2.1, .int .i64 o78.2.2.2.2.2]) (.tmp 131) (.tmp 129) kr kr kr hS kr kr kr rfl rfl (fun w86 hS => ?_))
       refine WR.runk [] [] [0, 8] (L' := [(0, .pointer (some ⟨b0, 0, none⟩)), (8, .int .i64 p0.2.2.1)]) (w' := w86) kr ?_
       refine WR.nil ?_
       refine At.go ?_
       refine WC.seq kr ?_
       refine WC.reg [0, 1, 2, 3, 4] kr kr ?_
       refine WR.runk [0, 1, 2, 3] [4] [133, 135] (L' := [(133, .int .i64 p0.2.2.1), (135, .pointer (some ⟨b0, 2, none⟩))]) (w' := w86) kr ?_
       refine WR.st (St.storeObj (t := 3) (k := 2) (cur' := #[.int .i64 o78.2.1, .slice A38 y37.length c39, .int .i64 p0.2.2.1, .int .i64 o78.2.2.2.2.1, .int .i64 o78.2.2.2.2.2]) (.tmp 135) (.tmp 133) kr kr kr hS kr kr kr rfl rfl (fun w87 hS => ?_))
       refine WR.runk [] [] [] (L' := []) (w' := w87) kr ?_
       refine WR.nil ?_
       refine At.go ?_
       refine WC.seq kr ?_
       refine WC.reg [0, 1] kr kr ?_
       refine WR.runk [0, 1] [] [4, 5] (L' := [(4, .bool false), (5, .int .i64 70)]) (w' := w87) kr ?_
       refine WR.nil ?_
       refine At.go ?_
       refine WC.ret kr ?_
       refine At.thenRet ?_
       obtain rfl := Option.some.inj H
       have hS : Sat w87 B [pts b0 (.cells #[.int .i64 o78.2.1, .slice A38 y37.length c39, .int .i64 p0.2.2.1, .int .i64 o78.2.2.2.2.1, .int .i64 o78.2.2.2.2.2] 40 (0, 0)), osl 42 (r0 (.pair (.int .i64) (.pair (.int .i64) .bool))) 3 A38 c39 y37, osl 42 (r0 (.pair (.int .i64) (.pair (.int .i64) .bool))) 3 A84 c85 o78.2.2.1] := hS.sel [0, 2, 1] kr
       have hS : Sat w87 B [O40 b0 (o78.2.1, y37, p0.2.2.1, o78.2.2.2.2.1, o78.2.2.2.2.2), osl 42 (r0 (.pair (.int .i64) (.pair (.int .i64) .bool))) 3 A84 c85 o78.2.2.1] := O40.close (o78.2.1, y37, p0.2.2.1, o78.2.2.2.2.1, o78.2.2.2.2.2) A38 c39 hS
       have hS : Sat w87 B [O40 b0 (o78.2.1, y37, p0.2.2.1, o78.2.2.2.2.1, o78.2.2.2.2.2)] := hS.sel [0] kr
       exact At.body [.bool false, .int .i64 70] kr ⟨_, rfl, rfl, hS⟩
      ·replace H := ite_f H hb83
       refine WC.skip kr ?_
       refine At.go ?_
       refine WC.seq kr ?_
       refine WC.reg [0, 1, 2, 3, 4, 5, 6, 7] kr kr ?_
       refine WR.runk [0, 1, 2] [3, 4, 5, 6, 7] [0, 1, 6, 136, 138] (L' := [(0, .pointer (some ⟨b0, 0, none⟩)), (1, .int .i64 a1), (6, .int .i64 o78.1), (136, .pointer (some ⟨b0, 0, none⟩)), (138, .pointer (some ⟨b0, 4, none⟩))]) (w' := w81) kr ?_
       have hS : Sat w81 B [O40 b0 o78.2, osl 42 (r0 (.pair (.int .i64) (.pair (.int .i64) .bool))) 3 A38 c39 y37] := hS.sel [1, 0] kr
       obtain ⟨A88, c89, hS⟩ := O40.open hS
       have hS : Sat w81 B [pts b0 (.cells #[.int .i64 o78.2.1, .slice A88 o78.2.2.1.length c89, .int .i64 o78.2.2.2.1, .int .i64 o78.2.2.2.2.1, .int .i64 o78.2.2.2.2.2] 40 (0, 0)), osl 42 (r0 (.pair (.int .i64) (.pair (.int .i64) .bool))) 3 A88 c89 o78.2.2.1, osl 42 (r0 (.pair (.int .i64) (.pair (.int .i64) .bool))) 3 A38 c39 y37] := hS
       refine WR.st (St.ofR (RSt.loadObj (t := 3) (k := 4) (v := .int .i64 o78.2.2.2.2.2) (.tmp 138) kr kr kr 0 hS rfl kr rfl ?_))
       refine WR.runk [4, 5, 6] [7] [0, 1, 6, 140, 142] (L' := [(0, .pointer (some ⟨b0, 0, none⟩)), (1, .int .i64 a1), (6, .int .i64 o78.1), (140, .int .i64 (wi (o78.2.2.2.2.2 + 1))), (142, .pointer (some ⟨b0, 4, none⟩))]) (w' := w81) kr ?_
       refine WR.st (St.storeObj (t := 3) (k := 4) (cur' := #[.int .i64 o78.2.1, .slice A88 o78.2.2.1.length c89, .int .i64 o78.2.2.2.1, .int .i64 o78.2.2.2.2.1, .int .i64 (wi (o78.2.2.2.2.2 + 1))]) (.tmp 142) (.tmp 140) kr kr kr hS kr kr kr rfl rfl (fun w90 hS => ?_))
       refine WR.runk [] [] [0, 1, 6] (L' := [(0, .pointer (some ⟨b0, 0, none⟩)), (1, .int .i64 a1), (6, .int .i64 o78.1)]) (w' := w90) kr ?_
       refine WR.nil ?_
       refine At.go ?_
       refine WC.seq kr ?_
       refine WC.reg [0, 1, 2, 3, 4, 5, 6, 7, 8] kr kr ?_
       refine WR.runk [0, 1, 2] [3, 4, 5, 6, 7, 8] [1, 6, 145] (L' := [(1, .int .i64 a1), (6, .int .i64 o78.1), (145, .pointer (some ⟨b0, 1, none⟩))]) (w' := w90) kr ?_
       refine WR.st (St.ofR (RSt.loadObj (t := 38) (k := 1) (v := .slice A88 o78.2.2.1.length c89) (.tmp 145) kr kr kr 0 hS rfl kr rfl ?_))
       refine WR.runk [4, 5, 6] [7, 8] [146, 147, 149] (L' := [(146, .slice A88 o78.2.2.1.length c89), (147, .int .i64 o78.1), (149, .agg #[.int .i64 a1, .int .i64 1, .bool true])]) (w' := w90) kr ?_
       obtain ⟨v91, e92, H⟩ := bind_ex H
       refine WR.st (St.ofP (PSt.idx (k := .i64) (.tmp 146) (.tmp 147) kr kr E38 kr kr (Sat.rdAt 1 hS rfl) e92 ?_))
       refine WR.runk [] [8] [149, 150] (L' := [(149, .agg #[.int .i64 a1, .int .i64 1, .bool true]), (150, .pointer (some (adr A88 (o78.1).toNat 3)))]) (w' := w90) kr ?_
       have hS : Sat w90 B [osl 42 (r0 (.pair (.int .i64) (.pair (.int .i64) .bool))) 3 A88 c89 o78.2.2.1, pts b0 (.cells #[.int .i64 o78.2.1, .slice A88 o78.2.2.1.length c89, .int .i64 o78.2.2.2.1, .int .i64 o78.2.2.2.2.1, .int .i64 (wi (o78.2.2.2.2.2 + 1))] 40 (0, 0)), osl 42 (r0 (.pair (.int .i64) (.pair (.int .i64) .bool))) 3 A38 c39 y37] := hS.sel [1, 0, 2] kr
       obtain ⟨y93, e94, H⟩ := bind_ex H
       refine WR.st (St.storeFlat (t := 42) (vs := [.int .i64 a1, .int .i64 1, .bool true]) (.tmp 150) (.tmp 149) kr kr kr hS kr kr kr rfl e94 ⟨[.int .i64 a1], [.int .i64 1, .bool true], rfl, rfl, rfl, ⟨[.int .i64 1], [.bool true], rfl, rfl, rfl, rfl⟩⟩ (fun w95 hS => ?_))
       have hl96 := set?_len e94
       have hS : Sat w95 B [osl 42 (r0 (.pair (.int .i64) (.pair (.int .i64) .bool))) 3 A88 c89 y93, pts b0 (.cells #[.int .i64 o78.2.1, .slice A88 y93.length c89, .int .i64 o78.2.2.2.1, .int .i64 o78.2.2.2.2.1, .int .i64 (wi (o78.2.2.2.2.2 + 1))] 40 (0, 0)), osl 42 (r0 (.pair (.int .i64) (.pair (.int .i64) .bool))) 3 A38 c39 y37] := by simpa only [hl96] using hS
       refine WR.runk [] [] [] (L' := []) (w' := w95) kr ?_
       refine WR.nil ?_
       refine At.go ?_
       refine WC.seq kr ?_
       refine WC.reg [0, 1] kr kr ?_
       refine WR.runk [0, 1] [] [4, 5] (L' := [(4, .bool false), (5, .int .i64 0)]) (w' := w95) kr ?_
       refine WR.nil ?_
       refine At.go ?_
       refine WC.ret kr ?_
       obtain rfl := Option.some.inj H
       have hS : Sat w95 B [pts b0 (.cells #[.int .i64 o78.2.1, .slice A88 y93.length c89, .int .i64 o78.2.2.2.1, .int .i64 o78.2.2.2.2.1, .int .i64 (wi (o78.2.2.2.2.2 + 1))] 40 (0, 0)), osl 42 (r0 (.pair (.int .i64) (.pair (.int .i64) .bool))) 3 A88 c89 y93, osl 42 (r0 (.pair (.int .i64) (.pair (.int .i64) .bool))) 3 A38 c39 y37] := hS.sel [1, 0, 2] kr
       have hS : Sat w95 B [O40 b0 (o78.2.1, y93, o78.2.2.2.1, o78.2.2.2.2.1, wi (o78.2.2.2.2.2 + 1)), osl 42 (r0 (.pair (.int .i64) (.pair (.int .i64) .bool))) 3 A38 c39 y37] := O40.close (o78.2.1, y93, o78.2.2.2.1, o78.2.2.2.2.1, wi (o78.2.2.2.2.2 + 1)) A88 c89 hS
       have hS : Sat w95 B [O40 b0 (o78.2.1, y93, o78.2.2.2.1, o78.2.2.2.2.1, wi (o78.2.2.2.2.2 + 1))] := hS.sel [0] kr
       exact At.body [.bool false, .int .i64 0] kr ⟨_, rfl, rfl, hS⟩
     ·replace H := ite_f H hb33
      refine WC.skip kr ?_
      refine At.go ?_
      refine WC.seq kr ?_
      refine WC.reg [0, 1, 2, 3, 4, 5, 6, 7] kr kr ?_
      refine WR.runk [0, 1, 2] [3, 4, 5, 6, 7] [0, 1, 6, 136, 138] (L' := [(0, .pointer (some ⟨b0, 0, none⟩)), (1, .int .i64 a1), (6, .int .i64 r24), (136, .pointer (some ⟨b0, 0, none⟩)), (138, .pointer (some ⟨b0, 4, none⟩))]) (w' := w31) kr ?_
      refine WR.st (St.ofR (RSt.loadObj (t := 3) (k := 4) (v := .int .i64 p0.2.2.2.2) (.tmp 138) kr kr kr 0 hS rfl kr rfl ?_))
      refine WR.runk [4, 5, 6] [7] [0, 1, 6, 140, 142] (L' := [(0, .pointer (some ⟨b0, 0, none⟩)), (1, .int .i64 a1), (6, .int .i64 r24), (140, .int .i64 (wi (p0.2.2.2.2 + 1))), (142, .pointer (some ⟨b0, 4, none⟩))]) (w' := w31) kr ?_
      refine WR.st (St.storeObj (t := 3) (k := 4) (cur' := #[.int .i64 p0.1, .slice A2 p0.2.1.length c3, .int .i64 p0.2.2.1, .int .i64 p0.2.2.2.1, .int .i64 (wi (p0.2.2.2.2 + 1))]) (.tmp 142) (.tmp 140) kr kr kr hS kr kr kr rfl rfl (fun w97 hS => ?_))
      refine WR.runk [] [] [0, 1, 6] (L' := [(0, .pointer (some ⟨b0, 0, none⟩)), (1, .int .i64 a1), (6, .int .i64 r24)]) (w' := w97) kr ?_
      refine WR.nil ?_
      refine At.go ?_
      refine WC.seq kr ?_
      refine WC.reg [0, 1, 2, 3, 4, 5, 6, 7, 8] kr kr ?_
      refine WR.runk [0, 1, 2] [3, 4, 5, 6, 7, 8] [1, 6, 145] (L' := [(1, .int .i64 a1), (6, .int .i64 r24), (145, .pointer (some ⟨b0, 1, none⟩))]) (w' := w97) kr ?_
      refine WR.st (St.ofR (RSt.loadObj (t := 38) (k := 1) (v := .slice A2 p0.2.1.length c3) (.tmp 145) kr kr kr 0 hS rfl kr rfl ?_))
      refine WR.runk [4, 5, 6] [7, 8] [146, 147, 149] (L' := [(146, .slice A2 p0.2.1.length c3), (147, .int .i64 r24), (149, .agg #[.int .i64 a1, .int .i64 1, .bool true])]) (w' := w97) kr ?_
      obtain ⟨v98, e99, H⟩ := bind_ex H
      refine WR.st (St.ofP (PSt.idx (k := .i64) (.tmp 146) (.tmp 147) kr kr E38 kr kr (Sat.rdAt 1 hS rfl) e99 ?_))
      refine WR.runk [] [8] [149, 150] (L' := [(149, .agg #[.int .i64 a1, .int .i64 1, .bool true]), (150, .pointer (some (adr A2 r24.toNat 3)))]) (w' := w97) kr ?_
      have hS : Sat w97 B [osl 42 (r0 (.pair (.int .i64) (.pair (.int .i64) .bool))) 3 A2 c3 p0.2.1, pts b0 (.cells #[.int .i64 p0.1, .slice A2 p0.2.1.length c3, .int .i64 p0.2.2.1, .int .i64 p0.2.2.2.1, .int .i64 (wi (p0.2.2.2.2 + 1))] 40 (0, 0))] := hS.sel [1, 0] kr
      obtain ⟨y100, e101, H⟩ := bind_ex H
      refine WR.st (St.storeFlat (t := 42) (vs := [.int .i64 a1, .int .i64 1, .bool true]) (.tmp 150) (.tmp 149) kr kr kr hS kr kr kr rfl e101 ⟨[.int .i64 a1], [.int .i64 1, .bool true], rfl, rfl, rfl, ⟨[.int .i64 1], [.bool true], rfl, rfl, rfl, rfl⟩⟩ (fun w102 hS => ?_))
      have hl103 := set?_len e101
      have hS : Sat w102 B [osl 42 (r0 (.pair (.int .i64) (.pair (.int .i64) .bool))) 3 A2 c3 y100, pts b0 (.cells #[.int .i64 p0.1, .slice A2 y100.length c3, .int .i64 p0.2.2.1, .int .i64 p0.2.2.2.1, .int .i64 (wi (p0.2.2.2.2 + 1))] 40 (0, 0))] := by simpa only [hl103] using hS
      refine WR.runk [] [] [] (L' := []) (w' := w102) kr ?_
      refine WR.nil ?_
      refine At.go ?_
      refine WC.seq kr ?_
      refine WC.reg [0, 1] kr kr ?_
      refine WR.runk [0, 1] [] [4, 5] (L' := [(4, .bool false), (5, .int .i64 0)]) (w' := w102) kr ?_
      refine WR.nil ?_
      refine At.go ?_
      refine WC.ret kr ?_
      obtain rfl := Option.some.inj H
      have hS : Sat w102 B [pts b0 (.cells #[.int .i64 p0.1, .slice A2 y100.length c3, .int .i64 p0.2.2.1, .int .i64 p0.2.2.2.1, .int .i64 (wi (p0.2.2.2.2 + 1))] 40 (0, 0)), osl 42 (r0 (.pair (.int .i64) (.pair (.int .i64) .bool))) 3 A2 c3 y100] := hS.sel [1, 0] kr
      have hS : Sat w102 B [O40 b0 (p0.1, y100, p0.2.2.1, p0.2.2.2.1, wi (p0.2.2.2.2 + 1))] := O40.close (p0.1, y100, p0.2.2.1, p0.2.2.2.1, wi (p0.2.2.2.2 + 1)) A2 c3 hS
      have hS : Sat w102 B [O40 b0 (p0.1, y100, p0.2.2.1, p0.2.2.2.1, wi (p0.2.2.2.2 + 1))] := hS.sel [0] kr
      exact At.body [.bool false, .int .i64 0] kr ⟨_, rfl, rfl, hS⟩
/-! ### 16 (*colophon/colophonref07.Cache).Stats -/
def colophonref07_Cache_Stats.l1 (y8 : Int × (List (Int × Int × Bool)) × Int × Int × Int) : Nat → Int → (Int × Int × Int × Int) → Option (Int × Int × Int × Int)
  | 0, _, _ => none
  | k + 1, x20_l1, q19_l1 => (if decide (x20_l1 < (y8.2.1.length : Int)) then ((at? y8.2.1 x20_l1).bind fun v22 => (if decide (v22.1 ≥ 0) then (if decide (v22.2.1 > 0) then colophonref07_Cache_Stats.l1 y8 k (wi (x20_l1 + 1)) (q19_l1.1, q19_l1.2.1, wi (q19_l1.2.2.1 + 1), wi (q19_l1.2.2.2 + 1)) else colophonref07_Cache_Stats.l1 y8 k (wi (x20_l1 + 1)) (q19_l1.1, q19_l1.2.1, wi (q19_l1.2.2.1 + 1), q19_l1.2.2.2)) else (if decide (v22.2.1 > 0) then colophonref07_Cache_Stats.l1 y8 k (wi (x20_l1 + 1)) (q19_l1.1, q19_l1.2.1, q19_l1.2.2.1, wi (q19_l1.2.2.2 + 1)) else colophonref07_Cache_Stats.l1 y8 k (wi (x20_l1 + 1)) q19_l1))) else some q19_l1)
def colophonref07_Cache_Stats.f (p0 : Option (Int × (List (Int × Int × Bool)) × Int × Int × Int)) : Option (Int × Int × Int × Int) := (p0.bind fun y8 => ((colophonref07_Cache_Stats.l1 y8 FU 0 (y8.2.2.2.1, y8.2.2.2.2, 0, 0)).bind fun o34 => some (o34.1, o34.2.1, o34.2.2.1, o34.2.2.2)))
def colophonref07_Cache_Stats.post (w : World) (r : (Int × Int × Int × Int)) (v : Value) (w' : World) : Prop := v = (.agg #[.int .i64 r.1, .int .i64 r.2.1, .int .i64 r.2.2.1, .int .i64 r.2.2.2] : Value) ∧ Sat w' (rf w) []
theorem colophonref07_Cache_Stats.l1_ok {Q} (w0 : World) (b1 : Nat) (y8 : Int × (List (Int × Int × Bool)) × Int × Int × Int) (A14 : Option Addr) (c15 : Nat) (b17 : Nat) (R16 : rdS (r0 (.pair (.int .i64) (.pair (.int .i64) .bool))) 3 (hp w0) A14 c15 y8.2.1) (out : (Int × Int × Int × Int)) (hn0 : ∀ (w : World), Sat w (rf w0) [O44 b1 (0, 0, 0, 0), O44 b17 out] → At Q (.exit 0) 40 [(2, .pointer (some ⟨b1, 0, none⟩)), (3, .pointer (some ⟨b17, 0, none⟩))] w) :
    ∀ (k : Nat) (x20_l1 : Int) (q19_l1 : Int × Int × Int × Int) (w : World), Sat w (rf w0) [O44 b1 (0, 0, 0, 0), O44 b17 q19_l1] → colophonref07_Cache_Stats.l1 y8 k x20_l1 q19_l1 = some out → WL Try.prog (cbody (cbody (cr (cl (cr (cr C16)))))) Q 40 [(2, .pointer (some ⟨b1, 0, none⟩)), (3, .pointer (some ⟨b17, 0, none⟩)), (18, .slice A14 y8.2.1.length c15), (19, .int .i64 (y8.2.1.length : Int)), (20, .int .i64 x20_l1)] w := by
  intro k
  induction k with
  | zero => intro x20_l1 q19_l1 w hS H; exact absurd (show none = some out from H) (by simp)
  | succ k ih =>
    intro x20_l1 q19_l1 w hS H
    unfold colophonref07_Cache_Stats.l1 at H
    refine WL.round ?_
    refine WC.seq kr ?_
    refine WC.reg [0] kr kr ?_
    refine WR.runk [0] [] [2, 3, 18, 19, 20, 21] (L' := [(2, .pointer (some ⟨b1, 0, none⟩)), (3, .pointer (some ⟨b17, 0, none⟩)), (18, .slice A14 y8.2.1.length c15), (19, .int .i64 (y8.2.1.length : Int)), (20, .int .i64 x20_l1), (21, .bool (decide (x20_l1 < (y8.2.1.length : Int))))]) (w' := w) kr ?_
    refine WR.nil ?_
    refine At.go ?_
    refine WC.seq kr ?_
    refine WC.cond kr (decide (x20_l1 < (y8.2.1.length : Int))) kr kr (fun hb21 => ?_) (fun hb21 => ?_)
    ·replace H := ite_t H hb21
     refine WC.skip kr ?_
     refine At.go ?_
     refine WC.seq kr ?_
     refine WC.block kr ?_
     refine WC.seq kr ?_
     refine WC.reg [0, 1, 2, 3] kr kr ?_
     refine WR.runk [] [0, 1, 2, 3] [2, 3, 18, 19, 20] (L' := [(2, .pointer (some ⟨b1, 0, none⟩)), (3, .pointer (some ⟨b17, 0, none⟩)), (18, .slice A14 y8.2.1.length c15), (19, .int .i64 (y8.2.1.length : Int)), (20, .int .i64 x20_l1)]) (w' := w) kr ?_
     obtain ⟨v22, e23, H⟩ := bind_ex H
     refine WR.st (St.ofP (PSt.idx (k := .i64) (.tmp 18) (.tmp 20) kr kr E38 kr kr (rdS.up R16 hS.sub0) e23 ?_))
     refine WR.runk [] [1, 2, 3] [2, 3, 18, 19, 20, 22] (L' := [(2, .pointer (some ⟨b1, 0, none⟩)), (3, .pointer (some ⟨b17, 0, none⟩)), (18, .slice A14 y8.2.1.length c15), (19, .int .i64 (y8.2.1.length : Int)), (20, .int .i64 x20_l1), (22, .pointer (some (adr A14 x20_l1.toNat 3)))]) (w' := w) kr ?_
     refine WR.st (St.ofR (RSt.loadFlat (t := 42) (κ := (.pair (.int .i64) (.pair (.int .i64) .bool))) (.tmp 22) kr kr kr kr kr kr (rdS.up R16 hS.sub0) e23 ?_))
     refine WR.runk [] [2, 3] [2, 3, 18, 19, 20, 23] (L' := [(2, .pointer (some ⟨b1, 0, none⟩)), (3, .pointer (some ⟨b17, 0, none⟩)), (18, .slice A14 y8.2.1.length c15), (19, .int .i64 (y8.2.1.length : Int)), (20, .int .i64 x20_l1), (23, .agg #[.int .i64 v22.1, .int .i64 v22.2.1, .bool v22.2.2])]) (w' := w) kr ?_
     refine WR.st (St.box hS kr (.cells #[.int .i64 0, .int .i64 0, .bool false] 42) (fun b24 => .pointer (some ⟨b24, 0, none⟩)) (fun _ => by kernel_rfl) (fun b24 w25 hS => ?_))
     refine WR.runk [] [3] [2, 3, 5, 18, 19, 20, 23] (L' := [(2, .pointer (some ⟨b1, 0, none⟩)), (3, .pointer (some ⟨b17, 0, none⟩)), (5, .pointer (some ⟨b24, 0, none⟩)), (18, .slice A14 y8.2.1.length c15), (19, .int .i64 (y8.2.1.length : Int)), (20, .int .i64 x20_l1), (23, .agg #[.int .i64 v22.1, .int .i64 v22.2.1, .bool v22.2.2])]) (w' := w25) kr ?_
     refine WR.st (St.storeAll (t := 42) (vs := [.int .i64 v22.1, .int .i64 v22.2.1, .bool v22.2.2]) (.tmp 5) (.tmp 23) kr kr kr hS kr kr kr kr (fun w27 hS => ?_))
     have hS : Sat w27 (rf w0) [pts b24 (.cells #[.int .i64 v22.1, .int .i64 v22.2.1, .bool v22.2.2] 42 (0, 0)), O44 b1 (0, 0, 0, 0), O44 b17 q19_l1] := hS
     refine WR.runk [] [] [2, 3, 5, 18, 19, 20] (L' := [(2, .pointer (some ⟨b1, 0, none⟩)), (3, .pointer (some ⟨b17, 0, none⟩)), (5, .pointer (some ⟨b24, 0, none⟩)), (18, .slice A14 y8.2.1.length c15), (19, .int .i64 (y8.2.1.length : Int)), (20, .int .i64 x20_l1)]) (w' := w27) kr ?_
     refine WR.nil ?_
     refine At.go ?_
     refine WC.seq kr ?_
     refine WC.seq kr ?_
     refine WC.reg [0, 1, 2] kr kr ?_
     refine WR.runk [0] [1, 2] [2, 3, 5, 18, 19, 20, 24] (L' := [(2, .pointer (some ⟨b1, 0, none⟩)), (3, .pointer (some ⟨b17, 0, none⟩)), (5, .pointer (some ⟨b24, 0, none⟩)), (18, .slice A14 y8.2.1.length c15), (19, .int .i64 (y8.2.1.length : Int)), (20, .int .i64 x20_l1), (24, .pointer (some ⟨b24, 0, none⟩))]) (w' := w27) kr ?_
     refine WR.st (St.ofR (RSt.loadObj (t := 3) (k := 0) (v := .int .i64 v22.1) (.tmp 24) kr kr kr 0 hS rfl kr rfl ?_))
     refine WR.runk [2] [] [2, 3, 5, 18, 19, 20, 26] (L' := [(2, .pointer (some ⟨b1, 0, none⟩)), (3, .pointer (some ⟨b17, 0, none⟩)), (5, .pointer (some ⟨b24, 0, none⟩)), (18, .slice A14 y8.2.1.length c15), (19, .int .i64 (y8.2.1.length : Int)), (20, .int .i64 x20_l1), (26, .bool (decide (v22.1 ≥ 0)))]) (w' := w27) kr ?_
     refine WR.nil ?_
     refine At.go ?_
     refine WC.cond kr (decide (v22.1 ≥ 0)) kr kr (fun hb28 => ?_) (fun hb28 => ?_)
     ·replace H := ite_t H hb28
      refine WC.reg [0, 1, 2, 3, 4] kr kr ?_
      refine WR.runk [0] [1, 2, 3, 4] [2, 3, 5, 18, 19, 20, 27] (L' := [(2, .pointer (some ⟨b1, 0, none⟩)), (3, .pointer (some ⟨b17, 0, none⟩)), (5, .pointer (some ⟨b24, 0, none⟩)), (18, .slice A14 y8.2.1.length c15), (19, .int .i64 (y8.2.1.length : Int)), (20, .int .i64 x20_l1), (27, .pointer (some ⟨b17, 2, none⟩))]) (w' := w27) kr ?_
      have hS : Sat w27 (rf w0) [O44 b17 q19_l1, pts b24 (.cells #[.int .i64 v22.1, .int .i64 v22.2.1, .bool v22.2.2] 42 (0, 0)), O44 b1 (0, 0, 0, 0)] := hS.sel [2, 0, 1] kr
      have hS := O44.open hS
      have hS : Sat w27 (rf w0) [pts b17 (.cells #[.int .i64 q19_l1.1, .int .i64 q19_l1.2.1, .int .i64 q19_l1.2.2.1, .int .i64 q19_l1.2.2.2] 44 (0, 0)), pts b24 (.cells #[.int .i64 v22.1, .int .i64 v22.2.1, .bool v22.2.2] 42 (0, 0)), O44 b1 (0, 0, 0, 0)] := hS
      refine WR.st (St.ofR (RSt.loadObj (t := 3) (k := 2) (v := .int .i64 q19_l1.2.2.1) (.tmp 27) kr kr kr 0 hS rfl kr rfl ?_))
      refine WR.runk [2, 3] [4] [2, 3, 5, 18, 19, 20, 29, 30] (L' := [(2, .pointer (some ⟨b1, 0, none⟩)), (3, .pointer (some ⟨b17, 0, none⟩)), (5, .pointer (some ⟨b24, 0, none⟩)), (18, .slice A14 y8.2.1.length c15), (19, .int .i64 (y8.2.1.length : Int)), (20, .int .i64 x20_l1), (29, .int .i64 (wi (q19_l1.2.2.1 + 1))), (30, .pointer (some ⟨b17, 2, none⟩))]) (w' := w27) kr ?_
      refine WR.st (St.storeObj (t := 3) (k := 2) (cur' := #[.int .i64 q19_l1.1, .int .i64 q19_l1.2.1, .int .i64 (wi (q19_l1.2.2.1 + 1)), .int .i64 q19_l1.2.2.2]) (.tmp 30) (.tmp 29) kr kr kr hS kr kr kr rfl rfl (fun w29 hS => ?_))
      refine WR.runk [] [] [2, 3, 5, 18, 19, 20] (L' := [(2, .pointer (some ⟨b1, 0, none⟩)), (3, .pointer (some ⟨b17, 0, none⟩)), (5, .pointer (some ⟨b24, 0, none⟩)), (18, .slice A14 y8.2.1.length c15), (19, .int .i64 (y8.2.1.length : Int)), (20, .int .i64 x20_l1)]) (w' := w29) kr ?_
      refine WR.nil ?_
      refine At.go ?_
      refine WC.seq kr ?_
      refine WC.reg [0, 1, 2] kr kr ?_
      refine WR.runk [0] [1, 2] [2, 3, 18, 19, 20, 31] (L' := [(2, .pointer (some ⟨b1, 0, none⟩)), (3, .pointer (some ⟨b17, 0, none⟩)), (18, .slice A14 y8.2.1.length c15), (19, .int .i64 (y8.2.1.length : Int)), (20, .int .i64 x20_l1), (31, .pointer (some ⟨b24, 1, none⟩))]) (w' := w29) kr ?_
      refine WR.st (St.ofR (RSt.loadObj (t := 3) (k := 1) (v := .int .i64 v22.2.1) (.tmp 31) kr kr kr 1 hS rfl kr rfl ?_))
      refine WR.runk [2] [] [2, 3, 18, 19, 20, 33] (L' := [(2, .pointer (some ⟨b1, 0, none⟩)), (3, .pointer (some ⟨b17, 0, none⟩)), (18, .slice A14 y8.2.1.length c15), (19, .int .i64 (y8.2.1.length : Int)), (20, .int .i64 x20_l1), (33, .bool (decide (v22.2.1 > 0)))]) (w' := w29) kr ?_
      refine WR.nil ?_
      refine At.go ?_
      refine WC.cond kr (decide (v22.2.1 > 0)) kr kr (fun hb30 => ?_) (fun hb30 => ?_)
      ·replace H := ite_t H hb30
       refine WC.reg [0, 1, 2, 3, 4] kr kr ?_
       refine WR.runk [0] [1, 2, 3, 4] [2, 3, 18, 19, 20, 34] (L' := [(2, .pointer (some ⟨b1, 0, none⟩)), (3, .pointer (some ⟨b17, 0, none⟩)), (18, .slice A14 y8.2.1.length c15), (19, .int .i64 (y8.2.1.length : Int)), (20, .int .i64 x20_l1), (34, .pointer (some ⟨b17, 3, none⟩))]) (w' := w29) kr ?_
       refine WR.st (St.ofR (RSt.loadObj (t := 3) (k := 3) (v := .int .i64 q19_l1.2.2.2) (.tmp 34) kr kr kr 0 hS rfl kr rfl ?_))
       refine WR.runk [2, 3] [4] [2, 3, 18, 19, 20, 36, 37] (L' := [(2, .pointer (some ⟨b1, 0, none⟩)), (3, .pointer (some ⟨b17, 0, none⟩)), (18, .slice A14 y8.2.1.length c15), (19, .int .i64 (y8.2.1.length : Int)), (20, .int .i64 x20_l1), (36, .int .i64 (wi (q19_l1.2.2.2 + 1))), (37, .pointer (some ⟨b17, 3, none⟩))]) (w' := w29) kr ?_
       refine WR.st (St.storeObj (t := 3) (k := 3) (cur' := #[.int .i64 q19_l1.1, .int .i64 q19_l1.2.1, .int .i64 (wi (q19_l1.2.2.1 + 1)), .int .i64 (wi (q19_l1.2.2.2 + 1))]) (.tmp 37) (.tmp 36) kr kr kr hS kr kr kr rfl rfl (fun w31 hS => ?_))
       refine WR.runk [] [] [2, 3, 18, 19, 20] (L' := [(2, .pointer (some ⟨b1, 0, none⟩)), (3, .pointer (some ⟨b17, 0, none⟩)), (18, .slice A14 y8.2.1.length c15), (19, .int .i64 (y8.2.1.length : Int)), (20, .int .i64 x20_l1)]) (w' := w31) kr ?_
       refine WR.nil ?_
       refine At.blockNormal ?_
       refine At.go ?_
       refine WC.reg [0, 1] kr kr ?_
       refine WR.runk [0, 1] [] [2, 3, 18, 19, 20] (L' := [(2, .pointer (some ⟨b1, 0, none⟩)), (3, .pointer (some ⟨b17, 0, none⟩)), (18, .slice A14 y8.2.1.length c15), (19, .int .i64 (y8.2.1.length : Int)), (20, .int .i64 (wi (x20_l1 + 1)))]) (w' := w31) kr ?_
       refine WR.nil ?_
       have hS : Sat w31 (rf w0) [pts b17 (.cells #[.int .i64 q19_l1.1, .int .i64 q19_l1.2.1, .int .i64 (wi (q19_l1.2.2.1 + 1)), .int .i64 (wi (q19_l1.2.2.2 + 1))] 44 (0, 0)), pts b24 (.cells #[.int .i64 v22.1, .int .i64 v22.2.1, .bool v22.2.2] 42 (0, 0)), O44 b1 (0, 0, 0, 0)] := hS.sel [0, 1, 2] kr
       have hS : Sat w31 (rf w0) [O44 b17 (q19_l1.1, q19_l1.2.1, wi (q19_l1.2.2.1 + 1), wi (q19_l1.2.2.2 + 1)), pts b24 (.cells #[.int .i64 v22.1, .int .i64 v22.2.1, .bool v22.2.2] 42 (0, 0)), O44 b1 (0, 0, 0, 0)] := O44.close (q19_l1.1, q19_l1.2.1, wi (q19_l1.2.2.1 + 1), wi (q19_l1.2.2.2 + 1)) hS
       have hS : Sat w31 (rf w0) [O44 b1 (0, 0, 0, 0), O44 b17 (q19_l1.1, q19_l1.2.1, wi (q19_l1.2.2.1 + 1), wi (q19_l1.2.2.2 + 1))] := hS.sel [2, 0] kr
       refine At.again ?_
       refine WL.weaken [2, 3, 18, 19, 20] (L' := [(2, .pointer (some ⟨b1, 0, none⟩)), (3, .pointer (some ⟨b17, 0, none⟩)), (18, .slice A14 y8.2.1.length c15), (19, .int .i64 (y8.2.1.length : Int)), (20, .int .i64 (wi (x20_l1 + 1)))]) kr ?_
       exact ih (wi (x20_l1 + 1)) (q19_l1.1, q19_l1.2.1, wi (q19_l1.2.2.1 + 1), wi (q19_l1.2.2.2 + 1)) _ hS H
      ·replace H := ite_f H hb30
       refine WC.skip kr ?_
       refine At.blockNormal ?_
       refine At.go ?_
       refine WC.reg [0, 1] kr kr ?_
       refine WR.runk [0, 1] [] [2, 3, 18, 19, 20] (L' := [(2, .pointer (some ⟨b1, 0, none⟩)), (3, .pointer (some ⟨b17, 0, none⟩)), (18, .slice A14 y8.2.1.length c15), (19, .int .i64 (y8.2.1.length : Int)), (20, .int .i64 (wi (x20_l1 + 1)))]) (w' := w29) kr ?_
       refine WR.nil ?_
       have hS : Sat w29 (rf w0) [pts b17 (.cells #[.int .i64 q19_l1.1, .int .i64 q19_l1.2.1, .int .i64 (wi (q19_l1.2.2.1 + 1)), .int .i64 q19_l1.2.2.2] 44 (0, 0)), pts b24 (.cells #[.int .i64 v22.1, .int .i64 v22.2.1, .bool v22.2.2] 42 (0, 0)), O44 b1 (0, 0, 0, 0)] := hS.sel [0, 1, 2] kr
       have hS : Sat w29 (rf w0) [O44 b17 (q19_l1.1, q19_l1.2.1, wi (q19_l1.2.2.1 + 1), q19_l1.2.2.2), pts b24 (.cells #[.int .i64 v22.1, .int .i64 v22.2.1, .bool v22.2.2] 42 (0, 0)), O44 b1 (0, 0, 0, 0)] := O44.close (q19_l1.1, q19_l1.2.1, wi (q19_l1.2.2.1 + 1), q19_l1.2.2.2) hS
       have hS : Sat w29 (rf w0) [O44 b1 (0, 0, 0, 0), O44 b17 (q19_l1.1, q19_l1.2.1, wi (q19_l1.2.2.1 + 1), q19_l1.2.2.2)] := hS.sel [2, 0] kr
       refine At.again ?_
       refine WL.weaken [2, 3, 18, 19, 20] (L' := [(2, .pointer (some ⟨b1, 0, none⟩)), (3, .pointer (some ⟨b17, 0, none⟩)), (18, .slice A14 y8.2.1.length c15), (19, .int .i64 (y8.2.1.length : Int)), (20, .int .i64 (wi (x20_l1 + 1)))]) kr ?_
       exact ih (wi (x20_l1 + 1)) (q19_l1.1, q19_l1.2.1, wi (q19_l1.2.2.1 + 1), q19_l1.2.2.2) _ hS H
     ·replace H := ite_f H hb28
      refine WC.skip kr ?_
      refine At.go ?_
      refine WC.seq kr ?_
      refine WC.reg [0, 1, 2] kr kr ?_
      refine WR.runk [0] [1, 2] [2, 3, 18, 19, 20, 31] (L' := [(2, .pointer (some ⟨b1, 0, none⟩)), (3, .pointer (some ⟨b17, 0, none⟩)), (18, .slice A14 y8.2.1.length c15), (19, .int .i64 (y8.2.1.length : Int)), (20, .int .i64 x20_l1), (31, .pointer (some ⟨b24, 1, none⟩))]) (w' := w27) kr ?_
      refine WR.st (St.ofR (RSt.loadObj (t := 3) (k := 1) (v := .int .i64 v22.2.1) (.tmp 31) kr kr kr 0 hS rfl kr rfl ?_))
      refine WR.runk [2] [] [2, 3, 18, 19, 20, 33] (L' := [(2, .pointer (some ⟨b1, 0, none⟩)), (3, .pointer (some ⟨b17, 0, none⟩)), (18, .slice A14 y8.2.1.length c15), (19, .int .i64 (y8.2.1.length : Int)), (20, .int .i64 x20_l1), (33, .bool (decide (v22.2.1 > 0)))]) (w' := w27) kr ?_
      refine WR.nil ?_
      refine At.go ?_
      refine WC.cond kr (decide (v22.2.1 > 0)) kr kr (fun hb32 => ?_) (fun hb32 => ?_)
      ·replace H := ite_t H hb32
       refine WC.reg [0, 1, 2, 3, 4] kr kr ?_
       refine WR.runk [0] [1, 2, 3, 4] [2, 3, 18, 19, 20, 34] (L' := [(2, .pointer (some ⟨b1, 0, none⟩)), (3, .pointer (some ⟨b17, 0, none⟩)), (18, .slice A14 y8.2.1.length c15), (19, .int .i64 (y8.2.1.length : Int)), (20, .int .i64 x20_l1), (34, .pointer (some ⟨b17, 3, none⟩))]) (w' := w27) kr ?_
       have hS : Sat w27 (rf w0) [O44 b17 q19_l1, pts b24 (.cells #[.int .i64 v22.1, .int .i64 v22.2.1, .bool v22.2.2] 42 (0, 0)), O44 b1 (0, 0, 0, 0)] := hS.sel [2, 0, 1] kr
       have hS := O44.open hS
       have hS : Sat w27 (rf w0) [pts b17 (.cells #[.int .i64 q19_l1.1, .int .i64 q19_l1.2.1, .int .i64 q19_l1.2.2.1, .int .i64 q19_l1.2.2.2] 44 (0, 0)), pts b24 (.cells #[.int .i64 v22.1, .int .i64 v22.2.1, .bool v22.2.2] 42 (0, 0)), O44 b1 (0, 0, 0, 0)] := hS
       refine WR.st (St.ofR (RSt.loadObj (t := 3) (k := 3) (v := .int .i64 q19_l1.2.2.2) (.tmp 34) kr kr kr 0 hS rfl kr rfl ?_))
       refine WR.runk [2, 3] [4] [2, 3, 18, 19, 20, 36, 37] (L' := [(2, .pointer (some ⟨b1, 0, none⟩)), (3, .pointer (some ⟨b17, 0, none⟩)), (18, .slice A14 y8.2.1.length c15), (19, .int .i64 (y8.2.1.length : Int)), (20, .int .i64 x20_l1), (36, .int .i64 (wi (q19_l1.2.2.2 + 1))), (37, .pointer (some ⟨b17, 3, none⟩))]) (w' := w27) kr ?_
       refine WR.st (St.storeObj (t := 3) (k := 3) (cur' := #[.int .i64 q19_l1.1, .int .i64 q19_l1.2.1, .int .i64 q19_l1.2.2.1, .int .i64 (wi (q19_l1.2.2.2 + 1))]) (.tmp 37) (.tmp 36) kr kr kr hS kr kr kr rfl rfl (fun w33 hS => ?_))
       refine WR.runk [] [] [2, 3, 18, 19, 20] (L' := [(2, .pointer (some ⟨b1, 0, none⟩)), (3, .pointer (some ⟨b17, 0, none⟩)), (18, .slice A14 y8.2.1.length c15), (19, .int .i64 (y8.2.1.length : Int)), (20, .int .i64 x20_l1)]) (w' := w33) kr ?_
       refine WR.nil ?_
       refine At.blockNormal ?_
       refine At.go ?_
       refine WC.reg [0, 1] kr kr ?_
       refine WR.runk [0, 1] [] [2, 3, 18, 19, 20] (L' := [(2, .pointer (some ⟨b1, 0, none⟩)), (3, .pointer (some ⟨b17, 0, none⟩)), (18, .slice A14 y8.2.1.length c15), (19, .int .i64 (y8.2.1.length : Int)), (20, .int .i64 (wi (x20_l1 + 1)))]) (w' := w33) kr ?_
       refine WR.nil ?_
       have hS : Sat w33 (rf w0) [pts b17 (.cells #[.int .i64 q19_l1.1, .int .i64 q19_l1.2.1, .int .i64 q19_l1.2.2.1, .int .i64 (wi (q19_l1.2.2.2 + 1))] 44 (0, 0)), pts b24 (.cells #[.int .i64 v22.1, .int .i64 v22.2.1, .bool v22.2.2] 42 (0, 0)), O44 b1 (0, 0, 0, 0)] := hS.sel [0, 1, 2] kr
       have hS : Sat w33 (rf w0) [O44 b17 (q19_l1.1, q19_l1.2.1, q19_l1.2.2.1, wi (q19_l1.2.2.2 + 1)), pts b24 (.cells #[.int .i64 v22.1, .int .i64 v22.2.1, .bool v22.2.2] 42 (0, 0)), O44 b1 (0, 0, 0, 0)] := O44.close (q19_l1.1, q19_l1.2.1, q19_l1.2.2.1, wi (q19_l1.2.2.2 + 1)) hS
       have hS : Sat w33 (rf w0) [O44 b1 (0, 0, 0, 0), O44 b17 (q19_l1.1, q19_l1.2.1, q19_l1.2.2.1, wi (q19_l1.2.2.2 + 1))] := hS.sel [2, 0] kr
       refine At.again ?_
       refine WL.weaken [2, 3, 18, 19, 20] (L' := [(2, .pointer (some ⟨b1, 0, none⟩)), (3, .pointer (some ⟨b17, 0, none⟩)), (18, .slice A14 y8.2.1.length c15), (19, .int .i64 (y8.2.1.length : Int)), (20, .int .i64 (wi (x20_l1 + 1)))]) kr ?_
       exact ih (wi (x20_l1 + 1)) (q19_l1.1, q19_l1.2.1, q19_l1.2.2.1, wi (q19_l1.2.2.2 + 1)) _ hS H
      ·replace H := ite_f H hb32
       refine WC.skip kr ?_
       refine At.blockNormal ?_
       refine At.go ?_
       refine WC.reg [0, 1] kr kr ?_
       refine WR.runk [0, 1] [] [2, 3, 18, 19, 20] (L' := [(2, .pointer (some ⟨b1, 0, none⟩)), (3, .pointer (some ⟨b17, 0, none⟩)), (18, .slice A14 y8.2.1.length c15), (19, .int .i64 (y8.2.1.length : Int)), (20, .int .i64 (wi (x20_l1 + 1)))]) (w' := w27) kr ?_
       refine WR.nil ?_
       have hS : Sat w27 (rf w0) [O44 b1 (0, 0, 0, 0), O44 b17 q19_l1] := hS.sel [1, 2] kr
       refine At.again ?_
       refine WL.weaken [2, 3, 18, 19, 20] (L' := [(2, .pointer (some ⟨b1, 0, none⟩)), (3, .pointer (some ⟨b17, 0, none⟩)), (18, .slice A14 y8.2.1.length c15), (19, .int .i64 (y8.2.1.length : Int)), (20, .int .i64 (wi (x20_l1 + 1)))]) kr ?_
       exact ih (wi (x20_l1 + 1)) q19_l1 _ hS H
    ·replace H := ite_f H hb21
     refine WC.exit kr ?_
     refine At.thenExit ?_
     refine At.thenExit ?_
     obtain rfl := Option.some.inj H
     have hS : Sat w (rf w0) [O44 b1 (0, 0, 0, 0), O44 b17 q19_l1] := hS.sel [0, 1] kr
     refine At.weaken [2, 3] (L' := [(2, .pointer (some ⟨b1, 0, none⟩)), (3, .pointer (some ⟨b17, 0, none⟩))]) kr ?_
     exact hn0 _ hS
theorem colophonref07_Cache_Stats.calls (w0 : World) (v0 : Value) (p0 : Option (Int × (List (Int × Int × Bool)) × Int × Int × Int)) (R0 : rd (hp w0) (.ptr 40 (.pair (.int .i64) (.pair (.slice 42 (.pair (.int .i64) (.pair (.int .i64) .bool))) (.pair (.int .i64) (.pair (.int .i64) (.int .i64)))))) [v0] p0) (r : (Int × Int × Int × Int)) (H : colophonref07_Cache_Stats.f p0 = some r) :
    Calls Try.prog 16 #[v0] w0 (fun e w' => ∃ v, e = .returned v ∧ colophonref07_Cache_Stats.post w0 r v w') := by
  have hS : Sat w0 (rf w0) [] := Sat.start w0
  unfold colophonref07_Cache_Stats.f at H
  refine calls_of_WC (vs := [v0]) Try.func16 (c := C16) (n := 40) kr kr kr ?_
  refine WC.seq kr ?_
  refine WC.reg [0] kr kr ?_
  refine WR.runk [] [0] [0] (L' := [(0, v0)]) (w' := w0) kr ?_
  refine WR.st (St.box hS kr (.cells #[.int .i64 0, .int .i64 0, .int .i64 0, .int .i64 0] 44) (fun b1 => .pointer (some ⟨b1, 0, none⟩)) (fun _ => by kernel_rfl) (fun b1 w2 hS => ?_))
  refine WR.runk [] [] [0, 2] (L' := [(0, v0), (2, .pointer (some ⟨b1, 0, none⟩))]) (w' := w2) kr ?_
  refine WR.nil ?_
  refine At.go ?_
  refine WC.seq kr ?_
  refine WC.drawn kr kr 11 kr (fun w4 hw5 => ?_)
  have hS := hS.heap hw5.1 hw5.2
  refine WD.weaken [0, 2] (L' := [(0, v0), (2, .pointer (some ⟨b1, 0, none⟩))]) kr ?_
  refine WD.pure (i := 0) (v := v0) kr kr (fun _ => by kernel_rfl) ?_
  refine WD.weaken [0, 2, 6] (L' := [(0, v0), (2, .pointer (some ⟨b1, 0, none⟩)), (6, v0)]) kr ?_
  obtain ⟨y8, hr6, H⟩ := bind_ex H
  obtain ⟨b9, fr10, A14, c15, hv11, hb12, R16⟩ := P40.open R0 hr6
  have R13 := R0
  rw [hv11, hr6] at R13
  try subst hv11
  replace R16 : rdS (r0 (.pair (.int .i64) (.pair (.int .i64) .bool))) 3 (hp w0) A14 c15 y8.2.1 := R16
  refine WD.weaken [0, 2, 6] (L' := [(0, .pointer (some ⟨b9, 0, none⟩)), (2, .pointer (some ⟨b1, 0, none⟩)), (6, .pointer (some ⟨b9, 0, none⟩))]) kr ?_
  refine WD.pure (i := 1) (v := .pointer (some ⟨b9, 0, none⟩)) kr kr (fun _ => by kernel_rfl) ?_
  refine WD.weaken [0, 2, 7] (L' := [(0, .pointer (some ⟨b9, 0, none⟩)), (2, .pointer (some ⟨b1, 0, none⟩)), (7, .pointer (some ⟨b9, 0, none⟩))]) kr ?_
  refine WD.pure (i := 2) (v := .pointer (some ⟨b9, 3, none⟩)) kr kr (fun _ => by kernel_rfl) ?_
  refine WD.weaken [0, 2, 8] (L' := [(0, .pointer (some ⟨b9, 0, none⟩)), (2, .pointer (some ⟨b1, 0, none⟩)), (8, .pointer (some ⟨b9, 3, none⟩))]) kr ?_
  refine WD.ofR (i := 3) kr (RSt.loadRo (t := 3) (k := 3) (v := .int .i64 y8.2.2.2.1) (.tmp 8) kr kr kr hS.sub0 hb12 kr rfl ?_)
  refine WD.weaken [0, 2, 9] (L' := [(0, .pointer (some ⟨b9, 0, none⟩)), (2, .pointer (some ⟨b1, 0, none⟩)), (9, .int .i64 y8.2.2.2.1)]) kr ?_
  refine WD.pure (i := 4) (v := .pointer (some ⟨b9, 0, none⟩)) kr kr (fun _ => by kernel_rfl) ?_
  refine WD.weaken [0, 2, 9, 10] (L' := [(0, .pointer (some ⟨b9, 0, none⟩)), (2, .pointer (some ⟨b1, 0, none⟩)), (9, .int .i64 y8.2.2.2.1), (10, .pointer (some ⟨b9, 0, none⟩))]) kr ?_
  refine WD.pure (i := 5) (v := .pointer (some ⟨b9, 0, none⟩)) kr kr (fun _ => by kernel_rfl) ?_
  refine WD.weaken [0, 2, 9, 11] (L' := [(0, .pointer (some ⟨b9, 0, none⟩)), (2, .pointer (some ⟨b1, 0, none⟩)), (9, .int .i64 y8.2.2.2.1), (11, .pointer (some ⟨b9, 0, none⟩))]) kr ?_
  refine WD.pure (i := 6) (v := .pointer (some ⟨b9, 4, none⟩)) kr kr (fun _ => by kernel_rfl) ?_
  refine WD.weaken [0, 2, 9, 12] (L' := [(0, .pointer (some ⟨b9, 0, none⟩)), (2, .pointer (some ⟨b1, 0, none⟩)), (9, .int .i64 y8.2.2.2.1), (12, .pointer (some ⟨b9, 4, none⟩))]) kr ?_
  refine WD.ofR (i := 7) kr (RSt.loadRo (t := 3) (k := 4) (v := .int .i64 y8.2.2.2.2) (.tmp 12) kr kr kr hS.sub0 hb12 kr rfl ?_)
  refine WD.weaken [0, 2, 9, 13] (L' := [(0, .pointer (some ⟨b9, 0, none⟩)), (2, .pointer (some ⟨b1, 0, none⟩)), (9, .int .i64 y8.2.2.2.1), (13, .int .i64 y8.2.2.2.2)]) kr ?_
  refine WD.pure (i := 8) (v := .agg #[.int .i64 y8.2.2.2.1, .int .i64 y8.2.2.2.2, .int .i64 0, .int .i64 0]) kr kr (fun _ => by kernel_rfl) ?_
  refine WD.weaken [0, 2, 14] (L' := [(0, .pointer (some ⟨b9, 0, none⟩)), (2, .pointer (some ⟨b1, 0, none⟩)), (14, .agg #[.int .i64 y8.2.2.2.1, .int .i64 y8.2.2.2.2, .int .i64 0, .int .i64 0])]) kr ?_
  refine WD.act (i := 9) kr (St.box hS kr (.cells #[.int .i64 0, .int .i64 0, .int .i64 0, .int .i64 0] 44) (fun b17 => .pointer (some ⟨b17, 0, none⟩)) (fun _ => by kernel_rfl) (fun b17 w18 hS => ?_))
  refine ⟨(asked.cons (RSt.run (n := 40) (RSt.loadRo (t := 3) (k := 4) (v := .int .i64 y8.2.2.2.2) (.tmp 12) kr kr kr hS.sub0 hb12 kr rfl rfl)) (asked.cons (RSt.run (n := 40) (RSt.loadRo (t := 3) (k := 3) (v := .int .i64 y8.2.2.2.1) (.tmp 8) kr kr kr hS.sub0 hb12 kr rfl rfl)) (asked.nil _ _))), ?_⟩
  refine WD.weaken [0, 2, 3, 14] (L' := [(0, .pointer (some ⟨b9, 0, none⟩)), (2, .pointer (some ⟨b1, 0, none⟩)), (3, .pointer (some ⟨b17, 0, none⟩)), (14, .agg #[.int .i64 y8.2.2.2.1, .int .i64 y8.2.2.2.2, .int .i64 0, .int .i64 0])]) kr ?_
  refine WD.act (i := 10) kr (St.storeAll (t := 44) (vs := [.int .i64 y8.2.2.2.1, .int .i64 y8.2.2.2.2, .int .i64 0, .int .i64 0]) (.tmp 3) (.tmp 14) kr kr kr hS kr kr kr kr (fun w20 hS => ?_))
  have hS : Sat w20 (rf w0) [pts b17 (.cells #[.int .i64 y8.2.2.2.1, .int .i64 y8.2.2.2.2, .int .i64 0, .int .i64 0] 44 (0, 0)), pts b1 (.cells #[.int .i64 0, .int .i64 0, .int .i64 0, .int .i64 0] 44 (0, 0))] := hS
  refine ⟨(asked.anc kr (asked.anc kr (asked.nil _ _))), ?_⟩
  refine WD.weaken [0, 2, 3] (L' := [(0, .pointer (some ⟨b9, 0, none⟩)), (2, .pointer (some ⟨b1, 0, none⟩)), (3, .pointer (some ⟨b17, 0, none⟩))]) kr ?_
  refine WD.nil kr ?_
  refine At.go ?_
  refine WC.seq kr ?_
  refine WC.seq kr ?_
  refine WC.reg [0, 1, 2, 3, 4, 5] kr kr ?_
  refine WR.runk [0, 1, 2] [3, 4, 5] [2, 3, 17] (L' := [(2, .pointer (some ⟨b1, 0, none⟩)), (3, .pointer (some ⟨b17, 0, none⟩)), (17, .pointer (some ⟨b9, 1, none⟩))]) (w' := w20) kr ?_
  refine WR.st (St.ofR (RSt.loadRo (t := 38) (k := 1) (v := .slice A14 y8.2.1.length c15) (.tmp 17) kr kr kr hS.sub0 hb12 kr rfl ?_))
  refine WR.runk [4, 5] [] [2, 3, 18, 19, 20] (L' := [(2, .pointer (some ⟨b1, 0, none⟩)), (3, .pointer (some ⟨b17, 0, none⟩)), (18, .slice A14 y8.2.1.length c15), (19, .int .i64 (y8.2.1.length : Int)), (20, .int .i64 0)]) (w' := w20) kr ?_
  refine WR.nil ?_
  refine At.go ?_
  refine WC.block kr ?_
  have hS : Sat w20 (rf w0) [pts b1 (.cells #[.int .i64 0, .int .i64 0, .int .i64 0, .int .i64 0] 44 (0, 0)), pts b17 (.cells #[.int .i64 y8.2.2.2.1, .int .i64 y8.2.2.2.2, .int .i64 0, .int .i64 0] 44 (0, 0))] := hS.sel [1, 0] kr
  have hS : Sat w20 (rf w0) [O44 b1 (0, 0, 0, 0), pts b17 (.cells #[.int .i64 y8.2.2.2.1, .int .i64 y8.2.2.2.2, .int .i64 0, .int .i64 0] 44 (0, 0))] := O44.close (0, 0, 0, 0) hS
  have hS : Sat w20 (rf w0) [pts b17 (.cells #[.int .i64 y8.2.2.2.1, .int .i64 y8.2.2.2.2, .int .i64 0, .int .i64 0] 44 (0, 0)), O44 b1 (0, 0, 0, 0)] := hS.sel [1, 0] kr
  have hS : Sat w20 (rf w0) [O44 b17 (y8.2.2.2.1, y8.2.2.2.2, 0, 0), O44 b1 (0, 0, 0, 0)] := O44.close (y8.2.2.2.1, y8.2.2.2.2, 0, 0) hS
  have hS : Sat w20 (rf w0) [O44 b1 (0, 0, 0, 0), O44 b17 (y8.2.2.2.1, y8.2.2.2.2, 0, 0)] := hS.sel [1, 0] kr
  obtain ⟨o34, e35, H⟩ := bind_ex H
  refine WC.loop kr ?_
  refine WL.weaken [2, 3, 18, 19, 20] (L' := [(2, .pointer (some ⟨b1, 0, none⟩)), (3, .pointer (some ⟨b17, 0, none⟩)), (18, .slice A14 y8.2.1.length c15), (19, .int .i64 (y8.2.1.length : Int)), (20, .int .i64 0)]) kr ?_
  refine colophonref07_Cache_Stats.l1_ok w0 b1 y8 A14 c15 b17 R16 o34 (fun w37 hS => ?_) FU 0 (y8.2.2.2.1, y8.2.2.2.2, 0, 0) _ hS e35
  refine At.hit ?_
  refine At.go ?_
  refine WC.seq kr ?_
  refine WC.reg [0, 1] kr kr ?_
  refine WR.runk [] [0, 1] [2, 3] (L' := [(2, .pointer (some ⟨b1, 0, none⟩)), (3, .pointer (some ⟨b17, 0, none⟩))]) (w' := w37) kr ?_
  have hS : Sat w37 (rf w0) [O44 b17 o34, O44 b1 (0, 0, 0, 0)] := hS.sel [1, 0] kr
  have hS := O44.open hS
  have hS : Sat w37 (rf w0) [pts b17 (.cells #[.int .i64 o34.1, .int .i64 o34.2.1, .int .i64 o34.2.2.1, .int .i64 o34.2.2.2] 44 (0, 0)), O44 b1 (0, 0, 0, 0)] := hS
  refine WR.st (St.ofR (RSt.loadAll (t := 44) (vs := [.int .i64 o34.1, .int .i64 o34.2.1, .int .i64 o34.2.2.1, .int .i64 o34.2.2.2]) (.tmp 3) kr kr kr 0 kr hS rfl kr ?_))
  refine WR.runk [] [1] [2, 39] (L' := [(2, .pointer (some ⟨b1, 0, none⟩)), (39, .agg #[.int .i64 o34.1, .int .i64 o34.2.1, .int .i64 o34.2.2.1, .int .i64 o34.2.2.2])]) (w' := w37) kr ?_
  have hS : Sat w37 (rf w0) [O44 b1 (0, 0, 0, 0), pts b17 (.cells #[.int .i64 o34.1, .int .i64 o34.2.1, .int .i64 o34.2.2.1, .int .i64 o34.2.2.2] 44 (0, 0))] := hS.sel [1, 0] kr
  have hS := O44.open hS
  have hS : Sat w37 (rf w0) [pts b1 (.cells #[.int .i64 0, .int .i64 0, .int .i64 0, .int .i64 0] 44 (0, 0)), pts b17 (.cells #[.int .i64 o34.1, .int .i64 o34.2.1, .int .i64 o34.2.2.1, .int .i64 o34.2.2.2] 44 (0, 0))] := hS
  refine WR.st (St.storeAll (t := 44) (vs := [.int .i64 o34.1, .int .i64 o34.2.1, .int .i64 o34.2.2.1, .int .i64 o34.2.2.2]) (.tmp 2) (.tmp 39) kr kr kr hS kr kr kr kr (fun w39 hS => ?_))
  have hS : Sat w39 (rf w0) [pts b1 (.cells #[.int .i64 o34.1, .int .i64 o34.2.1, .int .i64 o34.2.2.1, .int .i64 o34.2.2.2] 44 (0, 0)), pts b17 (.cells #[.int .i64 o34.1, .int .i64 o34.2.1, .int .i64 o34.2.2.1, .int .i64 o34.2.2.2] 44 (0, 0))] := hS
  refine WR.runk [] [] [2] (L' := [(2, .pointer (some ⟨b1, 0, none⟩))]) (w' := w39) kr ?_
  refine WR.nil ?_
  refine At.go ?_
  refine WC.ret kr ?_
  obtain rfl := Option.some.inj H
  have hS0 := hS
  have hS : Sat w39 (rf w0) [] := hS.sel [] kr
  exact At.bodyC (fun T hT => results_cell1 (a := 2) (t := 44) (vs := [.int .i64 o34.1, .int .i64 o34.2.1, .int .i64 o34.2.2.1, .int .i64 o34.2.2.2]) hT kr kr kr kr 0 hS0 rfl) ⟨_, rfl, rfl, hS⟩
/-! ### 13 (*colophon/colophonref07.Cache).Drop -/
def colophonref07_Cache_Drop.f (p0 : Int × (List (Int × Int × Bool)) × Int × Int × Int) (a1 : Int) : Option (Bool × (Int × (List (Int × Int × Bool)) × Int × Int × Int)) := (if decide (a1 < 0) then some (false, p0) else ((colophonref07_Cache_at.f (some p0) a1).bind fun r4 => (if decide (r4 < 0) then some (false, p0) else ((colophonref07_Cache_at.f (some (p0.1, p0.2.1, p0.2.2.1, p0.2.2.2.1, p0.2.2.2.2)) a1).bind fun r16 => ((at? p0.2.1 r16).bind fun v25 => (if (v25.2.1 == 0) then some (false, p0) else ((colophonref07_Cache_at.f (some (p0.1, p0.2.1, p0.2.2.1, p0.2.2.2.1, p0.2.2.2.2)) a1).bind fun r30 => ((at? p0.2.1 r30).bind fun v39 => some (true, (p0.1, (List.set p0.2.1 r30.toNat (v39.1, wi (v39.2.1 - 1), v39.2.2)), p0.2.2.1, p0.2.2.2.1, p0.2.2.2.2))))))))))
def colophonref07_Cache_Drop.post (B : Rf) (b0 : Nat) (p0 : Int × (List (Int × Int × Bool)) × Int × Int × Int) (w : World) (r : Bool × (Int × (List (Int × Int × Bool)) × Int × Int × Int)) (v : Value) (w' : World) : Prop := v = (.bool r.1 : Value) ∧ Sat w' B [O40 b0 r.2]
theorem colophonref07_Cache_Drop.calls (B : Rf) (w0 : World) (b0 : Nat) (p0 : Int × (List (Int × Int × Bool)) × Int × Int × Int) (hS : Sat w0 B [O40 b0 p0]) (a1 : Int) (r : Bool × (Int × (List (Int × Int × Bool)) × Int × Int × Int)) (H : colophonref07_Cache_Drop.f p0 a1 = some r) :
    Calls Try.prog 13 #[.pointer (some ⟨b0, 0, none⟩), .int .i64 a1] w0 (fun e w' => ∃ v, e = .returned v ∧ colophonref07_Cache_Drop.post B b0 p0 w0 r v w') := by
  unfold colophonref07_Cache_Drop.f at H
  refine calls_of_WC (vs := [.pointer (some ⟨b0, 0, none⟩), .int .i64 a1]) Try.func13 (c := C13) (n := 39) kr kr kr ?_
  refine WC.seq kr ?_
  refine WC.reg [0] kr kr ?_
  refine WR.runk [0] [] [0, 1] (L' := [(0, .pointer (some ⟨b0, 0, none⟩)), (1, .int .i64 a1)]) (w' := w0) kr ?_
  refine WR.nil ?_
  refine At.go ?_
  refine WC.seq kr ?_
  refine WC.seq kr ?_
  refine WC.drawn kr kr 21 kr (fun w1 hw2 => ?_)
  have hS := hS.heap hw2.1 hw2.2
  refine WD.weaken [0, 1] (L' := [(0, .pointer (some ⟨b0, 0, none⟩)), (1, .int .i64 a1)]) kr ?_
  refine WD.pure (i := 0) (v := .int .i64 a1) kr kr (fun _ => by kernel_rfl) ?_
  refine WD.weaken [0, 1, 5] (L' := [(0, .pointer (some ⟨b0, 0, none⟩)), (1, .int .i64 a1), (5, .int .i64 a1)]) kr ?_
  refine WD.pure (i := 1) (v := .bool (decide (a1 < 0))) kr kr (fun _ => by kernel_rfl) ?_
  refine WD.weaken [0, 1, 6] (L' := [(0, .pointer (some ⟨b0, 0, none⟩)), (1, .int .i64 a1), (6, .bool (decide (a1 < 0)))]) kr ?_
  refine WD.pure (i := 2) (v := .bool (decide (a1 < 0))) kr kr (fun _ => by kernel_rfl) ?_
  refine WD.weaken [0, 1, 7] (L' := [(0, .pointer (some ⟨b0, 0, none⟩)), (1, .int .i64 a1), (7, .bool (decide (a1 < 0)))]) kr ?_
  refine WD.split 7 (b := decide (a1 < 0)) kr (fun hb3 => ?_) (fun hb3 => ?_)
  ·replace H := ite_t H hb3
   refine WD.weaken [0, 1, 7] (L' := [(0, .pointer (some ⟨b0, 0, none⟩)), (1, .int .i64 a1), (7, .bool true)]) kr ?_
   refine WD.skip (i := 3) kr kr ?_
   refine WD.weaken [0, 1, 7, 8] (L' := [(0, .pointer (some ⟨b0, 0, none⟩)), (1, .int .i64 a1), (7, .bool true), (8, undef)]) kr ?_
   refine WD.skip (i := 4) kr kr ?_
   refine WD.weaken [0, 1, 7, 8, 9] (L' := [(0, .pointer (some ⟨b0, 0, none⟩)), (1, .int .i64 a1), (7, .bool true), (8, undef), (9, undef)]) kr ?_
   refine WD.skip (i := 5) kr kr ?_
   refine WD.weaken [0, 1, 7, 10] (L' := [(0, .pointer (some ⟨b0, 0, none⟩)), (1, .int .i64 a1), (7, .bool true), (10, undef)]) kr ?_
   refine WD.skip (i := 6) kr kr ?_
   refine WD.weaken [0, 1, 7, 11] (L' := [(0, .pointer (some ⟨b0, 0, none⟩)), (1, .int .i64 a1), (7, .bool true), (11, undef)]) kr ?_
   refine WD.pure (i := 7) (v := .bool true) kr kr (fun _ => by kernel_rfl) ?_
   refine WD.weaken [0, 1, 12] (L' := [(0, .pointer (some ⟨b0, 0, none⟩)), (1, .int .i64 a1), (12, .bool true)]) kr ?_
   refine WD.pure (i := 8) (v := .bool true) kr kr (fun _ => by kernel_rfl) ?_
   refine WD.weaken [0, 1, 13] (L' := [(0, .pointer (some ⟨b0, 0, none⟩)), (1, .int .i64 a1), (13, .bool true)]) kr ?_
   refine WD.skip (i := 9) kr kr ?_
   refine WD.weaken [0, 1, 13, 14] (L' := [(0, .pointer (some ⟨b0, 0, none⟩)), (1, .int .i64 a1), (13, .bool true), (14, undef)]) kr ?_
   refine WD.skip (i := 10) kr kr ?_
   refine WD.weaken [0, 1, 13, 15] (L' := [(0, .pointer (some ⟨b0, 0, none⟩)), (1, .int .i64 a1), (13, .bool true), (15, undef)]) kr ?_
   refine WD.skip (i := 11) kr kr ?_
   refine WD.weaken [0, 1, 13, 16] (L' := [(0, .pointer (some ⟨b0, 0, none⟩)), (1, .int .i64 a1), (13, .bool true), (16, undef)]) kr ?_
   refine WD.skip (i := 12) kr kr ?_
   refine WD.weaken [0, 1, 13, 17] (L' := [(0, .pointer (some ⟨b0, 0, none⟩)), (1, .int .i64 a1), (13, .bool true), (17, undef)]) kr ?_
   refine WD.skip (i := 13) kr kr ?_
   refine WD.weaken [0, 1, 13, 17, 18] (L' := [(0, .pointer (some ⟨b0, 0, none⟩)), (1, .int .i64 a1), (13, .bool true), (17, undef), (18, undef)]) kr ?_
   refine WD.skip (i := 14) kr kr ?_
   refine WD.weaken [0, 1, 13, 17, 18, 19] (L' := [(0, .pointer (some ⟨b0, 0, none⟩)), (1, .int .i64 a1), (13, .bool true), (17, undef), (18, undef), (19, undef)]) kr ?_
   refine WD.skip (i := 15) kr kr ?_
   refine WD.weaken [0, 1, 13, 17, 20] (L' := [(0, .pointer (some ⟨b0, 0, none⟩)), (1, .int .i64 a1), (13, .bool true), (17, undef), (20, undef)]) kr ?_
   refine WD.skip (i := 16) kr kr ?_
   refine WD.weaken [0, 1, 13, 21] (L' := [(0, .pointer (some ⟨b0, 0, none⟩)), (1, .int .i64 a1), (13, .bool true), (21, undef)]) kr ?_
   refine WD.skip (i := 17) kr kr ?_
   refine WD.weaken [0, 1, 13, 22] (L' := [(0, .pointer (some ⟨b0, 0, none⟩)), (1, .int .i64 a1), (13, .bool true), (22, undef)]) kr ?_
   refine WD.skip (i := 18) kr kr ?_
   refine WD.weaken [0, 1, 13, 23] (L' := [(0, .pointer (some ⟨b0, 0, none⟩)), (1, .int .i64 a1), (13, .bool true), (23, undef)]) kr ?_
   refine WD.skip (i := 19) kr kr ?_
   refine WD.weaken [0, 1, 13, 24] (L' := [(0, .pointer (some ⟨b0, 0, none⟩)), (1, .int .i64 a1), (13, .bool true), (24, undef)]) kr ?_
   refine WD.pure (i := 20) (v := .bool true) kr kr (fun _ => by kernel_rfl) ?_
   refine WD.weaken [0, 1, 25] (L' := [(0, .pointer (some ⟨b0, 0, none⟩)), (1, .int .i64 a1), (25, .bool true)]) kr ?_
   refine WD.nil kr ?_
   refine At.go ?_
   refine WC.condT kr kr kr ?_
   refine WC.seq kr ?_
   refine WC.reg [0] kr kr ?_
   refine WR.runk [0] [] [4] (L' := [(4, .bool false)]) (w' := w1) kr ?_
   refine WR.nil ?_
   refine At.go ?_
   refine WC.ret kr ?_
   refine At.thenRet ?_
   obtain rfl := Option.some.inj H
   have hS : Sat w1 B [O40 b0 p0] := hS.sel [0] kr
   exact At.body [.bool false] kr ⟨_, rfl, rfl, hS⟩
  ·replace H := ite_f H hb3
   refine WD.weaken [0, 1, 7] (L' := [(0, .pointer (some ⟨b0, 0, none⟩)), (1, .int .i64 a1), (7, .bool false)]) kr ?_
   refine WD.pure (i := 3) (v := .pointer (some ⟨b0, 0, none⟩)) kr kr (fun _ => by kernel_rfl) ?_
   refine WD.weaken [0, 1, 7, 8] (L' := [(0, .pointer (some ⟨b0, 0, none⟩)), (1, .int .i64 a1), (7, .bool false), (8, .pointer (some ⟨b0, 0, none⟩))]) kr ?_
   refine WD.pure (i := 4) (v := .int .i64 a1) kr kr (fun _ => by kernel_rfl) ?_
   refine WD.weaken [0, 1, 7, 8, 9] (L' := [(0, .pointer (some ⟨b0, 0, none⟩)), (1, .int .i64 a1), (7, .bool false), (8, .pointer (some ⟨b0, 0, none⟩)), (9, .int .i64 a1)]) kr ?_
   obtain ⟨r4, e5, H⟩ := bind_ex H
   refine WD.act (i := 5) kr (St.call kr (f := 24) (args := #[.pointer (some ⟨b0, 0, none⟩), .int .i64 a1]) kr (colophonref07_Cache_at.calls w1 (.pointer (some ⟨b0, 0, none⟩)) (some p0) (Sat.rdAny 0 hS rfl (fun _ h => O40.rd _ _ _ h)) a1 r4 e5) ?_)
   rintro _ w11 ⟨rfl, hS12⟩
   have hS : Sat w11 B [O40 b0 p0] := hS.ext hS12
   refine ⟨(asked.nil _ _), ?_⟩
   refine WD.weaken [0, 1, 7, 10] (L' := [(0, .pointer (some ⟨b0, 0, none⟩)), (1, .int .i64 a1), (7, .bool false), (10, .int .i64 r4)]) kr ?_
   refine WD.pure (i := 6) (v := .bool (decide (r4 < 0))) kr kr (fun _ => by kernel_rfl) ?_
   refine WD.weaken [0, 1, 7, 11] (L' := [(0, .pointer (some ⟨b0, 0, none⟩)), (1, .int .i64 a1), (7, .bool false), (11, .bool (decide (r4 < 0)))]) kr ?_
   refine WD.pure (i := 7) (v := .bool (decide (r4 < 0))) kr kr (fun _ => by kernel_rfl) ?_
   refine WD.weaken [0, 1, 12] (L' := [(0, .pointer (some ⟨b0, 0, none⟩)), (1, .int .i64 a1), (12, .bool (decide (r4 < 0)))]) kr ?_
   refine WD.pure (i := 8) (v := .bool (decide (r4 < 0))) kr kr (fun _ => by kernel_rfl) ?_
   refine WD.weaken [0, 1, 13] (L' := [(0, .pointer (some ⟨b0, 0, none⟩)), (1, .int .i64 a1), (13, .bool (decide (r4 < 0)))]) kr ?_
   refine WD.split 13 (b := decide (r4 < 0)) kr (fun hb13 => ?_) (fun hb13 => ?_)
   ·replace H := ite_t H hb13
    refine WD.weaken [0, 1, 13] (L' := [(0, .pointer (some ⟨b0, 0, none⟩)), (1, .int .i64 a1), (13, .bool true)]) kr ?_
    refine WD.skip (i := 9) kr kr ?_
    refine WD.weaken [0, 1, 13, 14] (L' := [(0, .pointer (some ⟨b0, 0, none⟩)), (1, .int .i64 a1), (13, .bool true), (14, undef)]) kr ?_
    refine WD.skip (i := 10) kr kr ?_
    refine WD.weaken [0, 1, 13, 15] (L' := [(0, .pointer (some ⟨b0, 0, none⟩)), (1, .int .i64 a1), (13, .bool true), (15, undef)]) kr ?_
    refine WD.skip (i := 11) kr kr ?_
    refine WD.weaken [0, 1, 13, 16] (L' := [(0, .pointer (some ⟨b0, 0, none⟩)), (1, .int .i64 a1), (13, .bool true), (16, undef)]) kr ?_
    refine WD.skip (i := 12) kr kr ?_
    refine WD.weaken [0, 1, 13, 17] (L' := [(0, .pointer (some ⟨b0, 0, none⟩)), (1, .int .i64 a1), (13, .bool true), (17, undef)]) kr ?_
    refine WD.skip (i := 13) kr kr ?_
    refine WD.weaken [0, 1, 13, 17, 18] (L' := [(0, .pointer (some ⟨b0, 0, none⟩)), (1, .int .i64 a1), (13, .bool true), (17, undef), (18, undef)]) kr ?_
    refine WD.skip (i := 14) kr kr ?_
    refine WD.weaken [0, 1, 13, 17, 18, 19] (L' := [(0, .pointer (some ⟨b0, 0, none⟩)), (1, .int .i64 a1), (13, .bool true), (17, undef), (18, undef), (19, undef)]) kr ?_
    refine WD.skip (i := 15) kr kr ?_
    refine WD.weaken [0, 1, 13, 17, 20] (L' := [(0, .pointer (some ⟨b0, 0, none⟩)), (1, .int .i64 a1), (13, .bool true), (17, undef), (20, undef)]) kr ?_
    refine WD.skip (i := 16) kr kr ?_
    refine WD.weaken [0, 1, 13, 21] (L' := [(0, .pointer (some ⟨b0, 0, none⟩)), (1, .int .i64 a1), (13, .bool true), (21, undef)]) kr ?_
    refine WD.skip (i := 17) kr kr ?_
    refine WD.weaken [0, 1, 13, 22] (L' := [(0, .pointer (some ⟨b0, 0, none⟩)), (1, .int .i64 a1), (13, .bool true), (22, undef)]) kr ?_
    refine WD.skip (i := 18) kr kr ?_
    refine WD.weaken [0, 1, 13, 23] (L' := [(0, .pointer (some ⟨b0, 0, none⟩)), (1, .int .i64 a1), (13, .bool true), (23, undef)]) kr ?_
    refine WD.skip (i := 19) kr kr ?_
    refine WD.weaken [0, 1, 13, 24] (L' := [(0, .pointer (some ⟨b0, 0, none⟩)), (1, .int .i64 a1), (13, .bool true), (24, undef)]) kr ?_
    refine WD.pure (i := 20) (v := .bool true) kr kr (fun _ => by kernel_rfl) ?_
    refine WD.weaken [0, 1, 25] (L' := [(0, .pointer (some ⟨b0, 0, none⟩)), (1, .int .i64 a1), (25, .bool true)]) kr ?_
    refine WD.nil kr ?_
    refine At.go ?_
    refine WC.condT kr kr kr ?_
    refine WC.seq kr ?_
    refine WC.reg [0] kr kr ?_
    refine WR.runk [0] [] [4] (L' := [(4, .bool false)]) (w' := w11) kr ?_
    refine WR.nil ?_
    refine At.go ?_
    refine WC.ret kr ?_
    refine At.thenRet ?_
    obtain rfl := Option.some.inj H
    have hS : Sat w11 B [O40 b0 p0] := hS.sel [0] kr
    exact At.body [.bool false] kr ⟨_, rfl, rfl, hS⟩
   ·replace H := ite_f H hb13
    refine WD.weaken [0, 1, 13] (L' := [(0, .pointer (some ⟨b0, 0, none⟩)), (1, .int .i64 a1), (13, .bool false)]) kr ?_
    refine WD.pure (i := 9) (v := .pointer (some ⟨b0, 0, none⟩)) kr kr (fun _ => by kernel_rfl) ?_
    refine WD.weaken [0, 1, 13, 14] (L' := [(0, .pointer (some ⟨b0, 0, none⟩)), (1, .int .i64 a1), (13, .bool false), (14, .pointer (some ⟨b0, 0, none⟩))]) kr ?_
    refine WD.pure (i := 10) (v := .pointer (some ⟨b0, 0, none⟩)) kr kr (fun _ => by kernel_rfl) ?_
    refine WD.weaken [0, 1, 13, 15] (L' := [(0, .pointer (some ⟨b0, 0, none⟩)), (1, .int .i64 a1), (13, .bool false), (15, .pointer (some ⟨b0, 0, none⟩))]) kr ?_
    refine WD.pure (i := 11) (v := .pointer (some ⟨b0, 1, none⟩)) kr kr (fun _ => by kernel_rfl) ?_
    refine WD.weaken [0, 1, 13, 16] (L' := [(0, .pointer (some ⟨b0, 0, none⟩)), (1, .int .i64 a1), (13, .bool false), (16, .pointer (some ⟨b0, 1, none⟩))]) kr ?_
    obtain ⟨A14, c15, hS⟩ := O40.open hS
    have hS : Sat w11 B [pts b0 (.cells #[.int .i64 p0.1, .slice A14 p0.2.1.length c15, .int .i64 p0.2.2.1, .int .i64 p0.2.2.2.1, .int .i64 p0.2.2.2.2] 40 (0, 0)), osl 42 (r0 (.pair (.int .i64) (.pair (.int .i64) .bool))) 3 A14 c15 p0.2.1] := hS
    refine WD.ofR (i := 12) kr (RSt.loadObj (t := 38) (k := 1) (v := .slice A14 p0.2.1.length c15) (.tmp 16) kr kr kr 0 hS rfl kr rfl ?_)
    refine WD.weaken [0, 1, 13, 17] (L' := [(0, .pointer (some ⟨b0, 0, none⟩)), (1, .int .i64 a1), (13, .bool false), (17, .slice A14 p0.2.1.length c15)]) kr ?_
    refine WD.pure (i := 13) (v := .pointer (some ⟨b0, 0, none⟩)) kr kr (fun _ => by kernel_rfl) ?_
    refine WD.weaken [0, 1, 13, 17, 18] (L' := [(0, .pointer (some ⟨b0, 0, none⟩)), (1, .int .i64 a1), (13, .bool false), (17, .slice A14 p0.2.1.length c15), (18, .pointer (some ⟨b0, 0, none⟩))]) kr ?_
    refine WD.pure (i := 14) (v := .int .i64 a1) kr kr (fun _ => by kernel_rfl) ?_
    refine WD.weaken [0, 1, 13, 17, 18, 19] (L' := [(0, .pointer (some ⟨b0, 0, none⟩)), (1, .int .i64 a1), (13, .bool false), (17, .slice A14 p0.2.1.length c15), (18, .pointer (some ⟨b0, 0, none⟩)), (19, .int .i64 a1)]) kr ?_
    obtain ⟨r16, e17, H⟩ := bind_ex H
    refine WD.act (i := 15) kr (St.call kr (f := 24) (args := #[.pointer (some ⟨b0, 0, none⟩), .int .i64 a1]) kr (colophonref07_Cache_at.calls w11 (.pointer (some ⟨b0, 0, none⟩)) (some (p0.1, p0.2.1, p0.2.2.1, p0.2.2.2.1, p0.2.2.2.2)) (P40.mk (y := (p0.1, p0.2.1, p0.2.2.1, p0.2.2.2.1, p0.2.2.2.2)) (Sat.blockAt 0 hS rfl) (Sat.rdAt 1 hS rfl)) a1 r16 e17) ?_)
    rintro _ w23 ⟨rfl, hS24⟩
    have hS : Sat w23 B [pts b0 (.cells #[.int .i64 p0.1, .slice A14 p0.2.1.length c15, .int .i64 p0.2.2.1, .int .i64 p0.2.2.2.1, .int .i64 p0.2.2.2.2] 40 (0, 0)), osl 42 (r0 (.pair (.int .i64) (.pair (.int .i64) .bool))) 3 A14 c15 p0.2.1] := hS.ext hS24
    refine ⟨(asked.cons (RSt.run (n := 39) (RSt.loadObj (t := 38) (k := 1) (v := .slice A14 p0.2.1.length c15) (.tmp 16) kr kr kr 0 hS rfl kr rfl rfl)) (asked.nil _ _)), ?_⟩
    refine WD.weaken [0, 1, 13, 17, 20] (L' := [(0, .pointer (some ⟨b0, 0, none⟩)), (1, .int .i64 a1), (13, .bool false), (17, .slice A14 p0.2.1.length c15), (20, .int .i64 r16)]) kr ?_
    obtain ⟨v25, e26, H⟩ := bind_ex H
    refine WD.ofP (i := 16) kr (PSt.idx (k := .i64) (.tmp 17) (.tmp 20) kr kr E38 kr kr (Sat.rdAt 1 hS rfl) e26 ?_)
    refine WD.weaken [0, 1, 13, 21] (L' := [(0, .pointer (some ⟨b0, 0, none⟩)), (1, .int .i64 a1), (13, .bool false), (21, .pointer (some (adr A14 r16.toNat 3)))]) kr ?_
    refine WD.pure (i := 17) (v := .pointer (some ((adr A14 r16.toNat 3).add 1))) kr kr (fun _ => by kernel_rfl) ?_
    refine WD.weaken [0, 1, 13, 22] (L' := [(0, .pointer (some ⟨b0, 0, none⟩)), (1, .int .i64 a1), (13, .bool false), (22, .pointer (some ((adr A14 r16.toNat 3).add 1)))]) kr ?_
    refine WD.ofR (i := 18) kr (RSt.loadPart (t := 3) (κ := (.pair (.int .i64) (.pair (.int .i64) .bool))) (.tmp 22) 1 kr kr kr kr kr (Sat.rdAt 1 hS rfl) e26 (u := .int .i64 v25.2.1) kr ?_)
    refine WD.weaken [0, 1, 13, 23] (L' := [(0, .pointer (some ⟨b0, 0, none⟩)), (1, .int .i64 a1), (13, .bool false), (23, .int .i64 v25.2.1)]) kr ?_
    refine WD.pure (i := 19) (v := .bool (v25.2.1 == 0)) kr kr (fun _ => by kernel_rfl) ?_
    refine WD.weaken [0, 1, 13, 24] (L' := [(0, .pointer (some ⟨b0, 0, none⟩)), (1, .int .i64 a1), (13, .bool false), (24, .bool (v25.2.1 == 0))]) kr ?_
    refine WD.pure (i := 20) (v := .bool (v25.2.1 == 0)) kr kr (fun _ => by kernel_rfl) ?_
    refine WD.weaken [0, 1, 25] (L' := [(0, .pointer (some ⟨b0, 0, none⟩)), (1, .int .i64 a1), (25, .bool (v25.2.1 == 0))]) kr ?_
    refine WD.nil kr ?_
    refine At.go ?_
    refine WC.cond kr (v25.2.1 == 0) kr kr (fun hb27 => ?_) (fun hb27 => ?_)
    ·replace H := ite_t H hb27
     refine WC.seq kr ?_
     refine WC.reg [0] kr kr ?_
     refine WR.runk [0] [] [4] (L' := [(4, .bool false)]) (w' := w23) kr ?_
     refine WR.nil ?_
     refine At.go ?_
     refine WC.ret kr ?_
     refine At.thenRet ?_
     obtain rfl := Option.some.inj H
     have hS : Sat w23 B [pts b0 (.cells #[.int .i64 p0.1, .slice A14 p0.2.1.length c15, .int .i64 p0.2.2.1, .int .i64 p0.2.2.2.1, .int .i64 p0.2.2.2.2] 40 (0, 0)), osl 42 (r0 (.pair (.int .i64) (.pair (.int .i64) .bool))) 3 A14 c15 p0.2.1] := hS.sel [0, 1] kr
     have hS : Sat w23 B [O40 b0 p0] := O40.close p0 A14 c15 hS
     have hS : Sat w23 B [O40 b0 p0] := hS.sel [0] kr
     exact At.body [.bool false] kr ⟨_, rfl, rfl, hS⟩
    ·replace H := ite_f H hb27
     refine WC.skip kr ?_
     refine At.go ?_
     refine WC.seq kr ?_
     refine WC.drawn kr kr 14 kr (fun w28 hw29 => ?_)
     have hS := hS.heap hw29.1 hw29.2
     refine WD.weaken [0, 1] (L' := [(0, .pointer (some ⟨b0, 0, none⟩)), (1, .int .i64 a1)]) kr ?_
     refine WD.pure (i := 0) (v := .pointer (some ⟨b0, 0, none⟩)) kr kr (fun _ => by kernel_rfl) ?_
     refine WD.weaken [0, 1, 26] (L' := [(0, .pointer (some ⟨b0, 0, none⟩)), (1, .int .i64 a1), (26, .pointer (some ⟨b0, 0, none⟩))]) kr ?_
     refine WD.pure (i := 1) (v := .pointer (some ⟨b0, 0, none⟩)) kr kr (fun _ => by kernel_rfl) ?_
     refine WD.weaken [0, 1, 27] (L' := [(0, .pointer (some ⟨b0, 0, none⟩)), (1, .int .i64 a1), (27, .pointer (some ⟨b0, 0, none⟩))]) kr ?_
     refine WD.pure (i := 2) (v := .pointer (some ⟨b0, 1, none⟩)) kr kr (fun _ => by kernel_rfl) ?_
     refine WD.weaken [0, 1, 28] (L' := [(0, .pointer (some ⟨b0, 0, none⟩)), (1, .int .i64 a1), (28, .pointer (some ⟨b0, 1, none⟩))]) kr ?_
     refine WD.ofR (i := 3) kr (RSt.loadObj (t := 38) (k := 1) (v := .slice A14 p0.2.1.length c15) (.tmp 28) kr kr kr 0 hS rfl kr rfl ?_)
     refine WD.weaken [0, 1, 29] (L' := [(0, .pointer (some ⟨b0, 0, none⟩)), (1, .int .i64 a1), (29, .slice A14 p0.2.1.length c15)]) kr ?_
     refine WD.pure (i := 4) (v := .pointer (some ⟨b0, 0, none⟩)) kr kr (fun _ => by kernel_rfl) ?_
     refine WD.weaken [1, 29, 30] (L' := [(1, .int .i64 a1), (29, .slice A14 p0.2.1.length c15), (30, .pointer (some ⟨b0, 0, none⟩))]) kr ?_
     refine WD.pure (i := 5) (v := .int .i64 a1) kr kr (fun _ => by kernel_rfl) ?_
     refine WD.weaken [29, 30, 31] (L' := [(29, .slice A14 p0.2.1.length c15), (30, .pointer (some ⟨b0, 0, none⟩)), (31, .int .i64 a1)]) kr ?_
     obtain ⟨r30, e31, H⟩ := bind_ex H
     refine WD.act (i := 6) kr (St.call kr (f := 24) (args := #[.pointer (some ⟨b0, 0, none⟩), .int .i64 a1]) kr (colophonref07_Cache_at.calls w28 (.pointer (some ⟨b0, 0, none⟩)) (some (p0.1, p0.2.1, p0.2.2.1, p0.2.2.2.1, p0.2.2.2.2)) (P40.mk (y := (p0.1, p0.2.1, p0.2.2.1, p0.2.2.2.1, p0.2.2.2.2)) (Sat.blockAt 0 hS rfl) (Sat.rdAt 1 hS rfl)) a1 r30 e31) ?_)
     rintro _ w37 ⟨rfl, hS38⟩
     have hS : Sat w37 B [pts b0 (.cells #[.int .i64 p0.1, .slice A14 p0.2.1.length c15, .int .i64 p0.2.2.1, .int .i64 p0.2.2.2.1, .int .i64 p0.2.2.2.2] 40 (0, 0)), osl 42 (r0 (.pair (.int .i64) (.pair (.int .i64) .bool))) 3 A14 c15 p0.2.1] := hS.ext hS38
     refine ⟨(asked.cons (RSt.run (n := 39) (RSt.loadObj (t := 38) (k := 1) (v := .slice A14 p0.2.1.length c15) (.tmp 28) kr kr kr 0 hS rfl kr rfl rfl)) (asked.nil _ _)), ?_⟩
     refine WD.weaken [29, 32] (L' := [(29, .slice A14 p0.2.1.length c15), (32, .int .i64 r30)]) kr ?_
     obtain ⟨v39, e40, H⟩ := bind_ex H
     refine WD.ofP (i := 7) kr (PSt.idx (k := .i64) (.tmp 29) (.tmp 32) kr kr E38 kr kr (Sat.rdAt 1 hS rfl) e40 ?_)
     refine WD.weaken [29, 32, 33] (L' := [(29, .slice A14 p0.2.1.length c15), (32, .int .i64 r30), (33, .pointer (some (adr A14 r30.toNat 3)))]) kr ?_
     refine WD.pure (i := 8) (v := .pointer (some ((adr A14 r30.toNat 3).add 1))) kr kr (fun _ => by kernel_rfl) ?_
     refine WD.weaken [29, 32, 34] (L' := [(29, .slice A14 p0.2.1.length c15), (32, .int .i64 r30), (34, .pointer (some ((adr A14 r30.toNat 3).add 1)))]) kr ?_
     refine WD.ofR (i := 9) kr (RSt.loadPart (t := 3) (κ := (.pair (.int .i64) (.pair (.int .i64) .bool))) (.tmp 34) 1 kr kr kr kr kr (Sat.rdAt 1 hS rfl) e40 (u := .int .i64 v39.2.1) kr ?_)
     refine WD.weaken [29, 32, 35] (L' := [(29, .slice A14 p0.2.1.length c15), (32, .int .i64 r30), (35, .int .i64 v39.2.1)]) kr ?_
     refine WD.pure (i := 10) (v := .int .i64 (wi (v39.2.1 - 1))) kr kr (fun _ => by kernel_rfl) ?_
     refine WD.weaken [29, 32, 36] (L' := [(29, .slice A14 p0.2.1.length c15), (32, .int .i64 r30), (36, .int .i64 (wi (v39.2.1 - 1)))]) kr ?_
     refine WD.ofP (i := 11) kr (PSt.idx (k := .i64) (.tmp 29) (.tmp 32) kr kr E38 kr kr (Sat.rdAt 1 hS rfl) e40 ?_)
     refine WD.weaken [36, 37] (L' := [(36, .int .i64 (wi (v39.2.1 - 1))), (37, .pointer (some (adr A14 r30.toNat 3)))]) kr ?_
     refine WD.pure (i := 12) (v := .pointer (some ((adr A14 r30.toNat 3).add 1))) kr kr (fun _ => by kernel_rfl) ?_
     refine WD.weaken [36, 38] (L' := [(36, .int .i64 (wi (v39.2.1 - 1))), (38, .pointer (some ((adr A14 r30.toNat 3).add 1)))]) kr ?_
     have hS : Sat w37 B [osl 42 (r0 (.pair (.int .i64) (.pair (.int .i64) .bool))) 3 A14 c15 p0.2.1, pts b0 (.cells #[.int .i64 p0.1, .slice A14 p0.2.1.length c15, .int .i64 p0.2.2.1, .int .i64 p0.2.2.2.1, .int .i64 p0.2.2.2.2] 40 (0, 0))] := hS.sel [1, 0] kr
     refine WD.act (i := 13) kr (St.storePart (t := 3) (κ := (.pair (.int .i64) (.pair (.int .i64) .bool))) (v' := (v39.1, wi (v39.2.1 - 1), v39.2.2)) (.tmp 38) (.tmp 36) 1 kr kr kr kr hS kr kr kr kr e40 rfl (fun w41 hS => ?_))
     have hS : Sat w41 B [osl 42 (r0 (.pair (.int .i64) (.pair (.int .i64) .bool))) 3 A14 c15 (List.set p0.2.1 r30.toNat (v39.1, wi (v39.2.1 - 1), v39.2.2)), pts b0 (.cells #[.int .i64 p0.1, .slice A14 p0.2.1.length c15, .int .i64 p0.2.2.1, .int .i64 p0.2.2.2.1, .int .i64 p0.2.2.2.2] 40 (0, 0))] := hS
     have hl42 : List.length (List.set p0.2.1 r30.toNat (v39.1, wi (v39.2.1 - 1), v39.2.2)) = List.length p0.2.1 := List.length_set
     have hS : Sat w41 B [osl 42 (r0 (.pair (.int .i64) (.pair (.int .i64) .bool))) 3 A14 c15 (List.set p0.2.1 r30.toNat (v39.1, wi (v39.2.1 - 1), v39.2.2)), pts b0 (.cells #[.int .i64 p0.1, .slice A14 (List.set p0.2.1 r30.toNat (v39.1, wi (v39.2.1 - 1), v39.2.2)).length c15, .int .i64 p0.2.2.1, .int .i64 p0.2.2.2.1, .int .i64 p0.2.2.2.2] 40 (0, 0))] := by simpa only [hl42] using hS
     refine ⟨(asked.anc kr (asked.anc kr (asked.nil _ _))), ?_⟩
     refine WD.weaken [] (L' := []) kr ?_
     refine WD.nil kr ?_
     refine At.go ?_
     refine WC.seq kr ?_
     refine WC.reg [0] kr kr ?_
     refine WR.runk [0] [] [4] (L' := [(4, .bool true)]) (w' := w41) kr ?_
     refine WR.nil ?_
     refine At.go ?_
     refine WC.ret kr ?_
     obtain rfl := Option.some.inj H
     have hS : Sat w41 B [pts b0 (.cells #[.int .i64 p0.1, .slice A14 (List.set p0.2.1 r30.toNat (v39.1, wi (v39.2.1 - 1), v39.2.2)).length c15, .int .i64 p0.2.2.1, .int .i64 p0.2.2.2.1, .int .i64 p0.2.2.2.2] 40 (0, 0)), osl 42 (r0 (.pair (.int .i64) (.pair (.int .i64) .bool))) 3 A14 c15 (List.set p0.2.1 r30.toNat (v39.1, wi (v39.2.1 - 1), v39.2.2))] := hS.sel [1, 0] kr
     have hS : Sat w41 B [O40 b0 (p0.1, (List.set p0.2.1 r30.toNat (v39.1, wi (v39.2.1 - 1), v39.2.2)), p0.2.2.1, p0.2.2.2.1, p0.2.2.2.2)] := O40.close (p0.1, (List.set p0.2.1 r30.toNat (v39.1, wi (v39.2.1 - 1), v39.2.2)), p0.2.2.1, p0.2.2.2.1, p0.2.2.2.2) A14 c15 hS
     have hS : Sat w41 B [O40 b0 (p0.1, (List.set p0.2.1 r30.toNat (v39.1, wi (v39.2.1 - 1), v39.2.2)), p0.2.2.1, p0.2.2.2.1, p0.2.2.2.2)] := hS.sel [0] kr
     exact At.body [.bool true] kr ⟨_, rfl, rfl, hS⟩
/-! ### 10 (*colophon/cache.Cache).Hold -/
def cache_Cache_Hold_nil0.f (a1 : Int) : Option ((List Int) × Bool × Int) := some (([] : List Int), false, 1)
def cache_Cache_Hold_nil0.post (w : World) (r : (List Int) × Bool × Int) (v : Value) (w' : World) : Prop := ∃ (A0' : Option Addr) (c0' : Nat), v = .tuple #[.slice A0' r.1.length c0', .bool r.2.1, .int .i64 r.2.2] ∧ Sat w' (rf w) [osl 5 (r0 (.int .u8)) 1 A0' c0' r.1]
theorem cache_Cache_Hold_nil0.calls (w0 : World) (a1 : Int) (r : (List Int) × Bool × Int) (H : cache_Cache_Hold_nil0.f a1 = some r) :
    Calls Try.prog 10 #[.pointer none, .int .i64 a1] w0 (fun e w' => ∃ v, e = .returned v ∧ cache_Cache_Hold_nil0.post w0 r v w') := by
  have hS : Sat w0 (rf w0) [] := Sat.start w0
  unfold cache_Cache_Hold_nil0.f at H
  refine calls_of_WC (vs := [.pointer none, .int .i64 a1]) Try.func10 (c := C10) (n := 83) kr kr kr ?_
  refine WC.seq kr ?_
  refine WC.reg [0, 1, 2] kr kr ?_
  refine WR.runk [0, 1, 2] [] [0, 1] (L' := [(0, .pointer none), (1, .int .i64 a1)]) (w' := w0) kr ?_
  refine WR.nil ?_
  refine At.go ?_
  refine WC.seq kr ?_
  refine WC.seq kr ?_
  refine WC.reg [0, 1] kr kr ?_
  refine WR.runk [0, 1] [] [0, 1, 13] (L' := [(0, .pointer none), (1, .int .i64 a1), (13, .bool true)]) (w' := w0) kr ?_
  refine WR.nil ?_
  refine At.go ?_
  refine WC.condT kr kr kr ?_
  refine WC.seq kr ?_
  refine WC.reg [0, 1, 2] kr kr ?_
  refine WR.runk [0, 1, 2] [] [4, 5, 6] (L' := [(4, .slice none 0 0), (5, .bool false), (6, .int .i64 1)]) (w' := w0) kr ?_
  refine WR.nil ?_
  refine At.go ?_
  refine WC.ret kr ?_
  refine At.thenRet ?_
  obtain rfl := Option.some.inj H
  have hS := hS.addNil (α := Int) 5 (r0 (.int .u8)) 1
  have hS : Sat w0 (rf w0) [osl 5 (r0 (.int .u8)) 1 none 0 ([] : List Int)] := hS.sel [0] kr
  exact At.body [.slice none 0 0, .bool false, .int .i64 1] kr ⟨_, rfl, _, _, rfl, hS⟩
/-! ### 12 (*colophon/cache.Cache).Drop -/
def cache_Cache_Drop_nil0.f (a1 : Int) : Option Bool := some false
def cache_Cache_Drop_nil0.post (w : World) (r : Bool) (v : Value) (w' : World) : Prop := v = (.bool r : Value) ∧ Sat w' (rf w) []
theorem cache_Cache_Drop_nil0.calls (w0 : World) (a1 : Int) (r : Bool) (H : cache_Cache_Drop_nil0.f a1 = some r) :
    Calls Try.prog 12 #[.pointer none, .int .i64 a1] w0 (fun e w' => ∃ v, e = .returned v ∧ cache_Cache_Drop_nil0.post w0 r v w') := by
  have hS : Sat w0 (rf w0) [] := Sat.start w0
  unfold cache_Cache_Drop_nil0.f at H
  refine calls_of_WC (vs := [.pointer none, .int .i64 a1]) Try.func12 (c := C12) (n := 39) kr kr kr ?_
  refine WC.seq kr ?_
  refine WC.reg [0] kr kr ?_
  refine WR.runk [0] [] [0, 1] (L' := [(0, .pointer none), (1, .int .i64 a1)]) (w' := w0) kr ?_
  refine WR.nil ?_
  refine At.go ?_
  refine WC.seq kr ?_
  refine WC.seq kr ?_
  refine WC.reg [0, 1, 2, 3, 4, 5] kr kr ?_
  refine WR.runk [0, 1, 2, 3, 4, 5] [] [0, 1, 11] (L' := [(0, .pointer none), (1, .int .i64 a1), (11, .bool true)]) (w' := w0) kr ?_
  refine WR.nil ?_
  refine At.go ?_
  refine WC.condT kr kr kr ?_
  refine WC.seq kr ?_
  refine WC.reg [0] kr kr ?_
  refine WR.runk [0] [] [4] (L' := [(4, .bool false)]) (w' := w0) kr ?_
  refine WR.nil ?_
  refine At.go ?_
  refine WC.ret kr ?_
  refine At.thenRet ?_
  obtain rfl := Option.some.inj H
  have hS : Sat w0 (rf w0) [] := hS.sel [] kr
  exact At.body [.bool false] kr ⟨_, rfl, rfl, hS⟩
end Go.Proofs.Ytbcdcpkofgfofaa
