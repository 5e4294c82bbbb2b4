/-
  Printed by gen.py (my own tool): for each Go function a plain Lean function and the proof that a call of it does what that function says.
-/
import Derived.Test.YthlbebgmphnniaaGP1
set_option linter.unusedVariables false
set_option linter.unusedSimpArgs false
set_option maxRecDepth 100000
namespace Go.Proofs.Ythlbebgmphnniaa
open Go Go.Gol
/-! ### 4 colophon/colophonlaw22.QuotaPlays -/
def colophonlaw22_QuotaPlays.l1 (l1 : List (Int × Int)) (y14 : List (Int × Int)) : Nat → (List (Int × Int)) → Int → Option Unit
  | 0, _, _ => none
  | k + 1, x7_l1, x51_l1 => (if decide (x51_l1 < (y14.length : Int)) then ((at? x7_l1 x51_l1).bind fun v121 => ((set? x7_l1 x51_l1 (0, 0)).bind fun y123 => colophonlaw22_QuotaPlays.l1 l1 y14 k y123 (wi (x51_l1 + 1)))) else some ())
def colophonlaw22_QuotaPlays.l2 (l1 : List (Int × Int)) (l2 : List (Int × Int)) : Nat → Int → (Int × (List (Int × Int)) × (List (Int × Int))) → (Int × (List (Int × Int)) × (List Int)) → Option (Sum ((Int × (List (Int × Int)) × (List (Int × Int))) × (Int × (List (Int × Int)) × (List Int))) (Bool × (Int × (List (Int × Int)) × (List (Int × Int))) × (Int × (List (Int × Int)) × (List Int))))
  | 0, _, _, _ => none
  | k + 1, x65_l2, q119_l2, q134_l2 => (if decide (x65_l2 < (l2.length : Int)) then ((at? l2 x65_l2).bind fun v136 => (if decide (x65_l2 ≥ 200) then some (.inl (q119_l2, q134_l2)) else (if ((Int.tmod (IntKind.wrap .u64 v136.1) 2) == 0) then ((quota_Gate_Enter.f q119_l2 v136.2).bind fun r146 => ((colophonref22_Gate_Enter_r0_1.f q134_l2 v136.2).bind fun r155 => (if (r146.1 != r155.1) then some (.inr (false, r146.2, r155.2)) else ((quota_Gate_All.f r146.2).bind fun r172 => (if (r172 != (r155.2.2.2.length : Int)) then some (.inr (false, r146.2, r155.2)) else ((quota_Gate_Live.f r146.2 v136.2).bind fun r182 => ((colophonref22_Gate_Live.f (some (r155.2.1, r155.2.2.1, r155.2.2.2)) v136.2).bind fun r191 => (if (r182 != r191) then some (.inr (false, r146.2, r155.2)) else ((quota_Gate_Tenants.f r146.2).bind fun r201 => (if (r201 != (l1.length : Int)) then some (.inr (false, r146.2, r155.2)) else colophonlaw22_QuotaPlays.l2 l1 l2 k (wi (x65_l2 + 1)) r146.2 r155.2)))))))))) else ((quota_Gate_Leave.f q119_l2 v136.2).bind fun r213 => ((colophonref22_Gate_Leave_r0_1.f q134_l2 v136.2).bind fun r222 => (if (r213.1 != r222.1) then some (.inr (false, r213.2, r222.2)) else ((quota_Gate_All.f r213.2).bind fun r239 => (if (r239 != (r222.2.2.2.length : Int)) then some (.inr (false, r213.2, r222.2)) else ((quota_Gate_Live.f r213.2 v136.2).bind fun r249 => ((colophonref22_Gate_Live.f (some (r222.2.1, r222.2.2.1, r222.2.2.2)) v136.2).bind fun r258 => (if (r249 != r258) then some (.inr (false, r213.2, r222.2)) else ((quota_Gate_Tenants.f r213.2).bind fun r268 => (if (r268 != (l1.length : Int)) then some (.inr (false, r213.2, r222.2)) else colophonlaw22_QuotaPlays.l2 l1 l2 k (wi (x65_l2 + 1)) r213.2 r222.2))))))))))))) else some (.inl (q119_l2, q134_l2)))
def colophonlaw22_QuotaPlays.f (a0 : Int) (l1 : List (Int × Int)) (l2 : List (Int × Int)) : Option Bool := (colophonlaw22_first.f.bind fun r1 => (if (!r1) then some false else ((app? 8796093022208 (([] : List (Int × Int)) : List (Int × Int)) l1).bind fun y14 => ((quota_New.f a0 y14).bind fun r18 => ((colophonref22_Right.f l1).bind fun r28 => (if (!r28) then (if (r18.2 == 2) then (match r18.1 with | none => ((quota_Right.f y14).bind fun r45 => ((colophonref22_Right.f l1).bind fun r54 => some (r45 == r54))) | some y39 => some false) else some false) else (if decide (a0 < 1) then (if (r18.2 == 2) then (match r18.1 with | none => ((quota_Right.f y14).bind fun r71 => ((colophonref22_Right.f l1).bind fun r80 => some (r71 == r80))) | some y65 => some false) else some false) else (if decide (a0 > 64) then (if (r18.2 == 2) then (match r18.1 with | none => ((quota_Right.f y14).bind fun r97 => ((colophonref22_Right.f l1).bind fun r106 => some (r97 == r106))) | some y91 => some false) else some false) else (r18.1.bind fun y115 => ((colophonlaw22_QuotaPlays.l1 l1 y14 FU y14 0).bind fun o127 => ((colophonlaw22_QuotaPlays.l2 l1 l2 FU 0 y115 (a0, l1, ([] : List Int))).bind fun o278 => (match o278 with | .inl o280 => some true | .inr o284 => some o284.1))))))))))))
def colophonlaw22_QuotaPlays.post (w : World) (r : Bool) (v : Value) (w' : World) : Prop := v = (.bool r : Value) ∧ Sat w' (rf w) []
theorem colophonlaw22_QuotaPlays.l1_ok {Q} (w0 : World) (a0 : Int) (A1 : Option Addr) (c1 : Nat) (l1 : List (Int × Int)) (A2 : Option Addr) (c2 : Nat) (l2 : List (Int × Int)) (y14 : List (Int × Int)) (y115 : Int × (List (Int × Int)) × (List (Int × Int))) (b118 : Nat) (out : Unit) (hn0 : ∀ (w : World), Sat w (rf w0) [O49 b118 y115] → At Q (.exit 0) 122 [(0, .int .i64 a0), (1, .slice A1 l1.length c1), (2, .slice A2 l2.length c2), (8, .pointer (some ⟨b118, 0, none⟩))] w) :
    ∀ (k : Nat) (x7_l1 : List (Int × Int)) (x51_l1 : Int) (A7_l1 : Option Addr) (c7_l1 : Nat) (w : World), Sat w (rf w0) [osl 27 (r0 (.pair (.int .i64) (.int .i64))) 2 A7_l1 c7_l1 x7_l1, O49 b118 y115] → colophonlaw22_QuotaPlays.l1 l1 y14 k x7_l1 x51_l1 = some out → WL Try.prog (cbody (cbody (cr (cl (cr (cr (cr (cr (cr C4))))))))) Q 122 [(0, .int .i64 a0), (1, .slice A1 l1.length c1), (2, .slice A2 l2.length c2), (7, .slice A7_l1 x7_l1.length c7_l1), (8, .pointer (some ⟨b118, 0, none⟩)), (50, .int .i64 (y14.length : Int)), (51, .int .i64 x51_l1)] w := by
  intro k
  induction k with
  | zero => intro x7_l1 x51_l1 A7_l1 c7_l1 w hS H; exact absurd (show none = some out from H) (by simp)
  | succ k ih =>
    intro x7_l1 x51_l1 A7_l1 c7_l1 w hS H
    unfold colophonlaw22_QuotaPlays.l1 at H
    refine WL.round ?_
    refine WC.seq (by kernel_rfl) ?_
    refine WC.reg [0] (by kernel_rfl) (by kernel_rfl) ?_
    refine WR.runk [0] [] [0, 1, 2, 7, 8, 50, 51, 52] (L' := [(0, .int .i64 a0), (1, .slice A1 l1.length c1), (2, .slice A2 l2.length c2), (7, .slice A7_l1 x7_l1.length c7_l1), (8, .pointer (some ⟨b118, 0, none⟩)), (50, .int .i64 (y14.length : Int)), (51, .int .i64 x51_l1), (52, .bool (decide (x51_l1 < (y14.length : Int))))]) (w' := w) (by kernel_rfl) ?_
    refine WR.nil ?_
    refine At.go ?_
    refine WC.seq (by kernel_rfl) ?_
    refine WC.cond (by kernel_rfl) (decide (x51_l1 < (y14.length : Int))) (by kernel_rfl) (by kernel_rfl) (fun hb120 => ?_) (fun hb120 => ?_)
    · replace H := ite_t H hb120
      refine WC.skip (by kernel_rfl) ?_
      refine At.go ?_
      refine WC.seq (by kernel_rfl) ?_
      refine WC.block (by kernel_rfl) ?_
      refine WC.seq (by kernel_rfl) ?_
      refine WC.reg [0, 1] (by kernel_rfl) (by kernel_rfl) ?_
      refine WR.runk [0, 1] [] [0, 1, 2, 7, 8, 10, 50, 51] (L' := [(0, .int .i64 a0), (1, .slice A1 l1.length c1), (2, .slice A2 l2.length c2), (7, .slice A7_l1 x7_l1.length c7_l1), (8, .pointer (some ⟨b118, 0, none⟩)), (10, .int .i64 x51_l1), (50, .int .i64 (y14.length : Int)), (51, .int .i64 x51_l1)]) (w' := w) (by kernel_rfl) ?_
      refine WR.nil ?_
      refine At.go ?_
      refine WC.reg [0, 1, 2, 3, 4] (by kernel_rfl) (by kernel_rfl) ?_
      refine WR.runk [0, 1, 2] [3, 4] [0, 1, 2, 7, 8, 50, 51, 54, 55, 56] (L' := [(0, .int .i64 a0), (1, .slice A1 l1.length c1), (2, .slice A2 l2.length c2), (7, .slice A7_l1 x7_l1.length c7_l1), (8, .pointer (some ⟨b118, 0, none⟩)), (50, .int .i64 (y14.length : Int)), (51, .int .i64 x51_l1), (54, .slice A7_l1 x7_l1.length c7_l1), (55, .int .i64 x51_l1), (56, .agg #[.int .i64 0, .int .i64 0])]) (w' := w) (by kernel_rfl) ?_
      obtain ⟨v121, e122, H⟩ := bind_ex H
      refine WR.st (St.ofP (PSt.idx (k := .i64) (.tmp 54) (.tmp 55) (by kernel_rfl) (by kernel_rfl) E25 (by kernel_rfl) (by kernel_rfl) (Sat.rdAt 0 hS rfl) e122 ?_))
      refine WR.runk [] [4] [0, 1, 2, 7, 8, 50, 51, 56, 57] (L' := [(0, .int .i64 a0), (1, .slice A1 l1.length c1), (2, .slice A2 l2.length c2), (7, .slice A7_l1 x7_l1.length c7_l1), (8, .pointer (some ⟨b118, 0, none⟩)), (50, .int .i64 (y14.length : Int)), (51, .int .i64 x51_l1), (56, .agg #[.int .i64 0, .int .i64 0]), (57, .pointer (some (adr A7_l1 x51_l1.toNat 2)))]) (w' := w) (by kernel_rfl) ?_
      obtain ⟨y123, e124, H⟩ := bind_ex H
      refine WR.st (St.storeFlat (t := 27) (vs := [.int .i64 0, .int .i64 0]) (.tmp 57) (.tmp 56) (by kernel_rfl) (by kernel_rfl) (by kernel_rfl) hS (by kernel_rfl) (by kernel_rfl) (by kernel_rfl) rfl e124 ⟨[.int .i64 0], [.int .i64 0], rfl, rfl, rfl, rfl⟩ (fun w125 hS => ?_))
      have hl126 := set?_len e124
      refine WR.know 7 (.slice A7_l1 y123.length c7_l1) (.slice A7_l1 x7_l1.length c7_l1) (by kernel_rfl) (by rw [hl126]) ?_
      refine WR.runk [] [] [0, 1, 2, 7, 8, 50, 51] (L' := [(0, .int .i64 a0), (1, .slice A1 l1.length c1), (2, .slice A2 l2.length c2), (7, .slice A7_l1 y123.length c7_l1), (8, .pointer (some ⟨b118, 0, none⟩)), (50, .int .i64 (y14.length : Int)), (51, .int .i64 x51_l1)]) (w' := w125) (by kernel_rfl) ?_
      refine WR.nil ?_
      refine At.blockNormal ?_
      refine At.go ?_
      refine WC.reg [0, 1] (by kernel_rfl) (by kernel_rfl) ?_
      refine WR.runk [0, 1] [] [0, 1, 2, 7, 8, 50, 51] (L' := [(0, .int .i64 a0), (1, .slice A1 l1.length c1), (2, .slice A2 l2.length c2), (7, .slice A7_l1 y123.length c7_l1), (8, .pointer (some ⟨b118, 0, none⟩)), (50, .int .i64 (y14.length : Int)), (51, .int .i64 (wi (x51_l1 + 1)))]) (w' := w125) (by kernel_rfl) ?_
      refine WR.nil ?_
      have hS : Sat w125 (rf w0) [osl 27 (r0 (.pair (.int .i64) (.int .i64))) 2 A7_l1 c7_l1 y123, O49 b118 y115] := hS.sel [0, 1] (by kernel_rfl)
      refine At.again ?_
      refine WL.weaken [0, 1, 2, 7, 8, 50, 51] (L' := [(0, .int .i64 a0), (1, .slice A1 l1.length c1), (2, .slice A2 l2.length c2), (7, .slice A7_l1 y123.length c7_l1), (8, .pointer (some ⟨b118, 0, none⟩)), (50, .int .i64 (y14.length : Int)), (51, .int .i64 (wi (x51_l1 + 1)))]) (by kernel_rfl) ?_
      exact ih y123 (wi (x51_l1 + 1)) A7_l1 c7_l1 _ hS H
    · replace H := ite_f H hb120
      refine WC.exit (by kernel_rfl) ?_
      refine At.thenExit ?_
      refine At.thenExit ?_
      obtain rfl := Option.some.inj H
      have hS : Sat w (rf w0) [O49 b118 y115] := hS.sel [1] (by kernel_rfl)
      refine At.weaken [0, 1, 2, 8] (L' := [(0, .int .i64 a0), (1, .slice A1 l1.length c1), (2, .slice A2 l2.length c2), (8, .pointer (some ⟨b118, 0, none⟩))]) (by kernel_rfl) ?_
      exact hn0 _ hS
theorem colophonlaw22_QuotaPlays.l2_ok {Q} (w0 : World) (A1 : Option Addr) (c1 : Nat) (l1 : List (Int × Int)) (A2 : Option Addr) (c2 : Nat) (l2 : List (Int × Int)) (b118 : Nat) (b132 : Nat) (R2 : rdS (r0 (.pair (.int .i64) (.int .i64))) 2 (hp w0) A2 c2 l2) (out : Sum ((Int × (List (Int × Int)) × (List (Int × Int))) × (Int × (List (Int × Int)) × (List Int))) (Bool × (Int × (List (Int × Int)) × (List (Int × Int))) × (Int × (List (Int × Int)) × (List Int)))) (hn0 : ∀ (o0 : (Int × (List (Int × Int)) × (List (Int × Int))) × (Int × (List (Int × Int)) × (List Int))) (w : World), out = (.inl o0) → Sat w (rf w0) [O49 b118 o0.1, O42r1 (hp w0) b132 o0.2] → At Q (.exit 2) 122 [] w) (hn1 : ∀ (o1 : Bool × (Int × (List (Int × Int)) × (List (Int × Int))) × (Int × (List (Int × Int)) × (List Int))) (w : World), out = (.inr o1) → Sat w (rf w0) [O49 b118 o1.2.1, O42r1 (hp w0) b132 o1.2.2] → At Q .ret 122 [(6, .bool o1.1)] w) :
    ∀ (k : Nat) (x65_l2 : Int) (q119_l2 : Int × (List (Int × Int)) × (List (Int × Int))) (q134_l2 : Int × (List (Int × Int)) × (List Int)) (w : World), Sat w (rf w0) [O49 b118 q119_l2, O42r1 (hp w0) b132 q134_l2] → colophonlaw22_QuotaPlays.l2 l1 l2 k x65_l2 q119_l2 q134_l2 = some out → WL Try.prog (cbody (cbody (cr (cl (cr (cr (cr (cr (cr (cr (cr C4))))))))))) Q 122 [(1, .slice A1 l1.length c1), (8, .pointer (some ⟨b118, 0, none⟩)), (11, .pointer (some ⟨b132, 0, none⟩)), (63, .slice A2 l2.length c2), (64, .int .i64 (l2.length : Int)), (65, .int .i64 x65_l2)] w := by
  intro k
  induction k with
  | zero => intro x65_l2 q119_l2 q134_l2 w hS H; exact absurd (show none = some out from H) (by simp)
  | succ k ih =>
    intro x65_l2 q119_l2 q134_l2 w hS H
    unfold colophonlaw22_QuotaPlays.l2 at H
    refine WL.round ?_
    refine WC.seq (by kernel_rfl) ?_
    refine WC.reg [0] (by kernel_rfl) (by kernel_rfl) ?_
    refine WR.runk [0] [] [1, 8, 11, 63, 64, 65, 66] (L' := [(1, .slice A1 l1.length c1), (8, .pointer (some ⟨b118, 0, none⟩)), (11, .pointer (some ⟨b132, 0, none⟩)), (63, .slice A2 l2.length c2), (64, .int .i64 (l2.length : Int)), (65, .int .i64 x65_l2), (66, .bool (decide (x65_l2 < (l2.length : Int))))]) (w' := w) (by kernel_rfl) ?_
    refine WR.nil ?_
    refine At.go ?_
    refine WC.seq (by kernel_rfl) ?_
    refine WC.cond (by kernel_rfl) (decide (x65_l2 < (l2.length : Int))) (by kernel_rfl) (by kernel_rfl) (fun hb135 => ?_) (fun hb135 => ?_)
    · replace H := ite_t H hb135
      refine WC.skip (by kernel_rfl) ?_
      refine At.go ?_
      refine WC.seq (by kernel_rfl) ?_
      refine WC.block (by kernel_rfl) ?_
      refine WC.seq (by kernel_rfl) ?_
      refine WC.reg [0, 1, 2, 3, 4, 5] (by kernel_rfl) (by kernel_rfl) ?_
      refine WR.runk [0] [1, 2, 3, 4, 5] [1, 8, 11, 63, 64, 65, 67] (L' := [(1, .slice A1 l1.length c1), (8, .pointer (some ⟨b118, 0, none⟩)), (11, .pointer (some ⟨b132, 0, none⟩)), (63, .slice A2 l2.length c2), (64, .int .i64 (l2.length : Int)), (65, .int .i64 x65_l2), (67, .int .i64 x65_l2)]) (w' := w) (by kernel_rfl) ?_
      obtain ⟨v136, e137, H⟩ := bind_ex H
      refine WR.st (St.ofP (PSt.idx (k := .i64) (.tmp 63) (.tmp 65) (by kernel_rfl) (by kernel_rfl) E38 (by kernel_rfl) (by kernel_rfl) (rdS.up R2 hS.sub0) e137 ?_))
      refine WR.runk [] [2, 3, 4, 5] [1, 8, 11, 63, 64, 65, 67, 68] (L' := [(1, .slice A1 l1.length c1), (8, .pointer (some ⟨b118, 0, none⟩)), (11, .pointer (some ⟨b132, 0, none⟩)), (63, .slice A2 l2.length c2), (64, .int .i64 (l2.length : Int)), (65, .int .i64 x65_l2), (67, .int .i64 x65_l2), (68, .pointer (some (adr A2 x65_l2.toNat 2)))]) (w' := w) (by kernel_rfl) ?_
      refine WR.st (St.ofR (RSt.loadFlat (t := 44) (κ := (.pair (.int .i64) (.int .i64))) (.tmp 68) (by kernel_rfl) (by kernel_rfl) (by kernel_rfl) (by kernel_rfl) (by kernel_rfl) (by kernel_rfl) (rdS.up R2 hS.sub0) e137 ?_))
      refine WR.runk [] [3, 4, 5] [1, 8, 11, 63, 64, 65, 67, 69] (L' := [(1, .slice A1 l1.length c1), (8, .pointer (some ⟨b118, 0, none⟩)), (11, .pointer (some ⟨b132, 0, none⟩)), (63, .slice A2 l2.length c2), (64, .int .i64 (l2.length : Int)), (65, .int .i64 x65_l2), (67, .int .i64 x65_l2), (69, .agg #[.int .i64 v136.1, .int .i64 v136.2])]) (w' := w) (by kernel_rfl) ?_
      refine WR.st (St.box hS (by kernel_rfl) (.cells #[.int .i64 0, .int .i64 0] 44) (fun b138 => .pointer (some ⟨b138, 0, none⟩)) (fun _ => by kernel_rfl) (fun b138 w139 hS => ?_))
      refine WR.runk [4] [5] [1, 8, 11, 12, 13, 63, 64, 65, 69] (L' := [(1, .slice A1 l1.length c1), (8, .pointer (some ⟨b118, 0, none⟩)), (11, .pointer (some ⟨b132, 0, none⟩)), (12, .int .i64 x65_l2), (13, .pointer (some ⟨b138, 0, none⟩)), (63, .slice A2 l2.length c2), (64, .int .i64 (l2.length : Int)), (65, .int .i64 x65_l2), (69, .agg #[.int .i64 v136.1, .int .i64 v136.2])]) (w' := w139) (by kernel_rfl) ?_
      refine WR.st (St.storeAll (t := 44) (vs := [.int .i64 v136.1, .int .i64 v136.2]) (.tmp 13) (.tmp 69) (by kernel_rfl) (by kernel_rfl) (by kernel_rfl) hS (by kernel_rfl) (by kernel_rfl) (by kernel_rfl) (by kernel_rfl) (fun w141 hS => ?_))
      have hS : Sat w141 (rf w0) [pts b138 (.cells #[.int .i64 v136.1, .int .i64 v136.2] 44 (0, 0)), O49 b118 q119_l2, O42r1 (hp w0) b132 q134_l2] := hS
      refine WR.runk [] [] [1, 8, 11, 12, 13, 63, 64, 65] (L' := [(1, .slice A1 l1.length c1), (8, .pointer (some ⟨b118, 0, none⟩)), (11, .pointer (some ⟨b132, 0, none⟩)), (12, .int .i64 x65_l2), (13, .pointer (some ⟨b138, 0, none⟩)), (63, .slice A2 l2.length c2), (64, .int .i64 (l2.length : Int)), (65, .int .i64 x65_l2)]) (w' := w141) (by kernel_rfl) ?_
      refine WR.nil ?_
      refine At.go ?_
      refine WC.seq (by kernel_rfl) ?_
      refine WC.seq (by kernel_rfl) ?_
      refine WC.reg [0, 1] (by kernel_rfl) (by kernel_rfl) ?_
      refine WR.runk [0, 1] [] [1, 8, 11, 13, 63, 64, 65, 71] (L' := [(1, .slice A1 l1.length c1), (8, .pointer (some ⟨b118, 0, none⟩)), (11, .pointer (some ⟨b132, 0, none⟩)), (13, .pointer (some ⟨b138, 0, none⟩)), (63, .slice A2 l2.length c2), (64, .int .i64 (l2.length : Int)), (65, .int .i64 x65_l2), (71, .bool (decide (x65_l2 ≥ 200)))]) (w' := w141) (by kernel_rfl) ?_
      refine WR.nil ?_
      refine At.go ?_
      refine WC.cond (by kernel_rfl) (decide (x65_l2 ≥ 200)) (by kernel_rfl) (by kernel_rfl) (fun hb142 => ?_) (fun hb142 => ?_)
      · replace H := ite_t H hb142
        refine WC.exit (by kernel_rfl) ?_
        refine At.thenExit ?_
        refine At.miss (by kernel_rfl) ?_
        refine At.thenExit ?_
        refine At.thenExit ?_
        obtain rfl := Option.some.inj H
        have hS : Sat w141 (rf w0) [O49 b118 q119_l2, O42r1 (hp w0) b132 q134_l2] := hS.sel [1, 2] (by kernel_rfl)
        refine At.weaken [] (L' := []) (by kernel_rfl) ?_
        exact hn0 (q119_l2, q134_l2) _ rfl hS
      · replace H := ite_f H hb142
        refine WC.skip (by kernel_rfl) ?_
        refine At.go ?_
        refine WC.seq (by kernel_rfl) ?_
        refine WC.seq (by kernel_rfl) ?_
        refine WC.reg [0, 1, 2, 3, 4] (by kernel_rfl) (by kernel_rfl) ?_
        refine WR.runk [0] [1, 2, 3, 4] [1, 8, 11, 13, 63, 64, 65, 72] (L' := [(1, .slice A1 l1.length c1), (8, .pointer (some ⟨b118, 0, none⟩)), (11, .pointer (some ⟨b132, 0, none⟩)), (13, .pointer (some ⟨b138, 0, none⟩)), (63, .slice A2 l2.length c2), (64, .int .i64 (l2.length : Int)), (65, .int .i64 x65_l2), (72, .pointer (some ⟨b138, 0, none⟩))]) (w' := w141) (by kernel_rfl) ?_
        refine WR.st (St.ofR (RSt.loadObj (t := 3) (k := 0) (v := .int .i64 v136.1) (.tmp 72) (by kernel_rfl) (by kernel_rfl) (by kernel_rfl) 0 hS rfl (by kernel_rfl) rfl ?_))
        refine WR.runk [2, 3, 4] [] [1, 8, 11, 13, 63, 64, 65, 76] (L' := [(1, .slice A1 l1.length c1), (8, .pointer (some ⟨b118, 0, none⟩)), (11, .pointer (some ⟨b132, 0, none⟩)), (13, .pointer (some ⟨b138, 0, none⟩)), (63, .slice A2 l2.length c2), (64, .int .i64 (l2.length : Int)), (65, .int .i64 x65_l2), (76, .bool ((Int.tmod (IntKind.wrap .u64 v136.1) 2) == 0))]) (w' := w141) (by kernel_rfl) ?_
        refine WR.nil ?_
        refine At.go ?_
        refine WC.cond (by kernel_rfl) ((Int.tmod (IntKind.wrap .u64 v136.1) 2) == 0) (by kernel_rfl) (by kernel_rfl) (fun hb143 => ?_) (fun hb143 => ?_)
        · replace H := ite_t H hb143
          refine WC.seq (by kernel_rfl) ?_
          refine WC.drawn (by kernel_rfl) (by kernel_rfl) 9 (by kernel_rfl) (fun w144 hw145 => ?_)
          have hS := hS.heap hw145.1 hw145.2
          refine WD.weaken [1, 8, 11, 13, 63, 64, 65] (L' := [(1, .slice A1 l1.length c1), (8, .pointer (some ⟨b118, 0, none⟩)), (11, .pointer (some ⟨b132, 0, none⟩)), (13, .pointer (some ⟨b138, 0, none⟩)), (63, .slice A2 l2.length c2), (64, .int .i64 (l2.length : Int)), (65, .int .i64 x65_l2)]) (by kernel_rfl) ?_
          refine WD.pure (i := 0) (v := .pointer (some ⟨b118, 0, none⟩)) (by kernel_rfl) (by kernel_rfl) (fun _ => by kernel_rfl) ?_
          refine WD.weaken [1, 8, 11, 13, 63, 64, 65, 77] (L' := [(1, .slice A1 l1.length c1), (8, .pointer (some ⟨b118, 0, none⟩)), (11, .pointer (some ⟨b132, 0, none⟩)), (13, .pointer (some ⟨b138, 0, none⟩)), (63, .slice A2 l2.length c2), (64, .int .i64 (l2.length : Int)), (65, .int .i64 x65_l2), (77, .pointer (some ⟨b118, 0, none⟩))]) (by kernel_rfl) ?_
          refine WD.pure (i := 1) (v := .pointer (some ⟨b138, 1, none⟩)) (by kernel_rfl) (by kernel_rfl) (fun _ => by kernel_rfl) ?_
          refine WD.weaken [1, 8, 11, 13, 63, 64, 65, 77, 78] (L' := [(1, .slice A1 l1.length c1), (8, .pointer (some ⟨b118, 0, none⟩)), (11, .pointer (some ⟨b132, 0, none⟩)), (13, .pointer (some ⟨b138, 0, none⟩)), (63, .slice A2 l2.length c2), (64, .int .i64 (l2.length : Int)), (65, .int .i64 x65_l2), (77, .pointer (some ⟨b118, 0, none⟩)), (78, .pointer (some ⟨b138, 1, none⟩))]) (by kernel_rfl) ?_
          refine WD.ofR (i := 2) (by kernel_rfl) (RSt.loadObj (t := 3) (k := 1) (v := .int .i64 v136.2) (.tmp 78) (by kernel_rfl) (by kernel_rfl) (by kernel_rfl) 0 hS rfl (by kernel_rfl) rfl ?_)
          refine WD.weaken [1, 8, 11, 13, 63, 64, 65, 77, 79] (L' := [(1, .slice A1 l1.length c1), (8, .pointer (some ⟨b118, 0, none⟩)), (11, .pointer (some ⟨b132, 0, none⟩)), (13, .pointer (some ⟨b138, 0, none⟩)), (63, .slice A2 l2.length c2), (64, .int .i64 (l2.length : Int)), (65, .int .i64 x65_l2), (77, .pointer (some ⟨b118, 0, none⟩)), (79, .int .i64 v136.2)]) (by kernel_rfl) ?_
          refine WD.pure (i := 4) (v := .pointer (some ⟨b132, 0, none⟩)) (by kernel_rfl) (by kernel_rfl) (fun _ => by kernel_rfl) ?_
          refine WD.weaken [1, 8, 11, 13, 63, 64, 65, 77, 79, 81] (L' := [(1, .slice A1 l1.length c1), (8, .pointer (some ⟨b118, 0, none⟩)), (11, .pointer (some ⟨b132, 0, none⟩)), (13, .pointer (some ⟨b138, 0, none⟩)), (63, .slice A2 l2.length c2), (64, .int .i64 (l2.length : Int)), (65, .int .i64 x65_l2), (77, .pointer (some ⟨b118, 0, none⟩)), (79, .int .i64 v136.2), (81, .pointer (some ⟨b132, 0, none⟩))]) (by kernel_rfl) ?_
          refine WD.pure (i := 5) (v := .pointer (some ⟨b138, 1, none⟩)) (by kernel_rfl) (by kernel_rfl) (fun _ => by kernel_rfl) ?_
          refine WD.weaken [1, 8, 11, 13, 63, 64, 65, 77, 79, 81, 82] (L' := [(1, .slice A1 l1.length c1), (8, .pointer (some ⟨b118, 0, none⟩)), (11, .pointer (some ⟨b132, 0, none⟩)), (13, .pointer (some ⟨b138, 0, none⟩)), (63, .slice A2 l2.length c2), (64, .int .i64 (l2.length : Int)), (65, .int .i64 x65_l2), (77, .pointer (some ⟨b118, 0, none⟩)), (79, .int .i64 v136.2), (81, .pointer (some ⟨b132, 0, none⟩)), (82, .pointer (some ⟨b138, 1, none⟩))]) (by kernel_rfl) ?_
          refine WD.ofR (i := 6) (by kernel_rfl) (RSt.loadObj (t := 3) (k := 1) (v := .int .i64 v136.2) (.tmp 82) (by kernel_rfl) (by kernel_rfl) (by kernel_rfl) 0 hS rfl (by kernel_rfl) rfl ?_)
          refine WD.weaken [1, 8, 11, 13, 63, 64, 65, 77, 79, 81, 83] (L' := [(1, .slice A1 l1.length c1), (8, .pointer (some ⟨b118, 0, none⟩)), (11, .pointer (some ⟨b132, 0, none⟩)), (13, .pointer (some ⟨b138, 0, none⟩)), (63, .slice A2 l2.length c2), (64, .int .i64 (l2.length : Int)), (65, .int .i64 x65_l2), (77, .pointer (some ⟨b118, 0, none⟩)), (79, .int .i64 v136.2), (81, .pointer (some ⟨b132, 0, none⟩)), (83, .int .i64 v136.2)]) (by kernel_rfl) ?_
          have hS : Sat w144 (rf w0) [O49 b118 q119_l2, pts b138 (.cells #[.int .i64 v136.1, .int .i64 v136.2] 44 (0, 0)), O42r1 (hp w0) b132 q134_l2] := hS.sel [1, 0, 2] (by kernel_rfl)
          obtain ⟨r146, e147, H⟩ := bind_ex H
          obtain ⟨B152, hso151, hsub149, hcs150, hb148⟩ := Sat.lend [O49 b118 q119_l2] (cs := [pts b138 (.cells #[.int .i64 v136.1, .int .i64 v136.2] 44 (0, 0)), O42r1 (hp w0) b132 q134_l2]) hS
          refine WD.act (i := 3) (by kernel_rfl) (St.call (by kernel_rfl) (f := 7) (args := #[.pointer (some ⟨b118, 0, none⟩), .int .i64 v136.2]) (by kernel_rfl) (quota_Gate_Enter.calls B152 w144 b118 q119_l2 hso151 v136.2 r146 e147) ?_)
          rintro _ w153 ⟨rfl, hS154⟩
          have hS : Sat w153 (rf w0) [O49 b118 r146.2, pts b138 (.cells #[.int .i64 v136.1, .int .i64 v136.2] 44 (0, 0)), O42r1 (hp w0) b132 q134_l2] := hb148 _ _ hS154
          refine ⟨(asked.cons (RSt.run (n := 122) (RSt.loadObj (t := 3) (k := 1) (v := .int .i64 v136.2) (.tmp 82) (by kernel_rfl) (by kernel_rfl) (by kernel_rfl) 1 hS rfl (by kernel_rfl) rfl rfl)) (asked.anc (by kernel_rfl) (asked.nil _ _))), ?_⟩
          refine WD.weaken [1, 8, 11, 13, 63, 64, 65, 80, 81, 83] (L' := [(1, .slice A1 l1.length c1), (8, .pointer (some ⟨b118, 0, none⟩)), (11, .pointer (some ⟨b132, 0, none⟩)), (13, .pointer (some ⟨b138, 0, none⟩)), (63, .slice A2 l2.length c2), (64, .int .i64 (l2.length : Int)), (65, .int .i64 x65_l2), (80, .int .i64 r146.1), (81, .pointer (some ⟨b132, 0, none⟩)), (83, .int .i64 v136.2)]) (by kernel_rfl) ?_
          have hS : Sat w153 (rf w0) [O42r1 (hp w0) b132 q134_l2, O49 b118 r146.2, pts b138 (.cells #[.int .i64 v136.1, .int .i64 v136.2] 44 (0, 0))] := hS.sel [2, 0, 1] (by kernel_rfl)
          obtain ⟨r155, e156, H⟩ := bind_ex H
          obtain ⟨B161, hso160, hsub158, hcs159, hb157⟩ := Sat.lend [O42r1 (hp w0) b132 q134_l2] (cs := [O49 b118 r146.2, pts b138 (.cells #[.int .i64 v136.1, .int .i64 v136.2] 44 (0, 0))]) hS
          refine WD.act (i := 7) (by kernel_rfl) (St.call (by kernel_rfl) (f := 13) (args := #[.pointer (some ⟨b132, 0, none⟩), .int .i64 v136.2]) (by kernel_rfl) (colophonref22_Gate_Enter_r0_1.calls B161 w153 b132 q134_l2 (hp w0) hsub158 hso160 v136.2 r155 e156) ?_)
          rintro _ w162 ⟨rfl, hS163⟩
          have hS : Sat w162 (rf w0) [O42r1 (hp w0) b132 r155.2, O49 b118 r146.2, pts b138 (.cells #[.int .i64 v136.1, .int .i64 v136.2] 44 (0, 0))] := hb157 _ _ hS163
          refine ⟨(asked.anc (by kernel_rfl) (asked.anc (by kernel_rfl) (asked.nil _ _))), ?_⟩
          refine WD.weaken [1, 8, 11, 13, 63, 64, 65, 80, 84] (L' := [(1, .slice A1 l1.length c1), (8, .pointer (some ⟨b118, 0, none⟩)), (11, .pointer (some ⟨b132, 0, none⟩)), (13, .pointer (some ⟨b138, 0, none⟩)), (63, .slice A2 l2.length c2), (64, .int .i64 (l2.length : Int)), (65, .int .i64 x65_l2), (80, .int .i64 r146.1), (84, .int .i64 r155.1)]) (by kernel_rfl) ?_
          refine WD.pure (i := 8) (v := .bool (r146.1 != r155.1)) (by kernel_rfl) (by kernel_rfl) (fun _ => by kernel_rfl) ?_
          refine WD.weaken [1, 8, 11, 13, 63, 64, 65, 85] (L' := [(1, .slice A1 l1.length c1), (8, .pointer (some ⟨b118, 0, none⟩)), (11, .pointer (some ⟨b132, 0, none⟩)), (13, .pointer (some ⟨b138, 0, none⟩)), (63, .slice A2 l2.length c2), (64, .int .i64 (l2.length : Int)), (65, .int .i64 x65_l2), (85, .bool (r146.1 != r155.1))]) (by kernel_rfl) ?_
          refine WD.nil (by kernel_rfl) ?_
          refine At.go ?_
          refine WC.cond (by kernel_rfl) (r146.1 != r155.1) (by kernel_rfl) (by kernel_rfl) (fun hb164 => ?_) (fun hb164 => ?_)
          · replace H := ite_t H hb164
            refine WC.seq (by kernel_rfl) ?_
            refine WC.reg [0] (by kernel_rfl) (by kernel_rfl) ?_
            refine WR.runk [0] [] [6] (L' := [(6, .bool false)]) (w' := w162) (by kernel_rfl) ?_
            refine WR.nil ?_
            refine At.go ?_
            refine WC.ret (by kernel_rfl) ?_
            refine At.thenRet ?_
            refine At.blockRet ?_
            refine At.thenRet ?_
            refine At.thenRet ?_
            obtain rfl := Option.some.inj H
            have hS : Sat w162 (rf w0) [O49 b118 r146.2, O42r1 (hp w0) b132 r155.2] := hS.sel [1, 0] (by kernel_rfl)
            refine At.weaken [6] (L' := [(6, .bool false)]) (by kernel_rfl) ?_
            exact hn1 (false, r146.2, r155.2) _ rfl hS
          · replace H := ite_f H hb164
            refine WC.skip (by kernel_rfl) ?_
            refine At.go ?_
            refine WC.seq (by kernel_rfl) ?_
            refine WC.drawn (by kernel_rfl) (by kernel_rfl) 26 (by kernel_rfl) (fun w165 hw166 => ?_)
            have hS := hS.heap hw166.1 hw166.2
            refine WD.weaken [1, 8, 11, 13, 63, 64, 65] (L' := [(1, .slice A1 l1.length c1), (8, .pointer (some ⟨b118, 0, none⟩)), (11, .pointer (some ⟨b132, 0, none⟩)), (13, .pointer (some ⟨b138, 0, none⟩)), (63, .slice A2 l2.length c2), (64, .int .i64 (l2.length : Int)), (65, .int .i64 x65_l2)]) (by kernel_rfl) ?_
            refine WD.pure (i := 0) (v := .pointer (some ⟨b118, 0, none⟩)) (by kernel_rfl) (by kernel_rfl) (fun _ => by kernel_rfl) ?_
            refine WD.weaken [1, 8, 11, 13, 63, 64, 65, 95] (L' := [(1, .slice A1 l1.length c1), (8, .pointer (some ⟨b118, 0, none⟩)), (11, .pointer (some ⟨b132, 0, none⟩)), (13, .pointer (some ⟨b138, 0, none⟩)), (63, .slice A2 l2.length c2), (64, .int .i64 (l2.length : Int)), (65, .int .i64 x65_l2), (95, .pointer (some ⟨b118, 0, none⟩))]) (by kernel_rfl) ?_
            refine WD.pure (i := 2) (v := .pointer (some ⟨b132, 0, none⟩)) (by kernel_rfl) (by kernel_rfl) (fun _ => by kernel_rfl) ?_
            refine WD.weaken [1, 8, 11, 13, 63, 64, 65, 95, 97] (L' := [(1, .slice A1 l1.length c1), (8, .pointer (some ⟨b118, 0, none⟩)), (11, .pointer (some ⟨b132, 0, none⟩)), (13, .pointer (some ⟨b138, 0, none⟩)), (63, .slice A2 l2.length c2), (64, .int .i64 (l2.length : Int)), (65, .int .i64 x65_l2), (95, .pointer (some ⟨b118, 0, none⟩)), (97, .pointer (some ⟨b132, 0, none⟩))]) (by kernel_rfl) ?_
            refine WD.pure (i := 3) (v := .pointer (some ⟨b132, 0, none⟩)) (by kernel_rfl) (by kernel_rfl) (fun _ => by kernel_rfl) ?_
            refine WD.weaken [1, 8, 11, 13, 63, 64, 65, 95, 98] (L' := [(1, .slice A1 l1.length c1), (8, .pointer (some ⟨b118, 0, none⟩)), (11, .pointer (some ⟨b132, 0, none⟩)), (13, .pointer (some ⟨b138, 0, none⟩)), (63, .slice A2 l2.length c2), (64, .int .i64 (l2.length : Int)), (65, .int .i64 x65_l2), (95, .pointer (some ⟨b118, 0, none⟩)), (98, .pointer (some ⟨b132, 0, none⟩))]) (by kernel_rfl) ?_
            refine WD.pure (i := 4) (v := .pointer (some ⟨b132, 2, none⟩)) (by kernel_rfl) (by kernel_rfl) (fun _ => by kernel_rfl) ?_
            refine WD.weaken [1, 8, 11, 13, 63, 64, 65, 95, 99] (L' := [(1, .slice A1 l1.length c1), (8, .pointer (some ⟨b118, 0, none⟩)), (11, .pointer (some ⟨b132, 0, none⟩)), (13, .pointer (some ⟨b138, 0, none⟩)), (63, .slice A2 l2.length c2), (64, .int .i64 (l2.length : Int)), (65, .int .i64 x65_l2), (95, .pointer (some ⟨b118, 0, none⟩)), (99, .pointer (some ⟨b132, 2, none⟩))]) (by kernel_rfl) ?_
            obtain ⟨A167, c168, A170, c171, R169, hS⟩ := O42r1.open hS
            replace R169 : rdS (r0 (.pair (.int .i64) (.int .i64))) 2 (hp w0) A167 c168 r155.2.2.1 := R169
            have hS : Sat w165 (rf w0) [pts b132 (.cells #[.int .i64 r155.2.1, .slice A167 r155.2.2.1.length c168, .slice A170 r155.2.2.2.length c171] 42 (0, 0)), osl 3 (r0 (.int .i64)) 1 A170 c171 r155.2.2.2, O49 b118 r146.2, pts b138 (.cells #[.int .i64 v136.1, .int .i64 v136.2] 44 (0, 0))] := hS
            refine WD.ofR (i := 5) (by kernel_rfl) (RSt.loadObj (t := 23) (k := 2) (v := .slice A170 r155.2.2.2.length c171) (.tmp 99) (by kernel_rfl) (by kernel_rfl) (by kernel_rfl) 0 hS rfl (by kernel_rfl) rfl ?_)
            refine WD.weaken [1, 8, 11, 13, 63, 64, 65, 95, 100] (L' := [(1, .slice A1 l1.length c1), (8, .pointer (some ⟨b118, 0, none⟩)), (11, .pointer (some ⟨b132, 0, none⟩)), (13, .pointer (some ⟨b138, 0, none⟩)), (63, .slice A2 l2.length c2), (64, .int .i64 (l2.length : Int)), (65, .int .i64 x65_l2), (95, .pointer (some ⟨b118, 0, none⟩)), (100, .slice A170 r155.2.2.2.length c171)]) (by kernel_rfl) ?_
            refine WD.pure (i := 6) (v := .int .i64 (r155.2.2.2.length : Int)) (by kernel_rfl) (by kernel_rfl) (fun _ => by kernel_rfl) ?_
            refine WD.weaken [1, 8, 11, 13, 63, 64, 65, 95, 101] (L' := [(1, .slice A1 l1.length c1), (8, .pointer (some ⟨b118, 0, none⟩)), (11, .pointer (some ⟨b132, 0, none⟩)), (13, .pointer (some ⟨b138, 0, none⟩)), (63, .slice A2 l2.length c2), (64, .int .i64 (l2.length : Int)), (65, .int .i64 x65_l2), (95, .pointer (some ⟨b118, 0, none⟩)), (101, .int .i64 (r155.2.2.2.length : Int))]) (by kernel_rfl) ?_
            have hS : Sat w165 (rf w0) [O49 b118 r146.2, pts b132 (.cells #[.int .i64 r155.2.1, .slice A167 r155.2.2.1.length c168, .slice A170 r155.2.2.2.length c171] 42 (0, 0)), osl 3 (r0 (.int .i64)) 1 A170 c171 r155.2.2.2, pts b138 (.cells #[.int .i64 v136.1, .int .i64 v136.2] 44 (0, 0))] := hS.sel [2, 0, 1, 3] (by kernel_rfl)
            obtain ⟨r172, e173, H⟩ := bind_ex H
            obtain ⟨B178, hso177, hsub175, hcs176, hb174⟩ := Sat.lend [O49 b118 r146.2] (cs := [pts b132 (.cells #[.int .i64 r155.2.1, .slice A167 r155.2.2.1.length c168, .slice A170 r155.2.2.2.length c171] 42 (0, 0)), osl 3 (r0 (.int .i64)) 1 A170 c171 r155.2.2.2, pts b138 (.cells #[.int .i64 v136.1, .int .i64 v136.2] 44 (0, 0))]) hS
            refine WD.act (i := 1) (by kernel_rfl) (St.call (by kernel_rfl) (f := 8) (args := #[.pointer (some ⟨b118, 0, none⟩)]) (by kernel_rfl) (quota_Gate_All.calls B178 w165 b118 r146.2 hso177  r172 e173) ?_)
            rintro _ w179 ⟨rfl, hS180⟩
            have hS : Sat w179 (rf w0) [O49 b118 r146.2, pts b132 (.cells #[.int .i64 r155.2.1, .slice A167 r155.2.2.1.length c168, .slice A170 r155.2.2.2.length c171] 42 (0, 0)), osl 3 (r0 (.int .i64)) 1 A170 c171 r155.2.2.2, pts b138 (.cells #[.int .i64 v136.1, .int .i64 v136.2] 44 (0, 0))] := hb174 _ _ hS180
            refine ⟨(asked.cons (RSt.run (n := 122) (RSt.loadObj (t := 23) (k := 2) (v := .slice A170 r155.2.2.2.length c171) (.tmp 99) (by kernel_rfl) (by kernel_rfl) (by kernel_rfl) 1 hS rfl (by kernel_rfl) rfl rfl)) (asked.nil _ _)), ?_⟩
            refine WD.weaken [1, 8, 11, 13, 63, 64, 65, 96, 101] (L' := [(1, .slice A1 l1.length c1), (8, .pointer (some ⟨b118, 0, none⟩)), (11, .pointer (some ⟨b132, 0, none⟩)), (13, .pointer (some ⟨b138, 0, none⟩)), (63, .slice A2 l2.length c2), (64, .int .i64 (l2.length : Int)), (65, .int .i64 x65_l2), (96, .int .i64 r172), (101, .int .i64 (r155.2.2.2.length : Int))]) (by kernel_rfl) ?_
            refine WD.pure (i := 7) (v := .bool (r172 != (r155.2.2.2.length : Int))) (by kernel_rfl) (by kernel_rfl) (fun _ => by kernel_rfl) ?_
            refine WD.weaken [1, 8, 11, 13, 63, 64, 65, 102] (L' := [(1, .slice A1 l1.length c1), (8, .pointer (some ⟨b118, 0, none⟩)), (11, .pointer (some ⟨b132, 0, none⟩)), (13, .pointer (some ⟨b138, 0, none⟩)), (63, .slice A2 l2.length c2), (64, .int .i64 (l2.length : Int)), (65, .int .i64 x65_l2), (102, .bool (r172 != (r155.2.2.2.length : Int)))]) (by kernel_rfl) ?_
            refine WD.pure (i := 8) (v := .bool (r172 != (r155.2.2.2.length : Int))) (by kernel_rfl) (by kernel_rfl) (fun _ => by kernel_rfl) ?_
            refine WD.weaken [1, 8, 11, 13, 63, 64, 65, 103] (L' := [(1, .slice A1 l1.length c1), (8, .pointer (some ⟨b118, 0, none⟩)), (11, .pointer (some ⟨b132, 0, none⟩)), (13, .pointer (some ⟨b138, 0, none⟩)), (63, .slice A2 l2.length c2), (64, .int .i64 (l2.length : Int)), (65, .int .i64 x65_l2), (103, .bool (r172 != (r155.2.2.2.length : Int)))]) (by kernel_rfl) ?_
            refine WD.split 103 (b := (r172 != (r155.2.2.2.length : Int))) (by kernel_rfl) (fun hb181 => ?_) (fun hb181 => ?_)
            · replace H := ite_t H hb181
              refine WD.weaken [1, 8, 11, 13, 63, 64, 65, 103] (L' := [(1, .slice A1 l1.length c1), (8, .pointer (some ⟨b118, 0, none⟩)), (11, .pointer (some ⟨b132, 0, none⟩)), (13, .pointer (some ⟨b138, 0, none⟩)), (63, .slice A2 l2.length c2), (64, .int .i64 (l2.length : Int)), (65, .int .i64 x65_l2), (103, .bool true)]) (by kernel_rfl) ?_
              refine WD.skip (i := 9) (by kernel_rfl) (by kernel_rfl) ?_
              refine WD.weaken [1, 8, 11, 13, 63, 64, 65, 103, 104] (L' := [(1, .slice A1 l1.length c1), (8, .pointer (some ⟨b118, 0, none⟩)), (11, .pointer (some ⟨b132, 0, none⟩)), (13, .pointer (some ⟨b138, 0, none⟩)), (63, .slice A2 l2.length c2), (64, .int .i64 (l2.length : Int)), (65, .int .i64 x65_l2), (103, .bool true), (104, undef)]) (by kernel_rfl) ?_
              refine WD.skip (i := 10) (by kernel_rfl) (by kernel_rfl) ?_
              refine WD.weaken [1, 8, 11, 13, 63, 64, 65, 103, 104, 105] (L' := [(1, .slice A1 l1.length c1), (8, .pointer (some ⟨b118, 0, none⟩)), (11, .pointer (some ⟨b132, 0, none⟩)), (13, .pointer (some ⟨b138, 0, none⟩)), (63, .slice A2 l2.length c2), (64, .int .i64 (l2.length : Int)), (65, .int .i64 x65_l2), (103, .bool true), (104, undef), (105, undef)]) (by kernel_rfl) ?_
              refine WD.skip (i := 11) (by kernel_rfl) (by kernel_rfl) ?_
              refine WD.weaken [1, 8, 11, 13, 63, 64, 65, 103, 104, 105, 106] (L' := [(1, .slice A1 l1.length c1), (8, .pointer (some ⟨b118, 0, none⟩)), (11, .pointer (some ⟨b132, 0, none⟩)), (13, .pointer (some ⟨b138, 0, none⟩)), (63, .slice A2 l2.length c2), (64, .int .i64 (l2.length : Int)), (65, .int .i64 x65_l2), (103, .bool true), (104, undef), (105, undef), (106, undef)]) (by kernel_rfl) ?_
              refine WD.skip (i := 13) (by kernel_rfl) (by kernel_rfl) ?_
              refine WD.weaken [1, 8, 11, 13, 63, 64, 65, 103, 104, 105, 106, 108] (L' := [(1, .slice A1 l1.length c1), (8, .pointer (some ⟨b118, 0, none⟩)), (11, .pointer (some ⟨b132, 0, none⟩)), (13, .pointer (some ⟨b138, 0, none⟩)), (63, .slice A2 l2.length c2), (64, .int .i64 (l2.length : Int)), (65, .int .i64 x65_l2), (103, .bool true), (104, undef), (105, undef), (106, undef), (108, undef)]) (by kernel_rfl) ?_
              refine WD.skip (i := 14) (by kernel_rfl) (by kernel_rfl) ?_
              refine WD.weaken [1, 8, 11, 63, 64, 65, 103, 104, 105, 106, 108, 109] (L' := [(1, .slice A1 l1.length c1), (8, .pointer (some ⟨b118, 0, none⟩)), (11, .pointer (some ⟨b132, 0, none⟩)), (63, .slice A2 l2.length c2), (64, .int .i64 (l2.length : Int)), (65, .int .i64 x65_l2), (103, .bool true), (104, undef), (105, undef), (106, undef), (108, undef), (109, undef)]) (by kernel_rfl) ?_
              refine WD.skip (i := 15) (by kernel_rfl) (by kernel_rfl) ?_
              refine WD.weaken [1, 8, 11, 63, 64, 65, 103, 104, 105, 106, 108, 109, 110] (L' := [(1, .slice A1 l1.length c1), (8, .pointer (some ⟨b118, 0, none⟩)), (11, .pointer (some ⟨b132, 0, none⟩)), (63, .slice A2 l2.length c2), (64, .int .i64 (l2.length : Int)), (65, .int .i64 x65_l2), (103, .bool true), (104, undef), (105, undef), (106, undef), (108, undef), (109, undef), (110, undef)]) (by kernel_rfl) ?_
              refine WD.skip (i := 12) (by kernel_rfl) (by kernel_rfl) ?_
              refine WD.weaken [1, 8, 11, 63, 64, 65, 103, 104, 105, 106, 107, 108, 109, 110] (L' := [(1, .slice A1 l1.length c1), (8, .pointer (some ⟨b118, 0, none⟩)), (11, .pointer (some ⟨b132, 0, none⟩)), (63, .slice A2 l2.length c2), (64, .int .i64 (l2.length : Int)), (65, .int .i64 x65_l2), (103, .bool true), (104, undef), (105, undef), (106, undef), (107, undef), (108, undef), (109, undef), (110, undef)]) (by kernel_rfl) ?_
              refine WD.skip (i := 16) (by kernel_rfl) (by kernel_rfl) ?_
              refine WD.weaken [1, 8, 11, 63, 64, 65, 103, 104, 105, 106, 107, 108, 109, 110, 111] (L' := [(1, .slice A1 l1.length c1), (8, .pointer (some ⟨b118, 0, none⟩)), (11, .pointer (some ⟨b132, 0, none⟩)), (63, .slice A2 l2.length c2), (64, .int .i64 (l2.length : Int)), (65, .int .i64 x65_l2), (103, .bool true), (104, undef), (105, undef), (106, undef), (107, undef), (108, undef), (109, undef), (110, undef), (111, undef)]) (by kernel_rfl) ?_
              refine WD.skip (i := 17) (by kernel_rfl) (by kernel_rfl) ?_
              refine WD.weaken [1, 8, 11, 63, 64, 65, 103, 104, 105, 106, 107, 108, 109, 110, 111, 112] (L' := [(1, .slice A1 l1.length c1), (8, .pointer (some ⟨b118, 0, none⟩)), (11, .pointer (some ⟨b132, 0, none⟩)), (63, .slice A2 l2.length c2), (64, .int .i64 (l2.length : Int)), (65, .int .i64 x65_l2), (103, .bool true), (104, undef), (105, undef), (106, undef), (107, undef), (108, undef), (109, undef), (110, undef), (111, undef), (112, undef)]) (by kernel_rfl) ?_
              refine WD.pure (i := 18) (v := .bool true) (by kernel_rfl) (by kernel_rfl) (fun _ => by kernel_rfl) ?_
              refine WD.weaken [1, 8, 11, 63, 64, 65, 104, 105, 106, 107, 108, 109, 110, 111, 112, 113] (L' := [(1, .slice A1 l1.length c1), (8, .pointer (some ⟨b118, 0, none⟩)), (11, .pointer (some ⟨b132, 0, none⟩)), (63, .slice A2 l2.length c2), (64, .int .i64 (l2.length : Int)), (65, .int .i64 x65_l2), (104, undef), (105, undef), (106, undef), (107, undef), (108, undef), (109, undef), (110, undef), (111, undef), (112, undef), (113, .bool true)]) (by kernel_rfl) ?_
              refine WD.pure (i := 19) (v := .bool true) (by kernel_rfl) (by kernel_rfl) (fun _ => by kernel_rfl) ?_
              refine WD.weaken [1, 8, 11, 63, 64, 65, 104, 105, 106, 107, 108, 109, 110, 111, 112, 114] (L' := [(1, .slice A1 l1.length c1), (8, .pointer (some ⟨b118, 0, none⟩)), (11, .pointer (some ⟨b132, 0, none⟩)), (63, .slice A2 l2.length c2), (64, .int .i64 (l2.length : Int)), (65, .int .i64 x65_l2), (104, undef), (105, undef), (106, undef), (107, undef), (108, undef), (109, undef), (110, undef), (111, undef), (112, undef), (114, .bool true)]) (by kernel_rfl) ?_
              refine WD.skip (i := 20) (by kernel_rfl) (by kernel_rfl) ?_
              refine WD.weaken [1, 8, 11, 63, 64, 65, 104, 105, 106, 107, 108, 109, 110, 111, 112, 114, 115] (L' := [(1, .slice A1 l1.length c1), (8, .pointer (some ⟨b118, 0, none⟩)), (11, .pointer (some ⟨b132, 0, none⟩)), (63, .slice A2 l2.length c2), (64, .int .i64 (l2.length : Int)), (65, .int .i64 x65_l2), (104, undef), (105, undef), (106, undef), (107, undef), (108, undef), (109, undef), (110, undef), (111, undef), (112, undef), (114, .bool true), (115, undef)]) (by kernel_rfl) ?_
              refine WD.skip (i := 22) (by kernel_rfl) (by kernel_rfl) ?_
              refine WD.weaken [1, 8, 11, 63, 64, 65, 104, 105, 106, 107, 108, 109, 110, 111, 112, 114, 115, 117] (L' := [(1, .slice A1 l1.length c1), (8, .pointer (some ⟨b118, 0, none⟩)), (11, .pointer (some ⟨b132, 0, none⟩)), (63, .slice A2 l2.length c2), (64, .int .i64 (l2.length : Int)), (65, .int .i64 x65_l2), (104, undef), (105, undef), (106, undef), (107, undef), (108, undef), (109, undef), (110, undef), (111, undef), (112, undef), (114, .bool true), (115, undef), (117, undef)]) (by kernel_rfl) ?_
              refine WD.skip (i := 23) (by kernel_rfl) (by kernel_rfl) ?_
              refine WD.weaken [1, 8, 11, 63, 64, 65, 104, 105, 106, 107, 108, 109, 110, 111, 112, 114, 115, 117, 118] (L' := [(1, .slice A1 l1.length c1), (8, .pointer (some ⟨b118, 0, none⟩)), (11, .pointer (some ⟨b132, 0, none⟩)), (63, .slice A2 l2.length c2), (64, .int .i64 (l2.length : Int)), (65, .int .i64 x65_l2), (104, undef), (105, undef), (106, undef), (107, undef), (108, undef), (109, undef), (110, undef), (111, undef), (112, undef), (114, .bool true), (115, undef), (117, undef), (118, undef)]) (by kernel_rfl) ?_
              refine WD.skip (i := 21) (by kernel_rfl) (by kernel_rfl) ?_
              refine WD.weaken [1, 8, 11, 63, 64, 65, 104, 105, 106, 107, 108, 109, 110, 111, 112, 114, 115, 116, 117, 118] (L' := [(1, .slice A1 l1.length c1), (8, .pointer (some ⟨b118, 0, none⟩)), (11, .pointer (some ⟨b132, 0, none⟩)), (63, .slice A2 l2.length c2), (64, .int .i64 (l2.length : Int)), (65, .int .i64 x65_l2), (104, undef), (105, undef), (106, undef), (107, undef), (108, undef), (109, undef), (110, undef), (111, undef), (112, undef), (114, .bool true), (115, undef), (116, undef), (117, undef), (118, undef)]) (by kernel_rfl) ?_
              refine WD.skip (i := 24) (by kernel_rfl) (by kernel_rfl) ?_
              refine WD.weaken [1, 8, 11, 63, 64, 65, 104, 105, 106, 107, 108, 109, 110, 111, 112, 114, 115, 116, 117, 118, 119] (L' := [(1, .slice A1 l1.length c1), (8, .pointer (some ⟨b118, 0, none⟩)), (11, .pointer (some ⟨b132, 0, none⟩)), (63, .slice A2 l2.length c2), (64, .int .i64 (l2.length : Int)), (65, .int .i64 x65_l2), (104, undef), (105, undef), (106, undef), (107, undef), (108, undef), (109, undef), (110, undef), (111, undef), (112, undef), (114, .bool true), (115, undef), (116, undef), (117, undef), (118, undef), (119, undef)]) (by kernel_rfl) ?_
              refine WD.pure (i := 25) (v := .bool true) (by kernel_rfl) (by kernel_rfl) (fun _ => by kernel_rfl) ?_
              refine WD.weaken [1, 8, 11, 63, 64, 65, 104, 105, 106, 107, 108, 109, 110, 111, 112, 115, 116, 117, 118, 119, 120] (L' := [(1, .slice A1 l1.length c1), (8, .pointer (some ⟨b118, 0, none⟩)), (11, .pointer (some ⟨b132, 0, none⟩)), (63, .slice A2 l2.length c2), (64, .int .i64 (l2.length : Int)), (65, .int .i64 x65_l2), (104, undef), (105, undef), (106, undef), (107, undef), (108, undef), (109, undef), (110, undef), (111, undef), (112, undef), (115, undef), (116, undef), (117, undef), (118, undef), (119, undef), (120, .bool true)]) (by kernel_rfl) ?_
              refine WD.nil (by kernel_rfl) ?_
              refine At.go ?_
              refine WC.condT (by kernel_rfl) (by kernel_rfl) (by kernel_rfl) ?_
              refine WC.seq (by kernel_rfl) ?_
              refine WC.reg [0] (by kernel_rfl) (by kernel_rfl) ?_
              refine WR.runk [0] [] [6] (L' := [(6, .bool false)]) (w' := w179) (by kernel_rfl) ?_
              refine WR.nil ?_
              refine At.go ?_
              refine WC.ret (by kernel_rfl) ?_
              refine At.blockRet ?_
              refine At.thenRet ?_
              refine At.thenRet ?_
              obtain rfl := Option.some.inj H
              have hS : Sat w179 (rf w0) [pts b132 (.cells #[.int .i64 r155.2.1, .slice A167 r155.2.2.1.length c168, .slice A170 r155.2.2.2.length c171] 42 (0, 0)), osl 3 (r0 (.int .i64)) 1 A170 c171 r155.2.2.2, O49 b118 r146.2, pts b138 (.cells #[.int .i64 v136.1, .int .i64 v136.2] 44 (0, 0))] := hS.sel [1, 2, 0, 3] (by kernel_rfl)
              have hS : Sat w179 (rf w0) [O42r1 (hp w0) b132 r155.2, O49 b118 r146.2, pts b138 (.cells #[.int .i64 v136.1, .int .i64 v136.2] 44 (0, 0))] := O42r1.close (hp w0) r155.2 A167 c168 A170 c171 R169 hS
              have hS : Sat w179 (rf w0) [O49 b118 r146.2, O42r1 (hp w0) b132 r155.2] := hS.sel [1, 0] (by kernel_rfl)
              refine At.weaken [6] (L' := [(6, .bool false)]) (by kernel_rfl) ?_
              exact hn1 (false, r146.2, r155.2) _ rfl hS
            · replace H := ite_f H hb181
              refine WD.weaken [1, 8, 11, 13, 63, 64, 65, 103] (L' := [(1, .slice A1 l1.length c1), (8, .pointer (some ⟨b118, 0, none⟩)), (11, .pointer (some ⟨b132, 0, none⟩)), (13, .pointer (some ⟨b138, 0, none⟩)), (63, .slice A2 l2.length c2), (64, .int .i64 (l2.length : Int)), (65, .int .i64 x65_l2), (103, .bool false)]) (by kernel_rfl) ?_
              refine WD.pure (i := 9) (v := .pointer (some ⟨b118, 0, none⟩)) (by kernel_rfl) (by kernel_rfl) (fun _ => by kernel_rfl) ?_
              refine WD.weaken [1, 8, 11, 13, 63, 64, 65, 103, 104] (L' := [(1, .slice A1 l1.length c1), (8, .pointer (some ⟨b118, 0, none⟩)), (11, .pointer (some ⟨b132, 0, none⟩)), (13, .pointer (some ⟨b138, 0, none⟩)), (63, .slice A2 l2.length c2), (64, .int .i64 (l2.length : Int)), (65, .int .i64 x65_l2), (103, .bool false), (104, .pointer (some ⟨b118, 0, none⟩))]) (by kernel_rfl) ?_
              refine WD.pure (i := 10) (v := .pointer (some ⟨b138, 1, none⟩)) (by kernel_rfl) (by kernel_rfl) (fun _ => by kernel_rfl) ?_
              refine WD.weaken [1, 8, 11, 13, 63, 64, 65, 103, 104, 105] (L' := [(1, .slice A1 l1.length c1), (8, .pointer (some ⟨b118, 0, none⟩)), (11, .pointer (some ⟨b132, 0, none⟩)), (13, .pointer (some ⟨b138, 0, none⟩)), (63, .slice A2 l2.length c2), (64, .int .i64 (l2.length : Int)), (65, .int .i64 x65_l2), (103, .bool false), (104, .pointer (some ⟨b118, 0, none⟩)), (105, .pointer (some ⟨b138, 1, none⟩))]) (by kernel_rfl) ?_
              refine WD.ofR (i := 11) (by kernel_rfl) (RSt.loadObj (t := 3) (k := 1) (v := .int .i64 v136.2) (.tmp 105) (by kernel_rfl) (by kernel_rfl) (by kernel_rfl) 3 hS rfl (by kernel_rfl) rfl ?_)
              refine WD.weaken [1, 8, 11, 13, 63, 64, 65, 103, 104, 105, 106] (L' := [(1, .slice A1 l1.length c1), (8, .pointer (some ⟨b118, 0, none⟩)), (11, .pointer (some ⟨b132, 0, none⟩)), (13, .pointer (some ⟨b138, 0, none⟩)), (63, .slice A2 l2.length c2), (64, .int .i64 (l2.length : Int)), (65, .int .i64 x65_l2), (103, .bool false), (104, .pointer (some ⟨b118, 0, none⟩)), (105, .pointer (some ⟨b138, 1, none⟩)), (106, .int .i64 v136.2)]) (by kernel_rfl) ?_
              refine WD.pure (i := 13) (v := .pointer (some ⟨b132, 0, none⟩)) (by kernel_rfl) (by kernel_rfl) (fun _ => by kernel_rfl) ?_
              refine WD.weaken [1, 8, 11, 13, 63, 64, 65, 103, 104, 105, 106, 108] (L' := [(1, .slice A1 l1.length c1), (8, .pointer (some ⟨b118, 0, none⟩)), (11, .pointer (some ⟨b132, 0, none⟩)), (13, .pointer (some ⟨b138, 0, none⟩)), (63, .slice A2 l2.length c2), (64, .int .i64 (l2.length : Int)), (65, .int .i64 x65_l2), (103, .bool false), (104, .pointer (some ⟨b118, 0, none⟩)), (105, .pointer (some ⟨b138, 1, none⟩)), (106, .int .i64 v136.2), (108, .pointer (some ⟨b132, 0, none⟩))]) (by kernel_rfl) ?_
              refine WD.pure (i := 14) (v := .pointer (some ⟨b138, 1, none⟩)) (by kernel_rfl) (by kernel_rfl) (fun _ => by kernel_rfl) ?_
              refine WD.weaken [1, 8, 11, 63, 64, 65, 103, 104, 105, 106, 108, 109] (L' := [(1, .slice A1 l1.length c1), (8, .pointer (some ⟨b118, 0, none⟩)), (11, .pointer (some ⟨b132, 0, none⟩)), (63, .slice A2 l2.length c2), (64, .int .i64 (l2.length : Int)), (65, .int .i64 x65_l2), (103, .bool false), (104, .pointer (some ⟨b118, 0, none⟩)), (105, .pointer (some ⟨b138, 1, none⟩)), (106, .int .i64 v136.2), (108, .pointer (some ⟨b132, 0, none⟩)), (109, .pointer (some ⟨b138, 1, none⟩))]) (by kernel_rfl) ?_
              refine WD.ofR (i := 15) (by kernel_rfl) (RSt.loadObj (t := 3) (k := 1) (v := .int .i64 v136.2) (.tmp 109) (by kernel_rfl) (by kernel_rfl) (by kernel_rfl) 3 hS rfl (by kernel_rfl) rfl ?_)
              refine WD.weaken [1, 8, 11, 63, 64, 65, 103, 104, 105, 106, 108, 109, 110] (L' := [(1, .slice A1 l1.length c1), (8, .pointer (some ⟨b118, 0, none⟩)), (11, .pointer (some ⟨b132, 0, none⟩)), (63, .slice A2 l2.length c2), (64, .int .i64 (l2.length : Int)), (65, .int .i64 x65_l2), (103, .bool false), (104, .pointer (some ⟨b118, 0, none⟩)), (105, .pointer (some ⟨b138, 1, none⟩)), (106, .int .i64 v136.2), (108, .pointer (some ⟨b132, 0, none⟩)), (109, .pointer (some ⟨b138, 1, none⟩)), (110, .int .i64 v136.2)]) (by kernel_rfl) ?_
              obtain ⟨r182, e183, H⟩ := bind_ex H
              obtain ⟨B188, hso187, hsub185, hcs186, hb184⟩ := Sat.lend [O49 b118 r146.2] (cs := [pts b132 (.cells #[.int .i64 r155.2.1, .slice A167 r155.2.2.1.length c168, .slice A170 r155.2.2.2.length c171] 42 (0, 0)), osl 3 (r0 (.int .i64)) 1 A170 c171 r155.2.2.2, pts b138 (.cells #[.int .i64 v136.1, .int .i64 v136.2] 44 (0, 0))]) hS
              refine WD.act (i := 12) (by kernel_rfl) (St.call (by kernel_rfl) (f := 10) (args := #[.pointer (some ⟨b118, 0, none⟩), .int .i64 v136.2]) (by kernel_rfl) (quota_Gate_Live.calls B188 w179 b118 r146.2 hso187 v136.2 r182 e183) ?_)
              rintro _ w189 ⟨rfl, hS190⟩
              have hS : Sat w189 (rf w0) [O49 b118 r146.2, pts b132 (.cells #[.int .i64 r155.2.1, .slice A167 r155.2.2.1.length c168, .slice A170 r155.2.2.2.length c171] 42 (0, 0)), osl 3 (r0 (.int .i64)) 1 A170 c171 r155.2.2.2, pts b138 (.cells #[.int .i64 v136.1, .int .i64 v136.2] 44 (0, 0))] := hb184 _ _ hS190
              refine ⟨(asked.cons (RSt.run (n := 122) (RSt.loadObj (t := 3) (k := 1) (v := .int .i64 v136.2) (.tmp 109) (by kernel_rfl) (by kernel_rfl) (by kernel_rfl) 3 hS rfl (by kernel_rfl) rfl rfl)) (asked.anc (by kernel_rfl) (asked.anc (by kernel_rfl) (asked.nil _ _)))), ?_⟩
              refine WD.weaken [1, 8, 11, 63, 64, 65, 103, 104, 105, 106, 107, 108, 109, 110] (L' := [(1, .slice A1 l1.length c1), (8, .pointer (some ⟨b118, 0, none⟩)), (11, .pointer (some ⟨b132, 0, none⟩)), (63, .slice A2 l2.length c2), (64, .int .i64 (l2.length : Int)), (65, .int .i64 x65_l2), (103, .bool false), (104, .pointer (some ⟨b118, 0, none⟩)), (105, .pointer (some ⟨b138, 1, none⟩)), (106, .int .i64 v136.2), (107, .int .i64 r182), (108, .pointer (some ⟨b132, 0, none⟩)), (109, .pointer (some ⟨b138, 1, none⟩)), (110, .int .i64 v136.2)]) (by kernel_rfl) ?_
              obtain ⟨r191, e192, H⟩ := bind_ex H
              refine WD.act (i := 16) (by kernel_rfl) (St.call (by kernel_rfl) (f := 15) (args := #[.pointer (some ⟨b132, 0, none⟩), .int .i64 v136.2]) (by kernel_rfl) (colophonref22_Gate_Live.calls w189 (.pointer (some ⟨b132, 0, none⟩)) (some (r155.2.1, r155.2.2.1, r155.2.2.2)) (P42.mk (y := (r155.2.1, r155.2.2.1, r155.2.2.2)) (Sat.blockAt 1 hS rfl) (rdS.up R169 hS.sub0) (Sat.rdAt 2 hS rfl)) v136.2 r191 e192) ?_)
              rintro _ w198 ⟨rfl, hS199⟩
              have hS : Sat w198 (rf w0) [O49 b118 r146.2, pts b132 (.cells #[.int .i64 r155.2.1, .slice A167 r155.2.2.1.length c168, .slice A170 r155.2.2.2.length c171] 42 (0, 0)), osl 3 (r0 (.int .i64)) 1 A170 c171 r155.2.2.2, pts b138 (.cells #[.int .i64 v136.1, .int .i64 v136.2] 44 (0, 0))] := hS.ext hS199
              refine ⟨(asked.anc (by kernel_rfl) (asked.anc (by kernel_rfl) (asked.anc (by kernel_rfl) (asked.nil _ _)))), ?_⟩
              refine WD.weaken [1, 8, 11, 63, 64, 65, 103, 104, 105, 106, 107, 108, 109, 110, 111] (L' := [(1, .slice A1 l1.length c1), (8, .pointer (some ⟨b118, 0, none⟩)), (11, .pointer (some ⟨b132, 0, none⟩)), (63, .slice A2 l2.length c2), (64, .int .i64 (l2.length : Int)), (65, .int .i64 x65_l2), (103, .bool false), (104, .pointer (some ⟨b118, 0, none⟩)), (105, .pointer (some ⟨b138, 1, none⟩)), (106, .int .i64 v136.2), (107, .int .i64 r182), (108, .pointer (some ⟨b132, 0, none⟩)), (109, .pointer (some ⟨b138, 1, none⟩)), (110, .int .i64 v136.2), (111, .int .i64 r191)]) (by kernel_rfl) ?_
              refine WD.pure (i := 17) (v := .bool (r182 != r191)) (by kernel_rfl) (by kernel_rfl) (fun _ => by kernel_rfl) ?_
              refine WD.weaken [1, 8, 11, 63, 64, 65, 103, 104, 105, 106, 107, 108, 109, 110, 111, 112] (L' := [(1, .slice A1 l1.length c1), (8, .pointer (some ⟨b118, 0, none⟩)), (11, .pointer (some ⟨b132, 0, none⟩)), (63, .slice A2 l2.length c2), (64, .int .i64 (l2.length : Int)), (65, .int .i64 x65_l2), (103, .bool false), (104, .pointer (some ⟨b118, 0, none⟩)), (105, .pointer (some ⟨b138, 1, none⟩)), (106, .int .i64 v136.2), (107, .int .i64 r182), (108, .pointer (some ⟨b132, 0, none⟩)), (109, .pointer (some ⟨b138, 1, none⟩)), (110, .int .i64 v136.2), (111, .int .i64 r191), (112, .bool (r182 != r191))]) (by kernel_rfl) ?_
              refine WD.pure (i := 18) (v := .bool (r182 != r191)) (by kernel_rfl) (by kernel_rfl) (fun _ => by kernel_rfl) ?_
              refine WD.weaken [1, 8, 11, 63, 64, 65, 104, 105, 106, 107, 108, 109, 110, 111, 112, 113] (L' := [(1, .slice A1 l1.length c1), (8, .pointer (some ⟨b118, 0, none⟩)), (11, .pointer (some ⟨b132, 0, none⟩)), (63, .slice A2 l2.length c2), (64, .int .i64 (l2.length : Int)), (65, .int .i64 x65_l2), (104, .pointer (some ⟨b118, 0, none⟩)), (105, .pointer (some ⟨b138, 1, none⟩)), (106, .int .i64 v136.2), (107, .int .i64 r182), (108, .pointer (some ⟨b132, 0, none⟩)), (109, .pointer (some ⟨b138, 1, none⟩)), (110, .int .i64 v136.2), (111, .int .i64 r191), (112, .bool (r182 != r191)), (113, .bool (r182 != r191))]) (by kernel_rfl) ?_
              refine WD.pure (i := 19) (v := .bool (r182 != r191)) (by kernel_rfl) (by kernel_rfl) (fun _ => by kernel_rfl) ?_
              refine WD.weaken [1, 8, 11, 63, 64, 65, 104, 105, 106, 107, 108, 109, 110, 111, 112, 114] (L' := [(1, .slice A1 l1.length c1), (8, .pointer (some ⟨b118, 0, none⟩)), (11, .pointer (some ⟨b132, 0, none⟩)), (63, .slice A2 l2.length c2), (64, .int .i64 (l2.length : Int)), (65, .int .i64 x65_l2), (104, .pointer (some ⟨b118, 0, none⟩)), (105, .pointer (some ⟨b138, 1, none⟩)), (106, .int .i64 v136.2), (107, .int .i64 r182), (108, .pointer (some ⟨b132, 0, none⟩)), (109, .pointer (some ⟨b138, 1, none⟩)), (110, .int .i64 v136.2), (111, .int .i64 r191), (112, .bool (r182 != r191)), (114, .bool (r182 != r191))]) (by kernel_rfl) ?_
              refine WD.split 114 (b := (r182 != r191)) (by kernel_rfl) (fun hb200 => ?_) (fun hb200 => ?_)
              · replace H := ite_t H hb200
                refine WD.weaken [1, 8, 11, 63, 64, 65, 104, 105, 106, 107, 108, 109, 110, 111, 112, 114] (L' := [(1, .slice A1 l1.length c1), (8, .pointer (some ⟨b118, 0, none⟩)), (11, .pointer (some ⟨b132, 0, none⟩)), (63, .slice A2 l2.length c2), (64, .int .i64 (l2.length : Int)), (65, .int .i64 x65_l2), (104, .pointer (some ⟨b118, 0, none⟩)), (105, .pointer (some ⟨b138, 1, none⟩)), (106, .int .i64 v136.2), (107, .int .i64 r182), (108, .pointer (some ⟨b132, 0, none⟩)), (109, .pointer (some ⟨b138, 1, none⟩)), (110, .int .i64 v136.2), (111, .int .i64 r191), (112, .bool (r182 != r191)), (114, .bool true)]) (by kernel_rfl) ?_
                refine WD.skip (i := 20) (by kernel_rfl) (by kernel_rfl) ?_
                refine WD.weaken [1, 8, 11, 63, 64, 65, 104, 105, 106, 107, 108, 109, 110, 111, 112, 114, 115] (L' := [(1, .slice A1 l1.length c1), (8, .pointer (some ⟨b118, 0, none⟩)), (11, .pointer (some ⟨b132, 0, none⟩)), (63, .slice A2 l2.length c2), (64, .int .i64 (l2.length : Int)), (65, .int .i64 x65_l2), (104, .pointer (some ⟨b118, 0, none⟩)), (105, .pointer (some ⟨b138, 1, none⟩)), (106, .int .i64 v136.2), (107, .int .i64 r182), (108, .pointer (some ⟨b132, 0, none⟩)), (109, .pointer (some ⟨b138, 1, none⟩)), (110, .int .i64 v136.2), (111, .int .i64 r191), (112, .bool (r182 != r191)), (114, .bool true), (115, undef)]) (by kernel_rfl) ?_
                refine WD.skip (i := 22) (by kernel_rfl) (by kernel_rfl) ?_
                refine WD.weaken [1, 8, 11, 63, 64, 65, 104, 105, 106, 107, 108, 109, 110, 111, 112, 114, 115, 117] (L' := [(1, .slice A1 l1.length c1), (8, .pointer (some ⟨b118, 0, none⟩)), (11, .pointer (some ⟨b132, 0, none⟩)), (63, .slice A2 l2.length c2), (64, .int .i64 (l2.length : Int)), (65, .int .i64 x65_l2), (104, .pointer (some ⟨b118, 0, none⟩)), (105, .pointer (some ⟨b138, 1, none⟩)), (106, .int .i64 v136.2), (107, .int .i64 r182), (108, .pointer (some ⟨b132, 0, none⟩)), (109, .pointer (some ⟨b138, 1, none⟩)), (110, .int .i64 v136.2), (111, .int .i64 r191), (112, .bool (r182 != r191)), (114, .bool true), (115, undef), (117, undef)]) (by kernel_rfl) ?_
                refine WD.skip (i := 23) (by kernel_rfl) (by kernel_rfl) ?_
                refine WD.weaken [1, 8, 11, 63, 64, 65, 104, 105, 106, 107, 108, 109, 110, 111, 112, 114, 115, 117, 118] (L' := [(1, .slice A1 l1.length c1), (8, .pointer (some ⟨b118, 0, none⟩)), (11, .pointer (some ⟨b132, 0, none⟩)), (63, .slice A2 l2.length c2), (64, .int .i64 (l2.length : Int)), (65, .int .i64 x65_l2), (104, .pointer (some ⟨b118, 0, none⟩)), (105, .pointer (some ⟨b138, 1, none⟩)), (106, .int .i64 v136.2), (107, .int .i64 r182), (108, .pointer (some ⟨b132, 0, none⟩)), (109, .pointer (some ⟨b138, 1, none⟩)), (110, .int .i64 v136.2), (111, .int .i64 r191), (112, .bool (r182 != r191)), (114, .bool true), (115, undef), (117, undef), (118, undef)]) (by kernel_rfl) ?_
                refine WD.skip (i := 21) (by kernel_rfl) (by kernel_rfl) ?_
                refine WD.weaken [1, 8, 11, 63, 64, 65, 104, 105, 106, 107, 108, 109, 110, 111, 112, 114, 115, 116, 117, 118] (L' := [(1, .slice A1 l1.length c1), (8, .pointer (some ⟨b118, 0, none⟩)), (11, .pointer (some ⟨b132, 0, none⟩)), (63, .slice A2 l2.length c2), (64, .int .i64 (l2.length : Int)), (65, .int .i64 x65_l2), (104, .pointer (some ⟨b118, 0, none⟩)), (105, .pointer (some ⟨b138, 1, none⟩)), (106, .int .i64 v136.2), (107, .int .i64 r182), (108, .pointer (some ⟨b132, 0, none⟩)), (109, .pointer (some ⟨b138, 1, none⟩)), (110, .int .i64 v136.2), (111, .int .i64 r191), (112, .bool (r182 != r191)), (114, .bool true), (115, undef), (116, undef), (117, undef), (118, undef)]) (by kernel_rfl) ?_
                refine WD.skip (i := 24) (by kernel_rfl) (by kernel_rfl) ?_
                refine WD.weaken [1, 8, 11, 63, 64, 65, 104, 105, 106, 107, 108, 109, 110, 111, 112, 114, 115, 116, 117, 118, 119] (L' := [(1, .slice A1 l1.length c1), (8, .pointer (some ⟨b118, 0, none⟩)), (11, .pointer (some ⟨b132, 0, none⟩)), (63, .slice A2 l2.length c2), (64, .int .i64 (l2.length : Int)), (65, .int .i64 x65_l2), (104, .pointer (some ⟨b118, 0, none⟩)), (105, .pointer (some ⟨b138, 1, none⟩)), (106, .int .i64 v136.2), (107, .int .i64 r182), (108, .pointer (some ⟨b132, 0, none⟩)), (109, .pointer (some ⟨b138, 1, none⟩)), (110, .int .i64 v136.2), (111, .int .i64 r191), (112, .bool (r182 != r191)), (114, .bool true), (115, undef), (116, undef), (117, undef), (118, undef), (119, undef)]) (by kernel_rfl) ?_
                refine WD.pure (i := 25) (v := .bool true) (by kernel_rfl) (by kernel_rfl) (fun _ => by kernel_rfl) ?_
                refine WD.weaken [1, 8, 11, 63, 64, 65, 104, 105, 106, 107, 108, 109, 110, 111, 112, 115, 116, 117, 118, 119, 120] (L' := [(1, .slice A1 l1.length c1), (8, .pointer (some ⟨b118, 0, none⟩)), (11, .pointer (some ⟨b132, 0, none⟩)), (63, .slice A2 l2.length c2), (64, .int .i64 (l2.length : Int)), (65, .int .i64 x65_l2), (104, .pointer (some ⟨b118, 0, none⟩)), (105, .pointer (some ⟨b138, 1, none⟩)), (106, .int .i64 v136.2), (107, .int .i64 r182), (108, .pointer (some ⟨b132, 0, none⟩)), (109, .pointer (some ⟨b138, 1, none⟩)), (110, .int .i64 v136.2), (111, .int .i64 r191), (112, .bool (r182 != r191)), (115, undef), (116, undef), (117, undef), (118, undef), (119, undef), (120, .bool true)]) (by kernel_rfl) ?_
                refine WD.nil (by kernel_rfl) ?_
                refine At.go ?_
                refine WC.condT (by kernel_rfl) (by kernel_rfl) (by kernel_rfl) ?_
                refine WC.seq (by kernel_rfl) ?_
                refine WC.reg [0] (by kernel_rfl) (by kernel_rfl) ?_
                refine WR.runk [0] [] [6] (L' := [(6, .bool false)]) (w' := w198) (by kernel_rfl) ?_
                refine WR.nil ?_
                refine At.go ?_
                refine WC.ret (by kernel_rfl) ?_
                refine At.blockRet ?_
                refine At.thenRet ?_
                refine At.thenRet ?_
                obtain rfl := Option.some.inj H
                have hS : Sat w198 (rf w0) [pts b132 (.cells #[.int .i64 r155.2.1, .slice A167 r155.2.2.1.length c168, .slice A170 r155.2.2.2.length c171] 42 (0, 0)), osl 3 (r0 (.int .i64)) 1 A170 c171 r155.2.2.2, O49 b118 r146.2, pts b138 (.cells #[.int .i64 v136.1, .int .i64 v136.2] 44 (0, 0))] := hS.sel [1, 2, 0, 3] (by kernel_rfl)
                have hS : Sat w198 (rf w0) [O42r1 (hp w0) b132 r155.2, O49 b118 r146.2, pts b138 (.cells #[.int .i64 v136.1, .int .i64 v136.2] 44 (0, 0))] := O42r1.close (hp w0) r155.2 A167 c168 A170 c171 R169 hS
                have hS : Sat w198 (rf w0) [O49 b118 r146.2, O42r1 (hp w0) b132 r155.2] := hS.sel [1, 0] (by kernel_rfl)
                refine At.weaken [6] (L' := [(6, .bool false)]) (by kernel_rfl) ?_
                exact hn1 (false, r146.2, r155.2) _ rfl hS
              · replace H := ite_f H hb200
                refine WD.weaken [1, 8, 11, 63, 64, 65, 104, 105, 106, 107, 108, 109, 110, 111, 112, 114] (L' := [(1, .slice A1 l1.length c1), (8, .pointer (some ⟨b118, 0, none⟩)), (11, .pointer (some ⟨b132, 0, none⟩)), (63, .slice A2 l2.length c2), (64, .int .i64 (l2.length : Int)), (65, .int .i64 x65_l2), (104, .pointer (some ⟨b118, 0, none⟩)), (105, .pointer (some ⟨b138, 1, none⟩)), (106, .int .i64 v136.2), (107, .int .i64 r182), (108, .pointer (some ⟨b132, 0, none⟩)), (109, .pointer (some ⟨b138, 1, none⟩)), (110, .int .i64 v136.2), (111, .int .i64 r191), (112, .bool (r182 != r191)), (114, .bool false)]) (by kernel_rfl) ?_
                refine WD.pure (i := 20) (v := .pointer (some ⟨b118, 0, none⟩)) (by kernel_rfl) (by kernel_rfl) (fun _ => by kernel_rfl) ?_
                refine WD.weaken [1, 8, 11, 63, 64, 65, 104, 105, 106, 107, 108, 109, 110, 111, 112, 114, 115] (L' := [(1, .slice A1 l1.length c1), (8, .pointer (some ⟨b118, 0, none⟩)), (11, .pointer (some ⟨b132, 0, none⟩)), (63, .slice A2 l2.length c2), (64, .int .i64 (l2.length : Int)), (65, .int .i64 x65_l2), (104, .pointer (some ⟨b118, 0, none⟩)), (105, .pointer (some ⟨b138, 1, none⟩)), (106, .int .i64 v136.2), (107, .int .i64 r182), (108, .pointer (some ⟨b132, 0, none⟩)), (109, .pointer (some ⟨b138, 1, none⟩)), (110, .int .i64 v136.2), (111, .int .i64 r191), (112, .bool (r182 != r191)), (114, .bool false), (115, .pointer (some ⟨b118, 0, none⟩))]) (by kernel_rfl) ?_
                refine WD.pure (i := 22) (v := .slice A1 l1.length c1) (by kernel_rfl) (by kernel_rfl) (fun _ => by kernel_rfl) ?_
                refine WD.weaken [1, 8, 11, 63, 64, 65, 104, 105, 106, 107, 108, 109, 110, 111, 112, 114, 115, 117] (L' := [(1, .slice A1 l1.length c1), (8, .pointer (some ⟨b118, 0, none⟩)), (11, .pointer (some ⟨b132, 0, none⟩)), (63, .slice A2 l2.length c2), (64, .int .i64 (l2.length : Int)), (65, .int .i64 x65_l2), (104, .pointer (some ⟨b118, 0, none⟩)), (105, .pointer (some ⟨b138, 1, none⟩)), (106, .int .i64 v136.2), (107, .int .i64 r182), (108, .pointer (some ⟨b132, 0, none⟩)), (109, .pointer (some ⟨b138, 1, none⟩)), (110, .int .i64 v136.2), (111, .int .i64 r191), (112, .bool (r182 != r191)), (114, .bool false), (115, .pointer (some ⟨b118, 0, none⟩)), (117, .slice A1 l1.length c1)]) (by kernel_rfl) ?_
                refine WD.pure (i := 23) (v := .int .i64 (l1.length : Int)) (by kernel_rfl) (by kernel_rfl) (fun _ => by kernel_rfl) ?_
                refine WD.weaken [1, 8, 11, 63, 64, 65, 104, 105, 106, 107, 108, 109, 110, 111, 112, 114, 115, 117, 118] (L' := [(1, .slice A1 l1.length c1), (8, .pointer (some ⟨b118, 0, none⟩)), (11, .pointer (some ⟨b132, 0, none⟩)), (63, .slice A2 l2.length c2), (64, .int .i64 (l2.length : Int)), (65, .int .i64 x65_l2), (104, .pointer (some ⟨b118, 0, none⟩)), (105, .pointer (some ⟨b138, 1, none⟩)), (106, .int .i64 v136.2), (107, .int .i64 r182), (108, .pointer (some ⟨b132, 0, none⟩)), (109, .pointer (some ⟨b138, 1, none⟩)), (110, .int .i64 v136.2), (111, .int .i64 r191), (112, .bool (r182 != r191)), (114, .bool false), (115, .pointer (some ⟨b118, 0, none⟩)), (117, .slice A1 l1.length c1), (118, .int .i64 (l1.length : Int))]) (by kernel_rfl) ?_
                obtain ⟨r201, e202, H⟩ := bind_ex H
                obtain ⟨B207, hso206, hsub204, hcs205, hb203⟩ := Sat.lend [O49 b118 r146.2] (cs := [pts b132 (.cells #[.int .i64 r155.2.1, .slice A167 r155.2.2.1.length c168, .slice A170 r155.2.2.2.length c171] 42 (0, 0)), osl 3 (r0 (.int .i64)) 1 A170 c171 r155.2.2.2, pts b138 (.cells #[.int .i64 v136.1, .int .i64 v136.2] 44 (0, 0))]) hS
                refine WD.act (i := 21) (by kernel_rfl) (St.call (by kernel_rfl) (f := 16) (args := #[.pointer (some ⟨b118, 0, none⟩)]) (by kernel_rfl) (quota_Gate_Tenants.calls B207 w198 b118 r146.2 hso206  r201 e202) ?_)
                rintro _ w208 ⟨rfl, hS209⟩
                have hS : Sat w208 (rf w0) [O49 b118 r146.2, pts b132 (.cells #[.int .i64 r155.2.1, .slice A167 r155.2.2.1.length c168, .slice A170 r155.2.2.2.length c171] 42 (0, 0)), osl 3 (r0 (.int .i64)) 1 A170 c171 r155.2.2.2, pts b138 (.cells #[.int .i64 v136.1, .int .i64 v136.2] 44 (0, 0))] := hb203 _ _ hS209
                refine ⟨(asked.anc (by kernel_rfl) (asked.anc (by kernel_rfl) (asked.anc (by kernel_rfl) (asked.nil _ _)))), ?_⟩
                refine WD.weaken [1, 8, 11, 63, 64, 65, 104, 105, 106, 107, 108, 109, 110, 111, 112, 114, 115, 116, 117, 118] (L' := [(1, .slice A1 l1.length c1), (8, .pointer (some ⟨b118, 0, none⟩)), (11, .pointer (some ⟨b132, 0, none⟩)), (63, .slice A2 l2.length c2), (64, .int .i64 (l2.length : Int)), (65, .int .i64 x65_l2), (104, .pointer (some ⟨b118, 0, none⟩)), (105, .pointer (some ⟨b138, 1, none⟩)), (106, .int .i64 v136.2), (107, .int .i64 r182), (108, .pointer (some ⟨b132, 0, none⟩)), (109, .pointer (some ⟨b138, 1, none⟩)), (110, .int .i64 v136.2), (111, .int .i64 r191), (112, .bool (r182 != r191)), (114, .bool false), (115, .pointer (some ⟨b118, 0, none⟩)), (116, .int .i64 r201), (117, .slice A1 l1.length c1), (118, .int .i64 (l1.length : Int))]) (by kernel_rfl) ?_
                refine WD.pure (i := 24) (v := .bool (r201 != (l1.length : Int))) (by kernel_rfl) (by kernel_rfl) (fun _ => by kernel_rfl) ?_
                refine WD.weaken [1, 8, 11, 63, 64, 65, 104, 105, 106, 107, 108, 109, 110, 111, 112, 114, 115, 116, 117, 118, 119] (L' := [(1, .slice A1 l1.length c1), (8, .pointer (some ⟨b118, 0, none⟩)), (11, .pointer (some ⟨b132, 0, none⟩)), (63, .slice A2 l2.length c2), (64, .int .i64 (l2.length : Int)), (65, .int .i64 x65_l2), (104, .pointer (some ⟨b118, 0, none⟩)), (105, .pointer (some ⟨b138, 1, none⟩)), (106, .int .i64 v136.2), (107, .int .i64 r182), (108, .pointer (some ⟨b132, 0, none⟩)), (109, .pointer (some ⟨b138, 1, none⟩)), (110, .int .i64 v136.2), (111, .int .i64 r191), (112, .bool (r182 != r191)), (114, .bool false), (115, .pointer (some ⟨b118, 0, none⟩)), (116, .int .i64 r201), (117, .slice A1 l1.length c1), (118, .int .i64 (l1.length : Int)), (119, .bool (r201 != (l1.length : Int)))]) (by kernel_rfl) ?_
                refine WD.pure (i := 25) (v := .bool (r201 != (l1.length : Int))) (by kernel_rfl) (by kernel_rfl) (fun _ => by kernel_rfl) ?_
                refine WD.weaken [1, 8, 11, 63, 64, 65, 104, 105, 106, 107, 108, 109, 110, 111, 112, 115, 116, 117, 118, 119, 120] (L' := [(1, .slice A1 l1.length c1), (8, .pointer (some ⟨b118, 0, none⟩)), (11, .pointer (some ⟨b132, 0, none⟩)), (63, .slice A2 l2.length c2), (64, .int .i64 (l2.length : Int)), (65, .int .i64 x65_l2), (104, .pointer (some ⟨b118, 0, none⟩)), (105, .pointer (some ⟨b138, 1, none⟩)), (106, .int .i64 v136.2), (107, .int .i64 r182), (108, .pointer (some ⟨b132, 0, none⟩)), (109, .pointer (some ⟨b138, 1, none⟩)), (110, .int .i64 v136.2), (111, .int .i64 r191), (112, .bool (r182 != r191)), (115, .pointer (some ⟨b118, 0, none⟩)), (116, .int .i64 r201), (117, .slice A1 l1.length c1), (118, .int .i64 (l1.length : Int)), (119, .bool (r201 != (l1.length : Int))), (120, .bool (r201 != (l1.length : Int)))]) (by kernel_rfl) ?_
                refine WD.nil (by kernel_rfl) ?_
                refine At.go ?_
                refine WC.cond (by kernel_rfl) (r201 != (l1.length : Int)) (by kernel_rfl) (by kernel_rfl) (fun hb210 => ?_) (fun hb210 => ?_)
                · replace H := ite_t H hb210
                  refine WC.seq (by kernel_rfl) ?_
                  refine WC.reg [0] (by kernel_rfl) (by kernel_rfl) ?_
                  refine WR.runk [0] [] [6] (L' := [(6, .bool false)]) (w' := w208) (by kernel_rfl) ?_
                  refine WR.nil ?_
                  refine At.go ?_
                  refine WC.ret (by kernel_rfl) ?_
                  refine At.blockRet ?_
                  refine At.thenRet ?_
                  refine At.thenRet ?_
                  obtain rfl := Option.some.inj H
                  have hS : Sat w208 (rf w0) [pts b132 (.cells #[.int .i64 r155.2.1, .slice A167 r155.2.2.1.length c168, .slice A170 r155.2.2.2.length c171] 42 (0, 0)), osl 3 (r0 (.int .i64)) 1 A170 c171 r155.2.2.2, O49 b118 r146.2, pts b138 (.cells #[.int .i64 v136.1, .int .i64 v136.2] 44 (0, 0))] := hS.sel [1, 2, 0, 3] (by kernel_rfl)
                  have hS : Sat w208 (rf w0) [O42r1 (hp w0) b132 r155.2, O49 b118 r146.2, pts b138 (.cells #[.int .i64 v136.1, .int .i64 v136.2] 44 (0, 0))] := O42r1.close (hp w0) r155.2 A167 c168 A170 c171 R169 hS
                  have hS : Sat w208 (rf w0) [O49 b118 r146.2, O42r1 (hp w0) b132 r155.2] := hS.sel [1, 0] (by kernel_rfl)
                  refine At.weaken [6] (L' := [(6, .bool false)]) (by kernel_rfl) ?_
                  exact hn1 (false, r146.2, r155.2) _ rfl hS
                · replace H := ite_f H hb210
                  refine WC.skip (by kernel_rfl) ?_
                  refine At.blockNormal ?_
                  refine At.go ?_
                  refine WC.reg [0, 1] (by kernel_rfl) (by kernel_rfl) ?_
                  refine WR.runk [0, 1] [] [1, 8, 11, 63, 64, 65, 104, 105, 106, 107, 108, 109, 110, 111, 112, 115, 116, 117, 118] (L' := [(1, .slice A1 l1.length c1), (8, .pointer (some ⟨b118, 0, none⟩)), (11, .pointer (some ⟨b132, 0, none⟩)), (63, .slice A2 l2.length c2), (64, .int .i64 (l2.length : Int)), (65, .int .i64 (wi (x65_l2 + 1))), (104, .pointer (some ⟨b118, 0, none⟩)), (105, .pointer (some ⟨b138, 1, none⟩)), (106, .int .i64 v136.2), (107, .int .i64 r182), (108, .pointer (some ⟨b132, 0, none⟩)), (109, .pointer (some ⟨b138, 1, none⟩)), (110, .int .i64 v136.2), (111, .int .i64 r191), (112, .bool (r182 != r191)), (115, .pointer (some ⟨b118, 0, none⟩)), (116, .int .i64 r201), (117, .slice A1 l1.length c1), (118, .int .i64 (l1.length : Int))]) (w' := w208) (by kernel_rfl) ?_
                  refine WR.nil ?_
                  have hS : Sat w208 (rf w0) [pts b132 (.cells #[.int .i64 r155.2.1, .slice A167 r155.2.2.1.length c168, .slice A170 r155.2.2.2.length c171] 42 (0, 0)), osl 3 (r0 (.int .i64)) 1 A170 c171 r155.2.2.2, O49 b118 r146.2, pts b138 (.cells #[.int .i64 v136.1, .int .i64 v136.2] 44 (0, 0))] := hS.sel [1, 2, 0, 3] (by kernel_rfl)
                  have hS : Sat w208 (rf w0) [O42r1 (hp w0) b132 r155.2, O49 b118 r146.2, pts b138 (.cells #[.int .i64 v136.1, .int .i64 v136.2] 44 (0, 0))] := O42r1.close (hp w0) r155.2 A167 c168 A170 c171 R169 hS
                  have hS : Sat w208 (rf w0) [O49 b118 r146.2, O42r1 (hp w0) b132 r155.2] := hS.sel [1, 0] (by kernel_rfl)
                  refine At.again ?_
                  refine WL.weaken [1, 8, 11, 63, 64, 65] (L' := [(1, .slice A1 l1.length c1), (8, .pointer (some ⟨b118, 0, none⟩)), (11, .pointer (some ⟨b132, 0, none⟩)), (63, .slice A2 l2.length c2), (64, .int .i64 (l2.length : Int)), (65, .int .i64 (wi (x65_l2 + 1)))]) (by kernel_rfl) ?_
                  exact ih (wi (x65_l2 + 1)) r146.2 r155.2 _ hS H
        · replace H := ite_f H hb143
          refine WC.seq (by kernel_rfl) ?_
          refine WC.drawn (by kernel_rfl) (by kernel_rfl) 9 (by kernel_rfl) (fun w211 hw212 => ?_)
          have hS := hS.heap hw212.1 hw212.2
          refine WD.weaken [1, 8, 11, 13, 63, 64, 65] (L' := [(1, .slice A1 l1.length c1), (8, .pointer (some ⟨b118, 0, none⟩)), (11, .pointer (some ⟨b132, 0, none⟩)), (13, .pointer (some ⟨b138, 0, none⟩)), (63, .slice A2 l2.length c2), (64, .int .i64 (l2.length : Int)), (65, .int .i64 x65_l2)]) (by kernel_rfl) ?_
          refine WD.pure (i := 0) (v := .pointer (some ⟨b118, 0, none⟩)) (by kernel_rfl) (by kernel_rfl) (fun _ => by kernel_rfl) ?_
          refine WD.weaken [1, 8, 11, 13, 63, 64, 65, 86] (L' := [(1, .slice A1 l1.length c1), (8, .pointer (some ⟨b118, 0, none⟩)), (11, .pointer (some ⟨b132, 0, none⟩)), (13, .pointer (some ⟨b138, 0, none⟩)), (63, .slice A2 l2.length c2), (64, .int .i64 (l2.length : Int)), (65, .int .i64 x65_l2), (86, .pointer (some ⟨b118, 0, none⟩))]) (by kernel_rfl) ?_
          refine WD.pure (i := 1) (v := .pointer (some ⟨b138, 1, none⟩)) (by kernel_rfl) (by kernel_rfl) (fun _ => by kernel_rfl) ?_
          refine WD.weaken [1, 8, 11, 13, 63, 64, 65, 86, 87] (L' := [(1, .slice A1 l1.length c1), (8, .pointer (some ⟨b118, 0, none⟩)), (11, .pointer (some ⟨b132, 0, none⟩)), (13, .pointer (some ⟨b138, 0, none⟩)), (63, .slice A2 l2.length c2), (64, .int .i64 (l2.length : Int)), (65, .int .i64 x65_l2), (86, .pointer (some ⟨b118, 0, none⟩)), (87, .pointer (some ⟨b138, 1, none⟩))]) (by kernel_rfl) ?_
          refine WD.ofR (i := 2) (by kernel_rfl) (RSt.loadObj (t := 3) (k := 1) (v := .int .i64 v136.2) (.tmp 87) (by kernel_rfl) (by kernel_rfl) (by kernel_rfl) 0 hS rfl (by kernel_rfl) rfl ?_)
          refine WD.weaken [1, 8, 11, 13, 63, 64, 65, 86, 88] (L' := [(1, .slice A1 l1.length c1), (8, .pointer (some ⟨b118, 0, none⟩)), (11, .pointer (some ⟨b132, 0, none⟩)), (13, .pointer (some ⟨b138, 0, none⟩)), (63, .slice A2 l2.length c2), (64, .int .i64 (l2.length : Int)), (65, .int .i64 x65_l2), (86, .pointer (some ⟨b118, 0, none⟩)), (88, .int .i64 v136.2)]) (by kernel_rfl) ?_
          refine WD.pure (i := 4) (v := .pointer (some ⟨b132, 0, none⟩)) (by kernel_rfl) (by kernel_rfl) (fun _ => by kernel_rfl) ?_
          refine WD.weaken [1, 8, 11, 13, 63, 64, 65, 86, 88, 90] (L' := [(1, .slice A1 l1.length c1), (8, .pointer (some ⟨b118, 0, none⟩)), (11, .pointer (some ⟨b132, 0, none⟩)), (13, .pointer (some ⟨b138, 0, none⟩)), (63, .slice A2 l2.length c2), (64, .int .i64 (l2.length : Int)), (65, .int .i64 x65_l2), (86, .pointer (some ⟨b118, 0, none⟩)), (88, .int .i64 v136.2), (90, .pointer (some ⟨b132, 0, none⟩))]) (by kernel_rfl) ?_
          refine WD.pure (i := 5) (v := .pointer (some ⟨b138, 1, none⟩)) (by kernel_rfl) (by kernel_rfl) (fun _ => by kernel_rfl) ?_
          refine WD.weaken [1, 8, 11, 13, 63, 64, 65, 86, 88, 90, 91] (L' := [(1, .slice A1 l1.length c1), (8, .pointer (some ⟨b118, 0, none⟩)), (11, .pointer (some ⟨b132, 0, none⟩)), (13, .pointer (some ⟨b138, 0, none⟩)), (63, .slice A2 l2.length c2), (64, .int .i64 (l2.length : Int)), (65, .int .i64 x65_l2), (86, .pointer (some ⟨b118, 0, none⟩)), (88, .int .i64 v136.2), (90, .pointer (some ⟨b132, 0, none⟩)), (91, .pointer (some ⟨b138, 1, none⟩))]) (by kernel_rfl) ?_
          refine WD.ofR (i := 6) (by kernel_rfl) (RSt.loadObj (t := 3) (k := 1) (v := .int .i64 v136.2) (.tmp 91) (by kernel_rfl) (by kernel_rfl) (by kernel_rfl) 0 hS rfl (by kernel_rfl) rfl ?_)
          refine WD.weaken [1, 8, 11, 13, 63, 64, 65, 86, 88, 90, 92] (L' := [(1, .slice A1 l1.length c1), (8, .pointer (some ⟨b118, 0, none⟩)), (11, .pointer (some ⟨b132, 0, none⟩)), (13, .pointer (some ⟨b138, 0, none⟩)), (63, .slice A2 l2.length c2), (64, .int .i64 (l2.length : Int)), (65, .int .i64 x65_l2), (86, .pointer (some ⟨b118, 0, none⟩)), (88, .int .i64 v136.2), (90, .pointer (some ⟨b132, 0, none⟩)), (92, .int .i64 v136.2)]) (by kernel_rfl) ?_
          have hS : Sat w211 (rf w0) [O49 b118 q119_l2, pts b138 (.cells #[.int .i64 v136.1, .int .i64 v136.2] 44 (0, 0)), O42r1 (hp w0) b132 q134_l2] := hS.sel [1, 0, 2] (by kernel_rfl)
          obtain ⟨r213, e214, H⟩ := bind_ex H
          obtain ⟨B219, hso218, hsub216, hcs217, hb215⟩ := Sat.lend [O49 b118 q119_l2] (cs := [pts b138 (.cells #[.int .i64 v136.1, .int .i64 v136.2] 44 (0, 0)), O42r1 (hp w0) b132 q134_l2]) hS
          refine WD.act (i := 3) (by kernel_rfl) (St.call (by kernel_rfl) (f := 9) (args := #[.pointer (some ⟨b118, 0, none⟩), .int .i64 v136.2]) (by kernel_rfl) (quota_Gate_Leave.calls B219 w211 b118 q119_l2 hso218 v136.2 r213 e214) ?_)
          rintro _ w220 ⟨rfl, hS221⟩
          have hS : Sat w220 (rf w0) [O49 b118 r213.2, pts b138 (.cells #[.int .i64 v136.1, .int .i64 v136.2] 44 (0, 0)), O42r1 (hp w0) b132 q134_l2] := hb215 _ _ hS221
          refine ⟨(asked.cons (RSt.run (n := 122) (RSt.loadObj (t := 3) (k := 1) (v := .int .i64 v136.2) (.tmp 91) (by kernel_rfl) (by kernel_rfl) (by kernel_rfl) 1 hS rfl (by kernel_rfl) rfl rfl)) (asked.anc (by kernel_rfl) (asked.nil _ _))), ?_⟩
          refine WD.weaken [1, 8, 11, 13, 63, 64, 65, 89, 90, 92] (L' := [(1, .slice A1 l1.length c1), (8, .pointer (some ⟨b118, 0, none⟩)), (11, .pointer (some ⟨b132, 0, none⟩)), (13, .pointer (some ⟨b138, 0, none⟩)), (63, .slice A2 l2.length c2), (64, .int .i64 (l2.length : Int)), (65, .int .i64 x65_l2), (89, .bool r213.1), (90, .pointer (some ⟨b132, 0, none⟩)), (92, .int .i64 v136.2)]) (by kernel_rfl) ?_
          have hS : Sat w220 (rf w0) [O42r1 (hp w0) b132 q134_l2, O49 b118 r213.2, pts b138 (.cells #[.int .i64 v136.1, .int .i64 v136.2] 44 (0, 0))] := hS.sel [2, 0, 1] (by kernel_rfl)
          obtain ⟨r222, e223, H⟩ := bind_ex H
          obtain ⟨B228, hso227, hsub225, hcs226, hb224⟩ := Sat.lend [O42r1 (hp w0) b132 q134_l2] (cs := [O49 b118 r213.2, pts b138 (.cells #[.int .i64 v136.1, .int .i64 v136.2] 44 (0, 0))]) hS
          refine WD.act (i := 7) (by kernel_rfl) (St.call (by kernel_rfl) (f := 14) (args := #[.pointer (some ⟨b132, 0, none⟩), .int .i64 v136.2]) (by kernel_rfl) (colophonref22_Gate_Leave_r0_1.calls B228 w220 b132 q134_l2 (hp w0) hsub225 hso227 v136.2 r222 e223) ?_)
          rintro _ w229 ⟨rfl, hS230⟩
          have hS : Sat w229 (rf w0) [O42r1 (hp w0) b132 r222.2, O49 b118 r213.2, pts b138 (.cells #[.int .i64 v136.1, .int .i64 v136.2] 44 (0, 0))] := hb224 _ _ hS230
          refine ⟨(asked.anc (by kernel_rfl) (asked.anc (by kernel_rfl) (asked.nil _ _))), ?_⟩
          refine WD.weaken [1, 8, 11, 13, 63, 64, 65, 89, 93] (L' := [(1, .slice A1 l1.length c1), (8, .pointer (some ⟨b118, 0, none⟩)), (11, .pointer (some ⟨b132, 0, none⟩)), (13, .pointer (some ⟨b138, 0, none⟩)), (63, .slice A2 l2.length c2), (64, .int .i64 (l2.length : Int)), (65, .int .i64 x65_l2), (89, .bool r213.1), (93, .bool r222.1)]) (by kernel_rfl) ?_
          refine WD.pure (i := 8) (v := .bool (r213.1 != r222.1)) (by kernel_rfl) (by kernel_rfl) (fun _ => by kernel_rfl) ?_
          refine WD.weaken [1, 8, 11, 13, 63, 64, 65, 94] (L' := [(1, .slice A1 l1.length c1), (8, .pointer (some ⟨b118, 0, none⟩)), (11, .pointer (some ⟨b132, 0, none⟩)), (13, .pointer (some ⟨b138, 0, none⟩)), (63, .slice A2 l2.length c2), (64, .int .i64 (l2.length : Int)), (65, .int .i64 x65_l2), (94, .bool (r213.1 != r222.1))]) (by kernel_rfl) ?_
          refine WD.nil (by kernel_rfl) ?_
          refine At.go ?_
          refine WC.cond (by kernel_rfl) (r213.1 != r222.1) (by kernel_rfl) (by kernel_rfl) (fun hb231 => ?_) (fun hb231 => ?_)
          · replace H := ite_t H hb231
            refine WC.seq (by kernel_rfl) ?_
            refine WC.reg [0] (by kernel_rfl) (by kernel_rfl) ?_
            refine WR.runk [0] [] [6] (L' := [(6, .bool false)]) (w' := w229) (by kernel_rfl) ?_
            refine WR.nil ?_
            refine At.go ?_
            refine WC.ret (by kernel_rfl) ?_
            refine At.thenRet ?_
            refine At.blockRet ?_
            refine At.thenRet ?_
            refine At.thenRet ?_
            obtain rfl := Option.some.inj H
            have hS : Sat w229 (rf w0) [O49 b118 r213.2, O42r1 (hp w0) b132 r222.2] := hS.sel [1, 0] (by kernel_rfl)
            refine At.weaken [6] (L' := [(6, .bool false)]) (by kernel_rfl) ?_
            exact hn1 (false, r213.2, r222.2) _ rfl hS
          · replace H := ite_f H hb231
            refine WC.skip (by kernel_rfl) ?_
            refine At.go ?_
            refine WC.seq (by kernel_rfl) ?_
            refine WC.drawn (by kernel_rfl) (by kernel_rfl) 26 (by kernel_rfl) (fun w232 hw233 => ?_)
            have hS := hS.heap hw233.1 hw233.2
            refine WD.weaken [1, 8, 11, 13, 63, 64, 65] (L' := [(1, .slice A1 l1.length c1), (8, .pointer (some ⟨b118, 0, none⟩)), (11, .pointer (some ⟨b132, 0, none⟩)), (13, .pointer (some ⟨b138, 0, none⟩)), (63, .slice A2 l2.length c2), (64, .int .i64 (l2.length : Int)), (65, .int .i64 x65_l2)]) (by kernel_rfl) ?_
            refine WD.pure (i := 0) (v := .pointer (some ⟨b118, 0, none⟩)) (by kernel_rfl) (by kernel_rfl) (fun _ => by kernel_rfl) ?_
            refine WD.weaken [1, 8, 11, 13, 63, 64, 65, 95] (L' := [(1, .slice A1 l1.length c1), (8, .pointer (some ⟨b118, 0, none⟩)), (11, .pointer (some ⟨b132, 0, none⟩)), (13, .pointer (some ⟨b138, 0, none⟩)), (63, .slice A2 l2.length c2), (64, .int .i64 (l2.length : Int)), (65, .int .i64 x65_l2), (95, .pointer (some ⟨b118, 0, none⟩))]) (by kernel_rfl) ?_
            refine WD.pure (i := 2) (v := .pointer (some ⟨b132, 0, none⟩)) (by kernel_rfl) (by kernel_rfl) (fun _ => by kernel_rfl) ?_
            refine WD.weaken [1, 8, 11, 13, 63, 64, 65, 95, 97] (L' := [(1, .slice A1 l1.length c1), (8, .pointer (some ⟨b118, 0, none⟩)), (11, .pointer (some ⟨b132, 0, none⟩)), (13, .pointer (some ⟨b138, 0, none⟩)), (63, .slice A2 l2.length c2), (64, .int .i64 (l2.length : Int)), (65, .int .i64 x65_l2), (95, .pointer (some ⟨b118, 0, none⟩)), (97, .pointer (some ⟨b132, 0, none⟩))]) (by kernel_rfl) ?_
            refine WD.pure (i := 3) (v := .pointer (some ⟨b132, 0, none⟩)) (by kernel_rfl) (by kernel_rfl) (fun _ => by kernel_rfl) ?_
            refine WD.weaken [1, 8, 11, 13, 63, 64, 65, 95, 98] (L' := [(1, .slice A1 l1.length c1), (8, .pointer (some ⟨b118, 0, none⟩)), (11, .pointer (some ⟨b132, 0, none⟩)), (13, .pointer (some ⟨b138, 0, none⟩)), (63, .slice A2 l2.length c2), (64, .int .i64 (l2.length : Int)), (65, .int .i64 x65_l2), (95, .pointer (some ⟨b118, 0, none⟩)), (98, .pointer (some ⟨b132, 0, none⟩))]) (by kernel_rfl) ?_
            refine WD.pure (i := 4) (v := .pointer (some ⟨b132, 2, none⟩)) (by kernel_rfl) (by kernel_rfl) (fun _ => by kernel_rfl) ?_
            refine WD.weaken [1, 8, 11, 13, 63, 64, 65, 95, 99] (L' := [(1, .slice A1 l1.length c1), (8, .pointer (some ⟨b118, 0, none⟩)), (11, .pointer (some ⟨b132, 0, none⟩)), (13, .pointer (some ⟨b138, 0, none⟩)), (63, .slice A2 l2.length c2), (64, .int .i64 (l2.length : Int)), (65, .int .i64 x65_l2), (95, .pointer (some ⟨b118, 0, none⟩)), (99, .pointer (some ⟨b132, 2, none⟩))]) (by kernel_rfl) ?_
            obtain ⟨A234, c235, A237, c238, R236, hS⟩ := O42r1.open hS
            replace R236 : rdS (r0 (.pair (.int .i64) (.int .i64))) 2 (hp w0) A234 c235 r222.2.2.1 := R236
            have hS : Sat w232 (rf w0) [pts b132 (.cells #[.int .i64 r222.2.1, .slice A234 r222.2.2.1.length c235, .slice A237 r222.2.2.2.length c238] 42 (0, 0)), osl 3 (r0 (.int .i64)) 1 A237 c238 r222.2.2.2, O49 b118 r213.2, pts b138 (.cells #[.int .i64 v136.1, .int .i64 v136.2] 44 (0, 0))] := hS
            refine WD.ofR (i := 5) (by kernel_rfl) (RSt.loadObj (t := 23) (k := 2) (v := .slice A237 r222.2.2.2.length c238) (.tmp 99) (by kernel_rfl) (by kernel_rfl) (by kernel_rfl) 0 hS rfl (by kernel_rfl) rfl ?_)
            refine WD.weaken [1, 8, 11, 13, 63, 64, 65, 95, 100] (L' := [(1, .slice A1 l1.length c1), (8, .pointer (some ⟨b118, 0, none⟩)), (11, .pointer (some ⟨b132, 0, none⟩)), (13, .pointer (some ⟨b138, 0, none⟩)), (63, .slice A2 l2.length c2), (64, .int .i64 (l2.length : Int)), (65, .int .i64 x65_l2), (95, .pointer (some ⟨b118, 0, none⟩)), (100, .slice A237 r222.2.2.2.length c238)]) (by kernel_rfl) ?_
            refine WD.pure (i := 6) (v := .int .i64 (r222.2.2.2.length : Int)) (by kernel_rfl) (by kernel_rfl) (fun _ => by kernel_rfl) ?_
            refine WD.weaken [1, 8, 11, 13, 63, 64, 65, 95, 101] (L' := [(1, .slice A1 l1.length c1), (8, .pointer (some ⟨b118, 0, none⟩)), (11, .pointer (some ⟨b132, 0, none⟩)), (13, .pointer (some ⟨b138, 0, none⟩)), (63, .slice A2 l2.length c2), (64, .int .i64 (l2.length : Int)), (65, .int .i64 x65_l2), (95, .pointer (some ⟨b118, 0, none⟩)), (101, .int .i64 (r222.2.2.2.length : Int))]) (by kernel_rfl) ?_
            have hS : Sat w232 (rf w0) [O49 b118 r213.2, pts b132 (.cells #[.int .i64 r222.2.1, .slice A234 r222.2.2.1.length c235, .slice A237 r222.2.2.2.length c238] 42 (0, 0)), osl 3 (r0 (.int .i64)) 1 A237 c238 r222.2.2.2, pts b138 (.cells #[.int .i64 v136.1, .int .i64 v136.2] 44 (0, 0))] := hS.sel [2, 0, 1, 3] (by kernel_rfl)
            obtain ⟨r239, e240, H⟩ := bind_ex H
            obtain ⟨B245, hso244, hsub242, hcs243, hb241⟩ := Sat.lend [O49 b118 r213.2] (cs := [pts b132 (.cells #[.int .i64 r222.2.1, .slice A234 r222.2.2.1.length c235, .slice A237 r222.2.2.2.length c238] 42 (0, 0)), osl 3 (r0 (.int .i64)) 1 A237 c238 r222.2.2.2, pts b138 (.cells #[.int .i64 v136.1, .int .i64 v136.2] 44 (0, 0))]) hS
            refine WD.act (i := 1) (by kernel_rfl) (St.call (by kernel_rfl) (f := 8) (args := #[.pointer (some ⟨b118, 0, none⟩)]) (by kernel_rfl) (quota_Gate_All.calls B245 w232 b118 r213.2 hso244  r239 e240) ?_)
            rintro _ w246 ⟨rfl, hS247⟩
            have hS : Sat w246 (rf w0) [O49 b118 r213.2, pts b132 (.cells #[.int .i64 r222.2.1, .slice A234 r222.2.2.1.length c235, .slice A237 r222.2.2.2.length c238] 42 (0, 0)), osl 3 (r0 (.int .i64)) 1 A237 c238 r222.2.2.2, pts b138 (.cells #[.int .i64 v136.1, .int .i64 v136.2] 44 (0, 0))] := hb241 _ _ hS247
            refine ⟨(asked.cons (RSt.run (n := 122) (RSt.loadObj (t := 23) (k := 2) (v := .slice A237 r222.2.2.2.length c238) (.tmp 99) (by kernel_rfl) (by kernel_rfl) (by kernel_rfl) 1 hS rfl (by kernel_rfl) rfl rfl)) (asked.nil _ _)), ?_⟩
            refine WD.weaken [1, 8, 11, 13, 63, 64, 65, 96, 101] (L' := [(1, .slice A1 l1.length c1), (8, .pointer (some ⟨b118, 0, none⟩)), (11, .pointer (some ⟨b132, 0, none⟩)), (13, .pointer (some ⟨b138, 0, none⟩)), (63, .slice A2 l2.length c2), (64, .int .i64 (l2.length : Int)), (65, .int .i64 x65_l2), (96, .int .i64 r239), (101, .int .i64 (r222.2.2.2.length : Int))]) (by kernel_rfl) ?_
            refine WD.pure (i := 7) (v := .bool (r239 != (r222.2.2.2.length : Int))) (by kernel_rfl) (by kernel_rfl) (fun _ => by kernel_rfl) ?_
            refine WD.weaken [1, 8, 11, 13, 63, 64, 65, 102] (L' := [(1, .slice A1 l1.length c1), (8, .pointer (some ⟨b118, 0, none⟩)), (11, .pointer (some ⟨b132, 0, none⟩)), (13, .pointer (some ⟨b138, 0, none⟩)), (63, .slice A2 l2.length c2), (64, .int .i64 (l2.length : Int)), (65, .int .i64 x65_l2), (102, .bool (r239 != (r222.2.2.2.length : Int)))]) (by kernel_rfl) ?_
            refine WD.pure (i := 8) (v := .bool (r239 != (r222.2.2.2.length : Int))) (by kernel_rfl) (by kernel_rfl) (fun _ => by kernel_rfl) ?_
            refine WD.weaken [1, 8, 11, 13, 63, 64, 65, 103] (L' := [(1, .slice A1 l1.length c1), (8, .pointer (some ⟨b118, 0, none⟩)), (11, .pointer (some ⟨b132, 0, none⟩)), (13, .pointer (some ⟨b138, 0, none⟩)), (63, .slice A2 l2.length c2), (64, .int .i64 (l2.length : Int)), (65, .int .i64 x65_l2), (103, .bool (r239 != (r222.2.2.2.length : Int)))]) (by kernel_rfl) ?_
            refine WD.split 103 (b := (r239 != (r222.2.2.2.length : Int))) (by kernel_rfl) (fun hb248 => ?_) (fun hb248 => ?_)
            · replace H := ite_t H hb248
              refine WD.weaken [1, 8, 11, 13, 63, 64, 65, 103] (L' := [(1, .slice A1 l1.length c1), (8, .pointer (some ⟨b118, 0, none⟩)), (11, .pointer (some ⟨b132, 0, none⟩)), (13, .pointer (some ⟨b138, 0, none⟩)), (63, .slice A2 l2.length c2), (64, .int .i64 (l2.length : Int)), (65, .int .i64 x65_l2), (103, .bool true)]) (by kernel_rfl) ?_
              refine WD.skip (i := 9) (by kernel_rfl) (by kernel_rfl) ?_
              refine WD.weaken [1, 8, 11, 13, 63, 64, 65, 103, 104] (L' := [(1, .slice A1 l1.length c1), (8, .pointer (some ⟨b118, 0, none⟩)), (11, .pointer (some ⟨b132, 0, none⟩)), (13, .pointer (some ⟨b138, 0, none⟩)), (63, .slice A2 l2.length c2), (64, .int .i64 (l2.length : Int)), (65, .int .i64 x65_l2), (103, .bool true), (104, undef)]) (by kernel_rfl) ?_
              refine WD.skip (i := 10) (by kernel_rfl) (by kernel_rfl) ?_
              refine WD.weaken [1, 8, 11, 13, 63, 64, 65, 103, 104, 105] (L' := [(1, .slice A1 l1.length c1), (8, .pointer (some ⟨b118, 0, none⟩)), (11, .pointer (some ⟨b132, 0, none⟩)), (13, .pointer (some ⟨b138, 0, none⟩)), (63, .slice A2 l2.length c2), (64, .int .i64 (l2.length : Int)), (65, .int .i64 x65_l2), (103, .bool true), (104, undef), (105, undef)]) (by kernel_rfl) ?_
              refine WD.skip (i := 11) (by kernel_rfl) (by kernel_rfl) ?_
              refine WD.weaken [1, 8, 11, 13, 63, 64, 65, 103, 104, 105, 106] (L' := [(1, .slice A1 l1.length c1), (8, .pointer (some ⟨b118, 0, none⟩)), (11, .pointer (some ⟨b132, 0, none⟩)), (13, .pointer (some ⟨b138, 0, none⟩)), (63, .slice A2 l2.length c2), (64, .int .i64 (l2.length : Int)), (65, .int .i64 x65_l2), (103, .bool true), (104, undef), (105, undef), (106, undef)]) (by kernel_rfl) ?_
              refine WD.skip (i := 13) (by kernel_rfl) (by kernel_rfl) ?_
              refine WD.weaken [1, 8, 11, 13, 63, 64, 65, 103, 104, 105, 106, 108] (L' := [(1, .slice A1 l1.length c1), (8, .pointer (some ⟨b118, 0, none⟩)), (11, .pointer (some ⟨b132, 0, none⟩)), (13, .pointer (some ⟨b138, 0, none⟩)), (63, .slice A2 l2.length c2), (64, .int .i64 (l2.length : Int)), (65, .int .i64 x65_l2), (103, .bool true), (104, undef), (105, undef), (106, undef), (108, undef)]) (by kernel_rfl) ?_
              refine WD.skip (i := 14) (by kernel_rfl) (by kernel_rfl) ?_
              refine WD.weaken [1, 8, 11, 63, 64, 65, 103, 104, 105, 106, 108, 109] (L' := [(1, .slice A1 l1.length c1), (8, .pointer (some ⟨b118, 0, none⟩)), (11, .pointer (some ⟨b132, 0, none⟩)), (63, .slice A2 l2.length c2), (64, .int .i64 (l2.length : Int)), (65, .int .i64 x65_l2), (103, .bool true), (104, undef), (105, undef), (106, undef), (108, undef), (109, undef)]) (by kernel_rfl) ?_
              refine WD.skip (i := 15) (by kernel_rfl) (by kernel_rfl) ?_
              refine WD.weaken [1, 8, 11, 63, 64, 65, 103, 104, 105, 106, 108, 109, 110] (L' := [(1, .slice A1 l1.length c1), (8, .pointer (some ⟨b118, 0, none⟩)), (11, .pointer (some ⟨b132, 0, none⟩)), (63, .slice A2 l2.length c2), (64, .int .i64 (l2.length : Int)), (65, .int .i64 x65_l2), (103, .bool true), (104, undef), (105, undef), (106, undef), (108, undef), (109, undef), (110, undef)]) (by kernel_rfl) ?_
              refine WD.skip (i := 12) (by kernel_rfl) (by kernel_rfl) ?_
              refine WD.weaken [1, 8, 11, 63, 64, 65, 103, 104, 105, 106, 107, 108, 109, 110] (L' := [(1, .slice A1 l1.length c1), (8, .pointer (some ⟨b118, 0, none⟩)), (11, .pointer (some ⟨b132, 0, none⟩)), (63, .slice A2 l2.length c2), (64, .int .i64 (l2.length : Int)), (65, .int .i64 x65_l2), (103, .bool true), (104, undef), (105, undef), (106, undef), (107, undef), (108, undef), (109, undef), (110, undef)]) (by kernel_rfl) ?_
              refine WD.skip (i := 16) (by kernel_rfl) (by kernel_rfl) ?_
              refine WD.weaken [1, 8, 11, 63, 64, 65, 103, 104, 105, 106, 107, 108, 109, 110, 111] (L' := [(1, .slice A1 l1.length c1), (8, .pointer (some ⟨b118, 0, none⟩)), (11, .pointer (some ⟨b132, 0, none⟩)), (63, .slice A2 l2.length c2), (64, .int .i64 (l2.length : Int)), (65, .int .i64 x65_l2), (103, .bool true), (104, undef), (105, undef), (106, undef), (107, undef), (108, undef), (109, undef), (110, undef), (111, undef)]) (by kernel_rfl) ?_
              refine WD.skip (i := 17) (by kernel_rfl) (by kernel_rfl) ?_
              refine WD.weaken [1, 8, 11, 63, 64, 65, 103, 104, 105, 106, 107, 108, 109, 110, 111, 112] (L' := [(1, .slice A1 l1.length c1), (8, .pointer (some ⟨b118, 0, none⟩)), (11, .pointer (some ⟨b132, 0, none⟩)), (63, .slice A2 l2.length c2), (64, .int .i64 (l2.length : Int)), (65, .int .i64 x65_l2), (103, .bool true), (104, undef), (105, undef), (106, undef), (107, undef), (108, undef), (109, undef), (110, undef), (111, undef), (112, undef)]) (by kernel_rfl) ?_
              refine WD.pure (i := 18) (v := .bool true) (by kernel_rfl) (by kernel_rfl) (fun _ => by kernel_rfl) ?_
              refine WD.weaken [1, 8, 11, 63, 64, 65, 104, 105, 106, 107, 108, 109, 110, 111, 112, 113] (L' := [(1, .slice A1 l1.length c1), (8, .pointer (some ⟨b118, 0, none⟩)), (11, .pointer (some ⟨b132, 0, none⟩)), (63, .slice A2 l2.length c2), (64, .int .i64 (l2.length : Int)), (65, .int .i64 x65_l2), (104, undef), (105, undef), (106, undef), (107, undef), (108, undef), (109, undef), (110, undef), (111, undef), (112, undef), (113, .bool true)]) (by kernel_rfl) ?_
              refine WD.pure (i := 19) (v := .bool true) (by kernel_rfl) (by kernel_rfl) (fun _ => by kernel_rfl) ?_
              refine WD.weaken [1, 8, 11, 63, 64, 65, 104, 105, 106, 107, 108, 109, 110, 111, 112, 114] (L' := [(1, .slice A1 l1.length c1), (8, .pointer (some ⟨b118, 0, none⟩)), (11, .pointer (some ⟨b132, 0, none⟩)), (63, .slice A2 l2.length c2), (64, .int .i64 (l2.length : Int)), (65, .int .i64 x65_l2), (104, undef), (105, undef), (106, undef), (107, undef), (108, undef), (109, undef), (110, undef), (111, undef), (112, undef), (114, .bool true)]) (by kernel_rfl) ?_
              refine WD.skip (i := 20) (by kernel_rfl) (by kernel_rfl) ?_
              refine WD.weaken [1, 8, 11, 63, 64, 65, 104, 105, 106, 107, 108, 109, 110, 111, 112, 114, 115] (L' := [(1, .slice A1 l1.length c1), (8, .pointer (some ⟨b118, 0, none⟩)), (11, .pointer (some ⟨b132, 0, none⟩)), (63, .slice A2 l2.length c2), (64, .int .i64 (l2.length : Int)), (65, .int .i64 x65_l2), (104, undef), (105, undef), (106, undef), (107, undef), (108, undef), (109, undef), (110, undef), (111, undef), (112, undef), (114, .bool true), (115, undef)]) (by kernel_rfl) ?_
              refine WD.skip (i := 22) (by kernel_rfl) (by kernel_rfl) ?_
              refine WD.weaken [1, 8, 11, 63, 64, 65, 104, 105, 106, 107, 108, 109, 110, 111, 112, 114, 115, 117] (L' := [(1, .slice A1 l1.length c1), (8, .pointer (some ⟨b118, 0, none⟩)), (11, .pointer (some ⟨b132, 0, none⟩)), (63, .slice A2 l2.length c2), (64, .int .i64 (l2.length : Int)), (65, .int .i64 x65_l2), (104, undef), (105, undef), (106, undef), (107, undef), (108, undef), (109, undef), (110, undef), (111, undef), (112, undef), (114, .bool true), (115, undef), (117, undef)]) (by kernel_rfl) ?_
              refine WD.skip (i := 23) (by kernel_rfl) (by kernel_rfl) ?_
              refine WD.weaken [1, 8, 11, 63, 64, 65, 104, 105, 106, 107, 108, 109, 110, 111, 112, 114, 115, 117, 118] (L' := [(1, .slice A1 l1.length c1), (8, .pointer (some ⟨b118, 0, none⟩)), (11, .pointer (some ⟨b132, 0, none⟩)), (63, .slice A2 l2.length c2), (64, .int .i64 (l2.length : Int)), (65, .int .i64 x65_l2), (104, undef), (105, undef), (106, undef), (107, undef), (108, undef), (109, undef), (110, undef), (111, undef), (112, undef), (114, .bool true), (115, undef), (117, undef), (118, undef)]) (by kernel_rfl) ?_
              refine WD.skip (i := 21) (by kernel_rfl) (by kernel_rfl) ?_
              refine WD.weaken [1, 8, 11, 63, 64, 65, 104, 105, 106, 107, 108, 109, 110, 111, 112, 114, 115, 116, 117, 118] (L' := [(1, .slice A1 l1.length c1), (8, .pointer (some ⟨b118, 0, none⟩)), (11, .pointer (some ⟨b132, 0, none⟩)), (63, .slice A2 l2.length c2), (64, .int .i64 (l2.length : Int)), (65, .int .i64 x65_l2), (104, undef), (105, undef), (106, undef), (107, undef), (108, undef), (109, undef), (110, undef), (111, undef), (112, undef), (114, .bool true), (115, undef), (116, undef), (117, undef), (118, undef)]) (by kernel_rfl) ?_
              refine WD.skip (i := 24) (by kernel_rfl) (by kernel_rfl) ?_
              refine WD.weaken [1, 8, 11, 63, 64, 65, 104, 105, 106, 107, 108, 109, 110, 111, 112, 114, 115, 116, 117, 118, 119] (L' := [(1, .slice A1 l1.length c1), (8, .pointer (some ⟨b118, 0, none⟩)), (11, .pointer (some ⟨b132, 0, none⟩)), (63, .slice A2 l2.length c2), (64, .int .i64 (l2.length : Int)), (65, .int .i64 x65_l2), (104, undef), (105, undef), (106, undef), (107, undef), (108, undef), (109, undef), (110, undef), (111, undef), (112, undef), (114, .bool true), (115, undef), (116, undef), (117, undef), (118, undef), (119, undef)]) (by kernel_rfl) ?_
              refine WD.pure (i := 25) (v := .bool true) (by kernel_rfl) (by kernel_rfl) (fun _ => by kernel_rfl) ?_
              refine WD.weaken [1, 8, 11, 63, 64, 65, 104, 105, 106, 107, 108, 109, 110, 111, 112, 115, 116, 117, 118, 119, 120] (L' := [(1, .slice A1 l1.length c1), (8, .pointer (some ⟨b118, 0, none⟩)), (11, .pointer (some ⟨b132, 0, none⟩)), (63, .slice A2 l2.length c2), (64, .int .i64 (l2.length : Int)), (65, .int .i64 x65_l2), (104, undef), (105, undef), (106, undef), (107, undef), (108, undef), (109, undef), (110, undef), (111, undef), (112, undef), (115, undef), (116, undef), (117, undef), (118, undef), (119, undef), (120, .bool true)]) (by kernel_rfl) ?_
              refine WD.nil (by kernel_rfl) ?_
              refine At.go ?_
              refine WC.condT (by kernel_rfl) (by kernel_rfl) (by kernel_rfl) ?_
              refine WC.seq (by kernel_rfl) ?_
              refine WC.reg [0] (by kernel_rfl) (by kernel_rfl) ?_
              refine WR.runk [0] [] [6] (L' := [(6, .bool false)]) (w' := w246) (by kernel_rfl) ?_
              refine WR.nil ?_
              refine At.go ?_
              refine WC.ret (by kernel_rfl) ?_
              refine At.blockRet ?_
              refine At.thenRet ?_
              refine At.thenRet ?_
              obtain rfl := Option.some.inj H
              have hS : Sat w246 (rf w0) [pts b132 (.cells #[.int .i64 r222.2.1, .slice A234 r222.2.2.1.length c235, .slice A237 r222.2.2.2.length c238] 42 (0, 0)), osl 3 (r0 (.int .i64)) 1 A237 c238 r222.2.2.2, O49 b118 r213.2, pts b138 (.cells #[.int .i64 v136.1, .int .i64 v136.2] 44 (0, 0))] := hS.sel [1, 2, 0, 3] (by kernel_rfl)
              have hS : Sat w246 (rf w0) [O42r1 (hp w0) b132 r222.2, O49 b118 r213.2, pts b138 (.cells #[.int .i64 v136.1, .int .i64 v136.2] 44 (0, 0))] := O42r1.close (hp w0) r222.2 A234 c235 A237 c238 R236 hS
              have hS : Sat w246 (rf w0) [O49 b118 r213.2, O42r1 (hp w0) b132 r222.2] := hS.sel [1, 0] (by kernel_rfl)
              refine At.weaken [6] (L' := [(6, .bool false)]) (by kernel_rfl) ?_
              exact hn1 (false, r213.2, r222.2) _ rfl hS
            · replace H := ite_f H hb248
              refine WD.weaken [1, 8, 11, 13, 63, 64, 65, 103] (L' := [(1, .slice A1 l1.length c1), (8, .pointer (some ⟨b118, 0, none⟩)), (11, .pointer (some ⟨b132, 0, none⟩)), (13, .pointer (some ⟨b138, 0, none⟩)), (63, .slice A2 l2.length c2), (64, .int .i64 (l2.length : Int)), (65, .int .i64 x65_l2), (103, .bool false)]) (by kernel_rfl) ?_
              refine WD.pure (i := 9) (v := .pointer (some ⟨b118, 0, none⟩)) (by kernel_rfl) (by kernel_rfl) (fun _ => by kernel_rfl) ?_
              refine WD.weaken [1, 8, 11, 13, 63, 64, 65, 103, 104] (L' := [(1, .slice A1 l1.length c1), (8, .pointer (some ⟨b118, 0, none⟩)), (11, .pointer (some ⟨b132, 0, none⟩)), (13, .pointer (some ⟨b138, 0, none⟩)), (63, .slice A2 l2.length c2), (64, .int .i64 (l2.length : Int)), (65, .int .i64 x65_l2), (103, .bool false), (104, .pointer (some ⟨b118, 0, none⟩))]) (by kernel_rfl) ?_
              refine WD.pure (i := 10) (v := .pointer (some ⟨b138, 1, none⟩)) (by kernel_rfl) (by kernel_rfl) (fun _ => by kernel_rfl) ?_
              refine WD.weaken [1, 8, 11, 13, 63, 64, 65, 103, 104, 105] (L' := [(1, .slice A1 l1.length c1), (8, .pointer (some ⟨b118, 0, none⟩)), (11, .pointer (some ⟨b132, 0, none⟩)), (13, .pointer (some ⟨b138, 0, none⟩)), (63, .slice A2 l2.length c2), (64, .int .i64 (l2.length : Int)), (65, .int .i64 x65_l2), (103, .bool false), (104, .pointer (some ⟨b118, 0, none⟩)), (105, .pointer (some ⟨b138, 1, none⟩))]) (by kernel_rfl) ?_
              refine WD.ofR (i := 11) (by kernel_rfl) (RSt.loadObj (t := 3) (k := 1) (v := .int .i64 v136.2) (.tmp 105) (by kernel_rfl) (by kernel_rfl) (by kernel_rfl) 3 hS rfl (by kernel_rfl) rfl ?_)
              refine WD.weaken [1, 8, 11, 13, 63, 64, 65, 103, 104, 105, 106] (L' := [(1, .slice A1 l1.length c1), (8, .pointer (some ⟨b118, 0, none⟩)), (11, .pointer (some ⟨b132, 0, none⟩)), (13, .pointer (some ⟨b138, 0, none⟩)), (63, .slice A2 l2.length c2), (64, .int .i64 (l2.length : Int)), (65, .int .i64 x65_l2), (103, .bool false), (104, .pointer (some ⟨b118, 0, none⟩)), (105, .pointer (some ⟨b138, 1, none⟩)), (106, .int .i64 v136.2)]) (by kernel_rfl) ?_
              refine WD.pure (i := 13) (v := .pointer (some ⟨b132, 0, none⟩)) (by kernel_rfl) (by kernel_rfl) (fun _ => by kernel_rfl) ?_
              refine WD.weaken [1, 8, 11, 13, 63, 64, 65, 103, 104, 105, 106, 108] (L' := [(1, .slice A1 l1.length c1), (8, .pointer (some ⟨b118, 0, none⟩)), (11, .pointer (some ⟨b132, 0, none⟩)), (13, .pointer (some ⟨b138, 0, none⟩)), (63, .slice A2 l2.length c2), (64, .int .i64 (l2.length : Int)), (65, .int .i64 x65_l2), (103, .bool false), (104, .pointer (some ⟨b118, 0, none⟩)), (105, .pointer (some ⟨b138, 1, none⟩)), (106, .int .i64 v136.2), (108, .pointer (some ⟨b132, 0, none⟩))]) (by kernel_rfl) ?_
              refine WD.pure (i := 14) (v := .pointer (some ⟨b138, 1, none⟩)) (by kernel_rfl) (by kernel_rfl) (fun _ => by kernel_rfl) ?_
              refine WD.weaken [1, 8, 11, 63, 64, 65, 103, 104, 105, 106, 108, 109] (L' := [(1, .slice A1 l1.length c1), (8, .pointer (some ⟨b118, 0, none⟩)), (11, .pointer (some ⟨b132, 0, none⟩)), (63, .slice A2 l2.length c2), (64, .int .i64 (l2.length : Int)), (65, .int .i64 x65_l2), (103, .bool false), (104, .pointer (some ⟨b118, 0, none⟩)), (105, .pointer (some ⟨b138, 1, none⟩)), (106, .int .i64 v136.2), (108, .pointer (some ⟨b132, 0, none⟩)), (109, .pointer (some ⟨b138, 1, none⟩))]) (by kernel_rfl) ?_
              refine WD.ofR (i := 15) (by kernel_rfl) (RSt.loadObj (t := 3) (k := 1) (v := .int .i64 v136.2) (.tmp 109) (by kernel_rfl) (by kernel_rfl) (by kernel_rfl) 3 hS rfl (by kernel_rfl) rfl ?_)
              refine WD.weaken [1, 8, 11, 63, 64, 65, 103, 104, 105, 106, 108, 109, 110] (L' := [(1, .slice A1 l1.length c1), (8, .pointer (some ⟨b118, 0, none⟩)), (11, .pointer (some ⟨b132, 0, none⟩)), (63, .slice A2 l2.length c2), (64, .int .i64 (l2.length : Int)), (65, .int .i64 x65_l2), (103, .bool false), (104, .pointer (some ⟨b118, 0, none⟩)), (105, .pointer (some ⟨b138, 1, none⟩)), (106, .int .i64 v136.2), (108, .pointer (some ⟨b132, 0, none⟩)), (109, .pointer (some ⟨b138, 1, none⟩)), (110, .int .i64 v136.2)]) (by kernel_rfl) ?_
              obtain ⟨r249, e250, H⟩ := bind_ex H
              obtain ⟨B255, hso254, hsub252, hcs253, hb251⟩ := Sat.lend [O49 b118 r213.2] (cs := [pts b132 (.cells #[.int .i64 r222.2.1, .slice A234 r222.2.2.1.length c235, .slice A237 r222.2.2.2.length c238] 42 (0, 0)), osl 3 (r0 (.int .i64)) 1 A237 c238 r222.2.2.2, pts b138 (.cells #[.int .i64 v136.1, .int .i64 v136.2] 44 (0, 0))]) hS
              refine WD.act (i := 12) (by kernel_rfl) (St.call (by kernel_rfl) (f := 10) (args := #[.pointer (some ⟨b118, 0, none⟩), .int .i64 v136.2]) (by kernel_rfl) (quota_Gate_Live.calls B255 w246 b118 r213.2 hso254 v136.2 r249 e250) ?_)
              rintro _ w256 ⟨rfl, hS257⟩
              have hS : Sat w256 (rf w0) [O49 b118 r213.2, pts b132 (.cells #[.int .i64 r222.2.1, .slice A234 r222.2.2.1.length c235, .slice A237 r222.2.2.2.length c238] 42 (0, 0)), osl 3 (r0 (.int .i64)) 1 A237 c238 r222.2.2.2, pts b138 (.cells #[.int .i64 v136.1, .int .i64 v136.2] 44 (0, 0))] := hb251 _ _ hS257
              refine ⟨(asked.cons (RSt.run (n := 122) (RSt.loadObj (t := 3) (k := 1) (v := .int .i64 v136.2) (.tmp 109) (by kernel_rfl) (by kernel_rfl) (by kernel_rfl) 3 hS rfl (by kernel_rfl) rfl rfl)) (asked.anc (by kernel_rfl) (asked.anc (by kernel_rfl) (asked.nil _ _)))), ?_⟩
              refine WD.weaken [1, 8, 11, 63, 64, 65, 103, 104, 105, 106, 107, 108, 109, 110] (L' := [(1, .slice A1 l1.length c1), (8, .pointer (some ⟨b118, 0, none⟩)), (11, .pointer (some ⟨b132, 0, none⟩)), (63, .slice A2 l2.length c2), (64, .int .i64 (l2.length : Int)), (65, .int .i64 x65_l2), (103, .bool false), (104, .pointer (some ⟨b118, 0, none⟩)), (105, .pointer (some ⟨b138, 1, none⟩)), (106, .int .i64 v136.2), (107, .int .i64 r249), (108, .pointer (some ⟨b132, 0, none⟩)), (109, .pointer (some ⟨b138, 1, none⟩)), (110, .int .i64 v136.2)]) (by kernel_rfl) ?_
              obtain ⟨r258, e259, H⟩ := bind_ex H
              refine WD.act (i := 16) (by kernel_rfl) (St.call (by kernel_rfl) (f := 15) (args := #[.pointer (some ⟨b132, 0, none⟩), .int .i64 v136.2]) (by kernel_rfl) (colophonref22_Gate_Live.calls w256 (.pointer (some ⟨b132, 0, none⟩)) (some (r222.2.1, r222.2.2.1, r222.2.2.2)) (P42.mk (y := (r222.2.1, r222.2.2.1, r222.2.2.2)) (Sat.blockAt 1 hS rfl) (rdS.up R236 hS.sub0) (Sat.rdAt 2 hS rfl)) v136.2 r258 e259) ?_)
              rintro _ w265 ⟨rfl, hS266⟩
              have hS : Sat w265 (rf w0) [O49 b118 r213.2, pts b132 (.cells #[.int .i64 r222.2.1, .slice A234 r222.2.2.1.length c235, .slice A237 r222.2.2.2.length c238] 42 (0, 0)), osl 3 (r0 (.int .i64)) 1 A237 c238 r222.2.2.2, pts b138 (.cells #[.int .i64 v136.1, .int .i64 v136.2] 44 (0, 0))] := hS.ext hS266
              refine ⟨(asked.anc (by kernel_rfl) (asked.anc (by kernel_rfl) (asked.anc (by kernel_rfl) (asked.nil _ _)))), ?_⟩
              refine WD.weaken [1, 8, 11, 63, 64, 65, 103, 104, 105, 106, 107, 108, 109, 110, 111] (L' := [(1, .slice A1 l1.length c1), (8, .pointer (some ⟨b118, 0, none⟩)), (11, .pointer (some ⟨b132, 0, none⟩)), (63, .slice A2 l2.length c2), (64, .int .i64 (l2.length : Int)), (65, .int .i64 x65_l2), (103, .bool false), (104, .pointer (some ⟨b118, 0, none⟩)), (105, .pointer (some ⟨b138, 1, none⟩)), (106, .int .i64 v136.2), (107, .int .i64 r249), (108, .pointer (some ⟨b132, 0, none⟩)), (109, .pointer (some ⟨b138, 1, none⟩)), (110, .int .i64 v136.2), (111, .int .i64 r258)]) (by kernel_rfl) ?_
              refine WD.pure (i := 17) (v := .bool (r249 != r258)) (by kernel_rfl) (by kernel_rfl) (fun _ => by kernel_rfl) ?_
              refine WD.weaken [1, 8, 11, 63, 64, 65, 103, 104, 105, 106, 107, 108, 109, 110, 111, 112] (L' := [(1, .slice A1 l1.length c1), (8, .pointer (some ⟨b118, 0, none⟩)), (11, .pointer (some ⟨b132, 0, none⟩)), (63, .slice A2 l2.length c2), (64, .int .i64 (l2.length : Int)), (65, .int .i64 x65_l2), (103, .bool false), (104, .pointer (some ⟨b118, 0, none⟩)), (105, .pointer (some ⟨b138, 1, none⟩)), (106, .int .i64 v136.2), (107, .int .i64 r249), (108, .pointer (some ⟨b132, 0, none⟩)), (109, .pointer (some ⟨b138, 1, none⟩)), (110, .int .i64 v136.2), (111, .int .i64 r258), (112, .bool (r249 != r258))]) (by kernel_rfl) ?_
              refine WD.pure (i := 18) (v := .bool (r249 != r258)) (by kernel_rfl) (by kernel_rfl) (fun _ => by kernel_rfl) ?_
              refine WD.weaken [1, 8, 11, 63, 64, 65, 104, 105, 106, 107, 108, 109, 110, 111, 112, 113] (L' := [(1, .slice A1 l1.length c1), (8, .pointer (some ⟨b118, 0, none⟩)), (11, .pointer (some ⟨b132, 0, none⟩)), (63, .slice A2 l2.length c2), (64, .int .i64 (l2.length : Int)), (65, .int .i64 x65_l2), (104, .pointer (some ⟨b118, 0, none⟩)), (105, .pointer (some ⟨b138, 1, none⟩)), (106, .int .i64 v136.2), (107, .int .i64 r249), (108, .pointer (some ⟨b132, 0, none⟩)), (109, .pointer (some ⟨b138, 1, none⟩)), (110, .int .i64 v136.2), (111, .int .i64 r258), (112, .bool (r249 != r258)), (113, .bool (r249 != r258))]) (by kernel_rfl) ?_
              refine WD.pure (i := 19) (v := .bool (r249 != r258)) (by kernel_rfl) (by kernel_rfl) (fun _ => by kernel_rfl) ?_
              refine WD.weaken [1, 8, 11, 63, 64, 65, 104, 105, 106, 107, 108, 109, 110, 111, 112, 114] (L' := [(1, .slice A1 l1.length c1), (8, .pointer (some ⟨b118, 0, none⟩)), (11, .pointer (some ⟨b132, 0, none⟩)), (63, .slice A2 l2.length c2), (64, .int .i64 (l2.length : Int)), (65, .int .i64 x65_l2), (104, .pointer (some ⟨b118, 0, none⟩)), (105, .pointer (some ⟨b138, 1, none⟩)), (106, .int .i64 v136.2), (107, .int .i64 r249), (108, .pointer (some ⟨b132, 0, none⟩)), (109, .pointer (some ⟨b138, 1, none⟩)), (110, .int .i64 v136.2), (111, .int .i64 r258), (112, .bool (r249 != r258)), (114, .bool (r249 != r258))]) (by kernel_rfl) ?_
              refine WD.split 114 (b := (r249 != r258)) (by kernel_rfl) (fun hb267 => ?_) (fun hb267 => ?_)
              · replace H := ite_t H hb267
                refine WD.weaken [1, 8, 11, 63, 64, 65, 104, 105, 106, 107, 108, 109, 110, 111, 112, 114] (L' := [(1, .slice A1 l1.length c1), (8, .pointer (some ⟨b118, 0, none⟩)), (11, .pointer (some ⟨b132, 0, none⟩)), (63, .slice A2 l2.length c2), (64, .int .i64 (l2.length : Int)), (65, .int .i64 x65_l2), (104, .pointer (some ⟨b118, 0, none⟩)), (105, .pointer (some ⟨b138, 1, none⟩)), (106, .int .i64 v136.2), (107, .int .i64 r249), (108, .pointer (some ⟨b132, 0, none⟩)), (109, .pointer (some ⟨b138, 1, none⟩)), (110, .int .i64 v136.2), (111, .int .i64 r258), (112, .bool (r249 != r258)), (114, .bool true)]) (by kernel_rfl) ?_
                refine WD.skip (i := 20) (by kernel_rfl) (by kernel_rfl) ?_
                refine WD.weaken [1, 8, 11, 63, 64, 65, 104, 105, 106, 107, 108, 109, 110, 111, 112, 114, 115] (L' := [(1, .slice A1 l1.length c1), (8, .pointer (some ⟨b118, 0, none⟩)), (11, .pointer (some ⟨b132, 0, none⟩)), (63, .slice A2 l2.length c2), (64, .int .i64 (l2.length : Int)), (65, .int .i64 x65_l2), (104, .pointer (some ⟨b118, 0, none⟩)), (105, .pointer (some ⟨b138, 1, none⟩)), (106, .int .i64 v136.2), (107, .int .i64 r249), (108, .pointer (some ⟨b132, 0, none⟩)), (109, .pointer (some ⟨b138, 1, none⟩)), (110, .int .i64 v136.2), (111, .int .i64 r258), (112, .bool (r249 != r258)), (114, .bool true), (115, undef)]) (by kernel_rfl) ?_
                refine WD.skip (i := 22) (by kernel_rfl) (by kernel_rfl) ?_
                refine WD.weaken [1, 8, 11, 63, 64, 65, 104, 105, 106, 107, 108, 109, 110, 111, 112, 114, 115, 117] (L' := [(1, .slice A1 l1.length c1), (8, .pointer (some ⟨b118, 0, none⟩)), (11, .pointer (some ⟨b132, 0, none⟩)), (63, .slice A2 l2.length c2), (64, .int .i64 (l2.length : Int)), (65, .int .i64 x65_l2), (104, .pointer (some ⟨b118, 0, none⟩)), (105, .pointer (some ⟨b138, 1, none⟩)), (106, .int .i64 v136.2), (107, .int .i64 r249), (108, .pointer (some ⟨b132, 0, none⟩)), (109, .pointer (some ⟨b138, 1, none⟩)), (110, .int .i64 v136.2), (111, .int .i64 r258), (112, .bool (r249 != r258)), (114, .bool true), (115, undef), (117, undef)]) (by kernel_rfl) ?_
                refine WD.skip (i := 23) (by kernel_rfl) (by kernel_rfl) ?_
                refine WD.weaken [1, 8, 11, 63, 64, 65, 104, 105, 106, 107, 108, 109, 110, 111, 112, 114, 115, 117, 118] (L' := [(1, .slice A1 l1.length c1), (8, .pointer (some ⟨b118, 0, none⟩)), (11, .pointer (some ⟨b132, 0, none⟩)), (63, .slice A2 l2.length c2), (64, .int .i64 (l2.length : Int)), (65, .int .i64 x65_l2), (104, .pointer (some ⟨b118, 0, none⟩)), (105, .pointer (some ⟨b138, 1, none⟩)), (106, .int .i64 v136.2), (107, .int .i64 r249), (108, .pointer (some ⟨b132, 0, none⟩)), (109, .pointer (some ⟨b138, 1, none⟩)), (110, .int .i64 v136.2), (111, .int .i64 r258), (112, .bool (r249 != r258)), (114, .bool true), (115, undef), (117, undef), (118, undef)]) (by kernel_rfl) ?_
                refine WD.skip (i := 21) (by kernel_rfl) (by kernel_rfl) ?_
                refine WD.weaken [1, 8, 11, 63, 64, 65, 104, 105, 106, 107, 108, 109, 110, 111, 112, 114, 115, 116, 117, 118] (L' := [(1, .slice A1 l1.length c1), (8, .pointer (some ⟨b118, 0, none⟩)), (11, .pointer (some ⟨b132, 0, none⟩)), (63, .slice A2 l2.length c2), (64, .int .i64 (l2.length : Int)), (65, .int .i64 x65_l2), (104, .pointer (some ⟨b118, 0, none⟩)), (105, .pointer (some ⟨b138, 1, none⟩)), (106, .int .i64 v136.2), (107, .int .i64 r249), (108, .pointer (some ⟨b132, 0, none⟩)), (109, .pointer (some ⟨b138, 1, none⟩)), (110, .int .i64 v136.2), (111, .int .i64 r258), (112, .bool (r249 != r258)), (114, .bool true), (115, undef), (116, undef), (117, undef), (118, undef)]) (by kernel_rfl) ?_
                refine WD.skip (i := 24) (by kernel_rfl) (by kernel_rfl) ?_
                refine WD.weaken [1, 8, 11, 63, 64, 65, 104, 105, 106, 107, 108, 109, 110, 111, 112, 114, 115, 116, 117, 118, 119] (L' := [(1, .slice A1 l1.length c1), (8, .pointer (some ⟨b118, 0, none⟩)), (11, .pointer (some ⟨b132, 0, none⟩)), (63, .slice A2 l2.length c2), (64, .int .i64 (l2.length : Int)), (65, .int .i64 x65_l2), (104, .pointer (some ⟨b118, 0, none⟩)), (105, .pointer (some ⟨b138, 1, none⟩)), (106, .int .i64 v136.2), (107, .int .i64 r249), (108, .pointer (some ⟨b132, 0, none⟩)), (109, .pointer (some ⟨b138, 1, none⟩)), (110, .int .i64 v136.2), (111, .int .i64 r258), (112, .bool (r249 != r258)), (114, .bool true), (115, undef), (116, undef), (117, undef), (118, undef), (119, undef)]) (by kernel_rfl) ?_
                refine WD.pure (i := 25) (v := .bool true) (by kernel_rfl) (by kernel_rfl) (fun _ => by kernel_rfl) ?_
                refine WD.weaken [1, 8, 11, 63, 64, 65, 104, 105, 106, 107, 108, 109, 110, 111, 112, 115, 116, 117, 118, 119, 120] (L' := [(1, .slice A1 l1.length c1), (8, .pointer (some ⟨b118, 0, none⟩)), (11, .pointer (some ⟨b132, 0, none⟩)), (63, .slice A2 l2.length c2), (64, .int .i64 (l2.length : Int)), (65, .int .i64 x65_l2), (104, .pointer (some ⟨b118, 0, none⟩)), (105, .pointer (some ⟨b138, 1, none⟩)), (106, .int .i64 v136.2), (107, .int .i64 r249), (108, .pointer (some ⟨b132, 0, none⟩)), (109, .pointer (some ⟨b138, 1, none⟩)), (110, .int .i64 v136.2), (111, .int .i64 r258), (112, .bool (r249 != r258)), (115, undef), (116, undef), (117, undef), (118, undef), (119, undef), (120, .bool true)]) (by kernel_rfl) ?_
                refine WD.nil (by kernel_rfl) ?_
                refine At.go ?_
                refine WC.condT (by kernel_rfl) (by kernel_rfl) (by kernel_rfl) ?_
                refine WC.seq (by kernel_rfl) ?_
                refine WC.reg [0] (by kernel_rfl) (by kernel_rfl) ?_
                refine WR.runk [0] [] [6] (L' := [(6, .bool false)]) (w' := w265) (by kernel_rfl) ?_
                refine WR.nil ?_
                refine At.go ?_
                refine WC.ret (by kernel_rfl) ?_
                refine At.blockRet ?_
                refine At.thenRet ?_
                refine At.thenRet ?_
                obtain rfl := Option.some.inj H
                have hS : Sat w265 (rf w0) [pts b132 (.cells #[.int .i64 r222.2.1, .slice A234 r222.2.2.1.length c235, .slice A237 r222.2.2.2.length c238] 42 (0, 0)), osl 3 (r0 (.int .i64)) 1 A237 c238 r222.2.2.2, O49 b118 r213.2, pts b138 (.cells #[.int .i64 v136.1, .int .i64 v136.2] 44 (0, 0))] := hS.sel [1, 2, 0, 3] (by kernel_rfl)
                have hS : Sat w265 (rf w0) [O42r1 (hp w0) b132 r222.2, O49 b118 r213.2, pts b138 (.cells #[.int .i64 v136.1, .int .i64 v136.2] 44 (0, 0))] := O42r1.close (hp w0) r222.2 A234 c235 A237 c238 R236 hS
                have hS : Sat w265 (rf w0) [O49 b118 r213.2, O42r1 (hp w0) b132 r222.2] := hS.sel [1, 0] (by kernel_rfl)
                refine At.weaken [6] (L' := [(6, .bool false)]) (by kernel_rfl) ?_
                exact hn1 (false, r213.2, r222.2) _ rfl hS
              · replace H := ite_f H hb267
                refine WD.weaken [1, 8, 11, 63, 64, 65, 104, 105, 106, 107, 108, 109, 110, 111, 112, 114] (L' := [(1, .slice A1 l1.length c1), (8, .pointer (some ⟨b118, 0, none⟩)), (11, .pointer (some ⟨b132, 0, none⟩)), (63, .slice A2 l2.length c2), (64, .int .i64 (l2.length : Int)), (65, .int .i64 x65_l2), (104, .pointer (some ⟨b118, 0, none⟩)), (105, .pointer (some ⟨b138, 1, none⟩)), (106, .int .i64 v136.2), (107, .int .i64 r249), (108, .pointer (some ⟨b132, 0, none⟩)), (109, .pointer (some ⟨b138, 1, none⟩)), (110, .int .i64 v136.2), (111, .int .i64 r258), (112, .bool (r249 != r258)), (114, .bool false)]) (by kernel_rfl) ?_
                refine WD.pure (i := 20) (v := .pointer (some ⟨b118, 0, none⟩)) (by kernel_rfl) (by kernel_rfl) (fun _ => by kernel_rfl) ?_
                refine WD.weaken [1, 8, 11, 63, 64, 65, 104, 105, 106, 107, 108, 109, 110, 111, 112, 114, 115] (L' := [(1, .slice A1 l1.length c1), (8, .pointer (some ⟨b118, 0, none⟩)), (11, .pointer (some ⟨b132, 0, none⟩)), (63, .slice A2 l2.length c2), (64, .int .i64 (l2.length : Int)), (65, .int .i64 x65_l2), (104, .pointer (some ⟨b118, 0, none⟩)), (105, .pointer (some ⟨b138, 1, none⟩)), (106, .int .i64 v136.2), (107, .int .i64 r249), (108, .pointer (some ⟨b132, 0, none⟩)), (109, .pointer (some ⟨b138, 1, none⟩)), (110, .int .i64 v136.2), (111, .int .i64 r258), (112, .bool (r249 != r258)), (114, .bool false), (115, .pointer (some ⟨b118, 0, none⟩))]) (by kernel_rfl) ?_
                refine WD.pure (i := 22) (v := .slice A1 l1.length c1) (by kernel_rfl) (by kernel_rfl) (fun _ => by kernel_rfl) ?_
                refine WD.weaken [1, 8, 11, 63, 64, 65, 104, 105, 106, 107, 108, 109, 110, 111, 112, 114, 115, 117] (L' := [(1, .slice A1 l1.length c1), (8, .pointer (some ⟨b118, 0, none⟩)), (11, .pointer (some ⟨b132, 0, none⟩)), (63, .slice A2 l2.length c2), (64, .int .i64 (l2.length : Int)), (65, .int .i64 x65_l2), (104, .pointer (some ⟨b118, 0, none⟩)), (105, .pointer (some ⟨b138, 1, none⟩)), (106, .int .i64 v136.2), (107, .int .i64 r249), (108, .pointer (some ⟨b132, 0, none⟩)), (109, .pointer (some ⟨b138, 1, none⟩)), (110, .int .i64 v136.2), (111, .int .i64 r258), (112, .bool (r249 != r258)), (114, .bool false), (115, .pointer (some ⟨b118, 0, none⟩)), (117, .slice A1 l1.length c1)]) (by kernel_rfl) ?_
                refine WD.pure (i := 23) (v := .int .i64 (l1.length : Int)) (by kernel_rfl) (by kernel_rfl) (fun _ => by kernel_rfl) ?_
                refine WD.weaken [1, 8, 11, 63, 64, 65, 104, 105, 106, 107, 108, 109, 110, 111, 112, 114, 115, 117, 118] (L' := [(1, .slice A1 l1.length c1), (8, .pointer (some ⟨b118, 0, none⟩)), (11, .pointer (some ⟨b132, 0, none⟩)), (63, .slice A2 l2.length c2), (64, .int .i64 (l2.length : Int)), (65, .int .i64 x65_l2), (104, .pointer (some ⟨b118, 0, none⟩)), (105, .pointer (some ⟨b138, 1, none⟩)), (106, .int .i64 v136.2), (107, .int .i64 r249), (108, .pointer (some ⟨b132, 0, none⟩)), (109, .pointer (some ⟨b138, 1, none⟩)), (110, .int .i64 v136.2), (111, .int .i64 r258), (112, .bool (r249 != r258)), (114, .bool false), (115, .pointer (some ⟨b118, 0, none⟩)), (117, .slice A1 l1.length c1), (118, .int .i64 (l1.length : Int))]) (by kernel_rfl) ?_
                obtain ⟨r268, e269, H⟩ := bind_ex H
                obtain ⟨B274, hso273, hsub271, hcs272, hb270⟩ := Sat.lend [O49 b118 r213.2] (cs := [pts b132 (.cells #[.int .i64 r222.2.1, .slice A234 r222.2.2.1.length c235, .slice A237 r222.2.2.2.length c238] 42 (0, 0)), osl 3 (r0 (.int .i64)) 1 A237 c238 r222.2.2.2, pts b138 (.cells #[.int .i64 v136.1, .int .i64 v136.2] 44 (0, 0))]) hS
                refine WD.act (i := 21) (by kernel_rfl) (St.call (by kernel_rfl) (f := 16) (args := #[.pointer (some ⟨b118, 0, none⟩)]) (by kernel_rfl) (quota_Gate_Tenants.calls B274 w265 b118 r213.2 hso273  r268 e269) ?_)
                rintro _ w275 ⟨rfl, hS276⟩
                have hS : Sat w275 (rf w0) [O49 b118 r213.2, pts b132 (.cells #[.int .i64 r222.2.1, .slice A234 r222.2.2.1.length c235, .slice A237 r222.2.2.2.length c238] 42 (0, 0)), osl 3 (r0 (.int .i64)) 1 A237 c238 r222.2.2.2, pts b138 (.cells #[.int .i64 v136.1, .int .i64 v136.2] 44 (0, 0))] := hb270 _ _ hS276
                refine ⟨(asked.anc (by kernel_rfl) (asked.anc (by kernel_rfl) (asked.anc (by kernel_rfl) (asked.nil _ _)))), ?_⟩
                refine WD.weaken [1, 8, 11, 63, 64, 65, 104, 105, 106, 107, 108, 109, 110, 111, 112, 114, 115, 116, 117, 118] (L' := [(1, .slice A1 l1.length c1), (8, .pointer (some ⟨b118, 0, none⟩)), (11, .pointer (some ⟨b132, 0, none⟩)), (63, .slice A2 l2.length c2), (64, .int .i64 (l2.length : Int)), (65, .int .i64 x65_l2), (104, .pointer (some ⟨b118, 0, none⟩)), (105, .pointer (some ⟨b138, 1, none⟩)), (106, .int .i64 v136.2), (107, .int .i64 r249), (108, .pointer (some ⟨b132, 0, none⟩)), (109, .pointer (some ⟨b138, 1, none⟩)), (110, .int .i64 v136.2), (111, .int .i64 r258), (112, .bool (r249 != r258)), (114, .bool false), (115, .pointer (some ⟨b118, 0, none⟩)), (116, .int .i64 r268), (117, .slice A1 l1.length c1), (118, .int .i64 (l1.length : Int))]) (by kernel_rfl) ?_
                refine WD.pure (i := 24) (v := .bool (r268 != (l1.length : Int))) (by kernel_rfl) (by kernel_rfl) (fun _ => by kernel_rfl) ?_
                refine WD.weaken [1, 8, 11, 63, 64, 65, 104, 105, 106, 107, 108, 109, 110, 111, 112, 114, 115, 116, 117, 118, 119] (L' := [(1, .slice A1 l1.length c1), (8, .pointer (some ⟨b118, 0, none⟩)), (11, .pointer (some ⟨b132, 0, none⟩)), (63, .slice A2 l2.length c2), (64, .int .i64 (l2.length : Int)), (65, .int .i64 x65_l2), (104, .pointer (some ⟨b118, 0, none⟩)), (105, .pointer (some ⟨b138, 1, none⟩)), (106, .int .i64 v136.2), (107, .int .i64 r249), (108, .pointer (some ⟨b132, 0, none⟩)), (109, .pointer (some ⟨b138, 1, none⟩)), (110, .int .i64 v136.2), (111, .int .i64 r258), (112, .bool (r249 != r258)), (114, .bool false), (115, .pointer (some ⟨b118, 0, none⟩)), (116, .int .i64 r268), (117, .slice A1 l1.length c1), (118, .int .i64 (l1.length : Int)), (119, .bool (r268 != (l1.length : Int)))]) (by kernel_rfl) ?_
                refine WD.pure (i := 25) (v := .bool (r268 != (l1.length : Int))) (by kernel_rfl) (by kernel_rfl) (fun _ => by kernel_rfl) ?_
                refine WD.weaken [1, 8, 11, 63, 64, 65, 104, 105, 106, 107, 108, 109, 110, 111, 112, 115, 116, 117, 118, 119, 120] (L' := [(1, .slice A1 l1.length c1), (8, .pointer (some ⟨b118, 0, none⟩)), (11, .pointer (some ⟨b132, 0, none⟩)), (63, .slice A2 l2.length c2), (64, .int .i64 (l2.length : Int)), (65, .int .i64 x65_l2), (104, .pointer (some ⟨b118, 0, none⟩)), (105, .pointer (some ⟨b138, 1, none⟩)), (106, .int .i64 v136.2), (107, .int .i64 r249), (108, .pointer (some ⟨b132, 0, none⟩)), (109, .pointer (some ⟨b138, 1, none⟩)), (110, .int .i64 v136.2), (111, .int .i64 r258), (112, .bool (r249 != r258)), (115, .pointer (some ⟨b118, 0, none⟩)), (116, .int .i64 r268), (117, .slice A1 l1.length c1), (118, .int .i64 (l1.length : Int)), (119, .bool (r268 != (l1.length : Int))), (120, .bool (r268 != (l1.length : Int)))]) (by kernel_rfl) ?_
                refine WD.nil (by kernel_rfl) ?_
                refine At.go ?_
                refine WC.cond (by kernel_rfl) (r268 != (l1.length : Int)) (by kernel_rfl) (by kernel_rfl) (fun hb277 => ?_) (fun hb277 => ?_)
                · replace H := ite_t H hb277
                  refine WC.seq (by kernel_rfl) ?_
                  refine WC.reg [0] (by kernel_rfl) (by kernel_rfl) ?_
                  refine WR.runk [0] [] [6] (L' := [(6, .bool false)]) (w' := w275) (by kernel_rfl) ?_
                  refine WR.nil ?_
                  refine At.go ?_
                  refine WC.ret (by kernel_rfl) ?_
                  refine At.blockRet ?_
                  refine At.thenRet ?_
                  refine At.thenRet ?_
                  obtain rfl := Option.some.inj H
                  have hS : Sat w275 (rf w0) [pts b132 (.cells #[.int .i64 r222.2.1, .slice A234 r222.2.2.1.length c235, .slice A237 r222.2.2.2.length c238] 42 (0, 0)), osl 3 (r0 (.int .i64)) 1 A237 c238 r222.2.2.2, O49 b118 r213.2, pts b138 (.cells #[.int .i64 v136.1, .int .i64 v136.2] 44 (0, 0))] := hS.sel [1, 2, 0, 3] (by kernel_rfl)
                  have hS : Sat w275 (rf w0) [O42r1 (hp w0) b132 r222.2, O49 b118 r213.2, pts b138 (.cells #[.int .i64 v136.1, .int .i64 v136.2] 44 (0, 0))] := O42r1.close (hp w0) r222.2 A234 c235 A237 c238 R236 hS
                  have hS : Sat w275 (rf w0) [O49 b118 r213.2, O42r1 (hp w0) b132 r222.2] := hS.sel [1, 0] (by kernel_rfl)
                  refine At.weaken [6] (L' := [(6, .bool false)]) (by kernel_rfl) ?_
                  exact hn1 (false, r213.2, r222.2) _ rfl hS
                · replace H := ite_f H hb277
                  refine WC.skip (by kernel_rfl) ?_
                  refine At.blockNormal ?_
                  refine At.go ?_
                  refine WC.reg [0, 1] (by kernel_rfl) (by kernel_rfl) ?_
                  refine WR.runk [0, 1] [] [1, 8, 11, 63, 64, 65, 104, 105, 106, 107, 108, 109, 110, 111, 112, 115, 116, 117, 118] (L' := [(1, .slice A1 l1.length c1), (8, .pointer (some ⟨b118, 0, none⟩)), (11, .pointer (some ⟨b132, 0, none⟩)), (63, .slice A2 l2.length c2), (64, .int .i64 (l2.length : Int)), (65, .int .i64 (wi (x65_l2 + 1))), (104, .pointer (some ⟨b118, 0, none⟩)), (105, .pointer (some ⟨b138, 1, none⟩)), (106, .int .i64 v136.2), (107, .int .i64 r249), (108, .pointer (some ⟨b132, 0, none⟩)), (109, .pointer (some ⟨b138, 1, none⟩)), (110, .int .i64 v136.2), (111, .int .i64 r258), (112, .bool (r249 != r258)), (115, .pointer (some ⟨b118, 0, none⟩)), (116, .int .i64 r268), (117, .slice A1 l1.length c1), (118, .int .i64 (l1.length : Int))]) (w' := w275) (by kernel_rfl) ?_
                  refine WR.nil ?_
                  have hS : Sat w275 (rf w0) [pts b132 (.cells #[.int .i64 r222.2.1, .slice A234 r222.2.2.1.length c235, .slice A237 r222.2.2.2.length c238] 42 (0, 0)), osl 3 (r0 (.int .i64)) 1 A237 c238 r222.2.2.2, O49 b118 r213.2, pts b138 (.cells #[.int .i64 v136.1, .int .i64 v136.2] 44 (0, 0))] := hS.sel [1, 2, 0, 3] (by kernel_rfl)
                  have hS : Sat w275 (rf w0) [O42r1 (hp w0) b132 r222.2, O49 b118 r213.2, pts b138 (.cells #[.int .i64 v136.1, .int .i64 v136.2] 44 (0, 0))] := O42r1.close (hp w0) r222.2 A234 c235 A237 c238 R236 hS
                  have hS : Sat w275 (rf w0) [O49 b118 r213.2, O42r1 (hp w0) b132 r222.2] := hS.sel [1, 0] (by kernel_rfl)
                  refine At.again ?_
                  refine WL.weaken [1, 8, 11, 63, 64, 65] (L' := [(1, .slice A1 l1.length c1), (8, .pointer (some ⟨b118, 0, none⟩)), (11, .pointer (some ⟨b132, 0, none⟩)), (63, .slice A2 l2.length c2), (64, .int .i64 (l2.length : Int)), (65, .int .i64 (wi (x65_l2 + 1)))]) (by kernel_rfl) ?_
                  exact ih (wi (x65_l2 + 1)) r213.2 r222.2 _ hS H
    · replace H := ite_f H hb135
      refine WC.exit (by kernel_rfl) ?_
      refine At.thenExit ?_
      refine At.thenExit ?_
      obtain rfl := Option.some.inj H
      have hS : Sat w (rf w0) [O49 b118 q119_l2, O42r1 (hp w0) b132 q134_l2] := hS.sel [0, 1] (by kernel_rfl)
      refine At.weaken [] (L' := []) (by kernel_rfl) ?_
      exact hn0 (q119_l2, q134_l2) _ rfl hS
theorem colophonlaw22_QuotaPlays.calls (w0 : World) (a0 : Int) (A1 : Option Addr) (c1 : Nat) (l1 : List (Int × Int)) (R1 : rdS (r0 (.pair (.int .i64) (.int .i64))) 2 (hp w0) A1 c1 l1) (A2 : Option Addr) (c2 : Nat) (l2 : List (Int × Int)) (R2 : rdS (r0 (.pair (.int .i64) (.int .i64))) 2 (hp w0) A2 c2 l2) (r : Bool) (H : colophonlaw22_QuotaPlays.f a0 l1 l2 = some r) :
    Calls Try.prog 4 #[.int .i64 a0, .slice A1 l1.length c1, .slice A2 l2.length c2] w0 (fun e w' => ∃ v, e = .returned v ∧ colophonlaw22_QuotaPlays.post w0 r v w') := by
  have hS : Sat w0 (rf w0) [] := Sat.start w0
  unfold colophonlaw22_QuotaPlays.f at H
  refine calls_of_WC (vs := [.int .i64 a0, .slice A1 l1.length c1, .slice A2 l2.length c2]) Try.func4 (c := C4) (n := 122) (by kernel_rfl) (by kernel_rfl) (by kernel_rfl) ?_
  refine WC.seq (by kernel_rfl) ?_
  refine WC.reg [0] (by kernel_rfl) (by kernel_rfl) ?_
  refine WR.runk [0] [] [0, 1, 2] (L' := [(0, .int .i64 a0), (1, .slice A1 l1.length c1), (2, .slice A2 l2.length c2)]) (w' := w0) (by kernel_rfl) ?_
  refine WR.nil ?_
  refine At.go ?_
  refine WC.seq (by kernel_rfl) ?_
  refine WC.seq (by kernel_rfl) ?_
  refine WC.reg [0, 1] (by kernel_rfl) (by kernel_rfl) ?_
  obtain ⟨r1, e2, H⟩ := bind_ex H
  refine WR.st (St.call (by kernel_rfl) (f := 5) (args := #[]) (by kernel_rfl) (colophonlaw22_first.calls w0  r1 e2) ?_)
  rintro _ w8 ⟨rfl, hS9⟩
  have hS : Sat w8 (rf w0) [] := hS.ext hS9
  refine WR.runk [1] [] [0, 1, 2, 15] (L' := [(0, .int .i64 a0), (1, .slice A1 l1.length c1), (2, .slice A2 l2.length c2), (15, .bool (!r1))]) (w' := w8) (by kernel_rfl) ?_
  refine WR.nil ?_
  refine At.go ?_
  refine WC.cond (by kernel_rfl) (!r1) (by kernel_rfl) (by kernel_rfl) (fun hb10 => ?_) (fun hb10 => ?_)
  · replace H := ite_t H hb10
    refine WC.seq (by kernel_rfl) ?_
    refine WC.reg [0] (by kernel_rfl) (by kernel_rfl) ?_
    refine WR.runk [0] [] [6] (L' := [(6, .bool false)]) (w' := w8) (by kernel_rfl) ?_
    refine WR.nil ?_
    refine At.go ?_
    refine WC.ret (by kernel_rfl) ?_
    refine At.thenRet ?_
    obtain rfl := Option.some.inj H
    have hS : Sat w8 (rf w0) [] := hS.sel [] (by kernel_rfl)
    exact At.body [.bool false] (by kernel_rfl) ⟨_, rfl, rfl, hS⟩
  · replace H := ite_f H hb10
    refine WC.skip (by kernel_rfl) ?_
    refine At.go ?_
    refine WC.seq (by kernel_rfl) ?_
    refine WC.reg [0, 1, 2, 3] (by kernel_rfl) (by kernel_rfl) ?_
    refine WR.runk [] [0, 1, 2, 3] [0, 1, 2] (L' := [(0, .int .i64 a0), (1, .slice A1 l1.length c1), (2, .slice A2 l2.length c2)]) (w' := w8) (by kernel_rfl) ?_
    refine WR.st (St.box hS (by kernel_rfl) (.cells #[] 27) (fun b11 => .slice (some ⟨b11, 0, none⟩) 0 0) (fun _ => by kernel_rfl) (fun b11 w12 hS => ?_))
    refine WR.runk [1] [2, 3] [0, 1, 2, 16, 17] (L' := [(0, .int .i64 a0), (1, .slice A1 l1.length c1), (2, .slice A2 l2.length c2), (16, .slice (some ⟨b11, 0, none⟩) 0 0), (17, .slice A1 l1.length c1)]) (w' := w12) (by kernel_rfl) ?_
    have hS : Sat w12 (rf w0) [osl 27 (r0 (.pair (.int .i64) (.int .i64))) 2 (some ⟨b11, 0, none⟩) (([] : List (Int × Int)) : List (Int × Int)).length (([] : List (Int × Int)) : List (Int × Int))] := Sat.toOsl' (r0 (.pair (.int .i64) (.int .i64))) 2 (([] : List (Int × Int)) : List (Int × Int)) hS rfl (rdL.nil _ _)
    obtain ⟨y14, e13, H⟩ := bind_ex H
    refine WR.st (St.append' (.tmp 16) (.tmp 17) (by kernel_rfl) (by kernel_rfl) E25 (r0_one _) hS (by kernel_rfl) (by kernel_rfl) (rdS.up R1 hS.sub0) 8796093022208 (by kernel_rfl) (by kernel_rfl) e13 (fun A15 c16 w17 hS => ?_))
    refine WR.runk [3] [] [0, 1, 2, 7] (L' := [(0, .int .i64 a0), (1, .slice A1 l1.length c1), (2, .slice A2 l2.length c2), (7, .slice A15 y14.length c16)]) (w' := w17) (by kernel_rfl) ?_
    refine WR.nil ?_
    refine At.go ?_
    refine WC.seq (by kernel_rfl) ?_
    refine WC.reg [0, 1, 2, 3, 4, 5, 6, 7] (by kernel_rfl) (by kernel_rfl) ?_
    refine WR.runk [0, 1] [2, 3, 4, 5, 6, 7] [0, 1, 2, 7, 20, 21] (L' := [(0, .int .i64 a0), (1, .slice A1 l1.length c1), (2, .slice A2 l2.length c2), (7, .slice A15 y14.length c16), (20, .int .i64 a0), (21, .slice A15 y14.length c16)]) (w' := w17) (by kernel_rfl) ?_
    obtain ⟨r18, e19, H⟩ := bind_ex H
    refine WR.st (St.call (by kernel_rfl) (f := 6) (args := #[.int .i64 a0, .slice A15 y14.length c16]) (by kernel_rfl) (quota_New.calls w17 a0 A15 c16 y14 (Sat.rdAt 0 hS rfl) r18 e19) ?_)
    rintro _ w25 ⟨pv27, rfl, hS26⟩
    have hS : Sat w25 (rf w0) [optP O49 pv27 r18.1, osl 27 (r0 (.pair (.int .i64) (.int .i64))) 2 A15 c16 y14] := hS.ext hS26
    refine WR.runk [3, 4, 5, 6, 7] [] [0, 1, 2, 7, 8, 9] (L' := [(0, .int .i64 a0), (1, .slice A1 l1.length c1), (2, .slice A2 l2.length c2), (7, .slice A15 y14.length c16), (8, pv27), (9, .int .i64 r18.2)]) (w' := w25) (by kernel_rfl) ?_
    refine WR.nil ?_
    refine At.go ?_
    refine WC.seq (by kernel_rfl) ?_
    refine WC.seq (by kernel_rfl) ?_
    refine WC.reg [0, 1, 2, 3, 4, 5, 6, 7, 8, 9, 10] (by kernel_rfl) (by kernel_rfl) ?_
    refine WR.runk [0] [1, 2, 3, 4, 5, 6, 7, 8, 9, 10] [0, 1, 2, 7, 8, 9, 25] (L' := [(0, .int .i64 a0), (1, .slice A1 l1.length c1), (2, .slice A2 l2.length c2), (7, .slice A15 y14.length c16), (8, pv27), (9, .int .i64 r18.2), (25, .slice A1 l1.length c1)]) (w' := w25) (by kernel_rfl) ?_
    obtain ⟨r28, e29, H⟩ := bind_ex H
    refine WR.st (St.call (by kernel_rfl) (f := 11) (args := #[.slice A1 l1.length c1]) (by kernel_rfl) (colophonref22_Right.calls w25 A1 c1 l1 (rdS.up R1 hS.sub0) r28 e29) ?_)
    rintro _ w35 ⟨rfl, hS36⟩
    have hS : Sat w35 (rf w0) [optP O49 pv27 r18.1, osl 27 (r0 (.pair (.int .i64) (.int .i64))) 2 A15 c16 y14] := hS.ext hS36
    refine WR.runk [2, 3] [4, 5, 6, 7, 8, 9, 10] [0, 1, 2, 7, 8, 9, 28] (L' := [(0, .int .i64 a0), (1, .slice A1 l1.length c1), (2, .slice A2 l2.length c2), (7, .slice A15 y14.length c16), (8, pv27), (9, .int .i64 r18.2), (28, .bool (!r28))]) (w' := w35) (by kernel_rfl) ?_
    refine WR.split 28 (b := (!r28)) (by kernel_rfl) (fun hb37 => ?_) (fun hb37 => ?_)
    · replace H := ite_t H hb37
      refine WR.runk [4, 5, 6, 7, 8, 9, 10] [] [0, 1, 2, 7, 8, 9, 35] (L' := [(0, .int .i64 a0), (1, .slice A1 l1.length c1), (2, .slice A2 l2.length c2), (7, .slice A15 y14.length c16), (8, pv27), (9, .int .i64 r18.2), (35, .bool true)]) (w' := w35) (by kernel_rfl) ?_
      refine WR.nil ?_
      refine At.go ?_
      refine WC.condT (by kernel_rfl) (by kernel_rfl) (by kernel_rfl) ?_
      refine WC.seq (by kernel_rfl) ?_
      refine WC.reg [0, 1, 2, 3, 4, 5, 6, 7, 8, 9, 10, 11, 12, 13] (by kernel_rfl) (by kernel_rfl) ?_
      refine WR.runk [0, 1, 2] [3, 4, 5, 6, 7, 8, 9, 10, 11, 12, 13] [1, 7, 8, 38] (L' := [(1, .slice A1 l1.length c1), (7, .slice A15 y14.length c16), (8, pv27), (38, .bool (r18.2 == 2))]) (w' := w35) (by kernel_rfl) ?_
      refine WR.split 38 (b := (r18.2 == 2)) (by kernel_rfl) (fun hb38 => ?_) (fun hb38 => ?_)
      · replace H := ite_t H hb38
        refine WR.runk [3] [4, 5, 6, 7, 8, 9, 10, 11, 12, 13] [1, 7, 38, 39] (L' := [(1, .slice A1 l1.length c1), (7, .slice A15 y14.length c16), (38, .bool true), (39, pv27)]) (w' := w35) (by kernel_rfl) ?_
        rcases hr40 : r18.1 with _ | y39
        · rw [hr40] at H
          dsimp only at H
          have hv41 := optP.none hS hr40
          subst hv41
          have hS : Sat w35 (rf w0) [osl 27 (r0 (.pair (.int .i64) (.int .i64))) 2 A15 c16 y14] := hS.sel [1] (by kernel_rfl)
          refine WR.runk [4, 5, 6, 7] [8, 9, 10, 11, 12, 13] [1, 42, 43] (L' := [(1, .slice A1 l1.length c1), (42, .bool true), (43, .slice A15 y14.length c16)]) (w' := w35) (by kernel_rfl) ?_
          obtain ⟨r45, e46, H⟩ := bind_ex H
          refine WR.st (St.call (by kernel_rfl) (f := 12) (args := #[.slice A15 y14.length c16]) (by kernel_rfl) (quota_Right.calls w35 A15 c16 y14 (Sat.rdAt 0 hS rfl) r45 e46) ?_)
          rintro _ w52 ⟨rfl, hS53⟩
          have hS : Sat w52 (rf w0) [osl 27 (r0 (.pair (.int .i64) (.int .i64))) 2 A15 c16 y14] := hS.ext hS53
          refine WR.runk [9] [10, 11, 12, 13] [42, 44, 45] (L' := [(42, .bool true), (44, .bool r45), (45, .slice A1 l1.length c1)]) (w' := w52) (by kernel_rfl) ?_
          obtain ⟨r54, e55, H⟩ := bind_ex H
          refine WR.st (St.call (by kernel_rfl) (f := 11) (args := #[.slice A1 l1.length c1]) (by kernel_rfl) (colophonref22_Right.calls w52 A1 c1 l1 (rdS.up R1 hS.sub0) r54 e55) ?_)
          rintro _ w61 ⟨rfl, hS62⟩
          have hS : Sat w61 (rf w0) [osl 27 (r0 (.pair (.int .i64) (.int .i64))) 2 A15 c16 y14] := hS.ext hS62
          refine WR.runk [11, 12, 13] [] [6] (L' := [(6, .bool (r45 == r54))]) (w' := w61) (by kernel_rfl) ?_
          refine WR.nil ?_
          refine At.go ?_
          refine WC.ret (by kernel_rfl) ?_
          refine At.thenRet ?_
          obtain rfl := Option.some.inj H
          have hS : Sat w61 (rf w0) [] := hS.sel [] (by kernel_rfl)
          exact At.body [.bool (r45 == r54)] (by kernel_rfl) ⟨_, rfl, rfl, hS⟩
        · rw [hr40] at H
          dsimp only at H
          obtain ⟨b42, hv41, hN44⟩ := optP.some hS hr40
          subst hv41
          have hS : Sat w35 (rf w0) [O49 b42 y39, osl 27 (r0 (.pair (.int .i64) (.int .i64))) 2 A15 c16 y14] := hN44
          refine WR.runk [4, 5, 6, 7, 8, 9, 10, 11, 12, 13] [] [6] (L' := [(6, .bool false)]) (w' := w35) (by kernel_rfl) ?_
          refine WR.nil ?_
          refine At.go ?_
          refine WC.ret (by kernel_rfl) ?_
          refine At.thenRet ?_
          obtain rfl := Option.some.inj H
          have hS : Sat w35 (rf w0) [] := hS.sel [] (by kernel_rfl)
          exact At.body [.bool false] (by kernel_rfl) ⟨_, rfl, rfl, hS⟩
      · replace H := ite_f H hb38
        refine WR.runk [3, 4, 5, 6, 7, 8, 9, 10, 11, 12, 13] [] [6] (L' := [(6, .bool false)]) (w' := w35) (by kernel_rfl) ?_
        refine WR.nil ?_
        refine At.go ?_
        refine WC.ret (by kernel_rfl) ?_
        refine At.thenRet ?_
        obtain rfl := Option.some.inj H
        have hS : Sat w35 (rf w0) [] := hS.sel [] (by kernel_rfl)
        exact At.body [.bool false] (by kernel_rfl) ⟨_, rfl, rfl, hS⟩
    · replace H := ite_f H hb37
      refine WR.runk [4, 5, 6, 7] [8, 9, 10] [0, 1, 2, 7, 8, 9, 32] (L' := [(0, .int .i64 a0), (1, .slice A1 l1.length c1), (2, .slice A2 l2.length c2), (7, .slice A15 y14.length c16), (8, pv27), (9, .int .i64 r18.2), (32, .bool (decide (a0 < 1)))]) (w' := w35) (by kernel_rfl) ?_
      refine WR.split 32 (b := decide (a0 < 1)) (by kernel_rfl) (fun hb63 => ?_) (fun hb63 => ?_)
      · replace H := ite_t H hb63
        refine WR.runk [8, 9, 10] [] [0, 1, 2, 7, 8, 9, 35] (L' := [(0, .int .i64 a0), (1, .slice A1 l1.length c1), (2, .slice A2 l2.length c2), (7, .slice A15 y14.length c16), (8, pv27), (9, .int .i64 r18.2), (35, .bool true)]) (w' := w35) (by kernel_rfl) ?_
        refine WR.nil ?_
        refine At.go ?_
        refine WC.condT (by kernel_rfl) (by kernel_rfl) (by kernel_rfl) ?_
        refine WC.seq (by kernel_rfl) ?_
        refine WC.reg [0, 1, 2, 3, 4, 5, 6, 7, 8, 9, 10, 11, 12, 13] (by kernel_rfl) (by kernel_rfl) ?_
        refine WR.runk [0, 1, 2] [3, 4, 5, 6, 7, 8, 9, 10, 11, 12, 13] [1, 7, 8, 38] (L' := [(1, .slice A1 l1.length c1), (7, .slice A15 y14.length c16), (8, pv27), (38, .bool (r18.2 == 2))]) (w' := w35) (by kernel_rfl) ?_
        refine WR.split 38 (b := (r18.2 == 2)) (by kernel_rfl) (fun hb64 => ?_) (fun hb64 => ?_)
        · replace H := ite_t H hb64
          refine WR.runk [3] [4, 5, 6, 7, 8, 9, 10, 11, 12, 13] [1, 7, 38, 39] (L' := [(1, .slice A1 l1.length c1), (7, .slice A15 y14.length c16), (38, .bool true), (39, pv27)]) (w' := w35) (by kernel_rfl) ?_
          rcases hr66 : r18.1 with _ | y65
          · rw [hr66] at H
            dsimp only at H
            have hv67 := optP.none hS hr66
            subst hv67
            have hS : Sat w35 (rf w0) [osl 27 (r0 (.pair (.int .i64) (.int .i64))) 2 A15 c16 y14] := hS.sel [1] (by kernel_rfl)
            refine WR.runk [4, 5, 6, 7] [8, 9, 10, 11, 12, 13] [1, 42, 43] (L' := [(1, .slice A1 l1.length c1), (42, .bool true), (43, .slice A15 y14.length c16)]) (w' := w35) (by kernel_rfl) ?_
            obtain ⟨r71, e72, H⟩ := bind_ex H
            refine WR.st (St.call (by kernel_rfl) (f := 12) (args := #[.slice A15 y14.length c16]) (by kernel_rfl) (quota_Right.calls w35 A15 c16 y14 (Sat.rdAt 0 hS rfl) r71 e72) ?_)
            rintro _ w78 ⟨rfl, hS79⟩
            have hS : Sat w78 (rf w0) [osl 27 (r0 (.pair (.int .i64) (.int .i64))) 2 A15 c16 y14] := hS.ext hS79
            refine WR.runk [9] [10, 11, 12, 13] [42, 44, 45] (L' := [(42, .bool true), (44, .bool r71), (45, .slice A1 l1.length c1)]) (w' := w78) (by kernel_rfl) ?_
            obtain ⟨r80, e81, H⟩ := bind_ex H
            refine WR.st (St.call (by kernel_rfl) (f := 11) (args := #[.slice A1 l1.length c1]) (by kernel_rfl) (colophonref22_Right.calls w78 A1 c1 l1 (rdS.up R1 hS.sub0) r80 e81) ?_)
            rintro _ w87 ⟨rfl, hS88⟩
            have hS : Sat w87 (rf w0) [osl 27 (r0 (.pair (.int .i64) (.int .i64))) 2 A15 c16 y14] := hS.ext hS88
            refine WR.runk [11, 12, 13] [] [6] (L' := [(6, .bool (r71 == r80))]) (w' := w87) (by kernel_rfl) ?_
            refine WR.nil ?_
            refine At.go ?_
            refine WC.ret (by kernel_rfl) ?_
            refine At.thenRet ?_
            obtain rfl := Option.some.inj H
            have hS : Sat w87 (rf w0) [] := hS.sel [] (by kernel_rfl)
            exact At.body [.bool (r71 == r80)] (by kernel_rfl) ⟨_, rfl, rfl, hS⟩
          · rw [hr66] at H
            dsimp only at H
            obtain ⟨b68, hv67, hN70⟩ := optP.some hS hr66
            subst hv67
            have hS : Sat w35 (rf w0) [O49 b68 y65, osl 27 (r0 (.pair (.int .i64) (.int .i64))) 2 A15 c16 y14] := hN70
            refine WR.runk [4, 5, 6, 7, 8, 9, 10, 11, 12, 13] [] [6] (L' := [(6, .bool false)]) (w' := w35) (by kernel_rfl) ?_
            refine WR.nil ?_
            refine At.go ?_
            refine WC.ret (by kernel_rfl) ?_
            refine At.thenRet ?_
            obtain rfl := Option.some.inj H
            have hS : Sat w35 (rf w0) [] := hS.sel [] (by kernel_rfl)
            exact At.body [.bool false] (by kernel_rfl) ⟨_, rfl, rfl, hS⟩
        · replace H := ite_f H hb64
          refine WR.runk [3, 4, 5, 6, 7, 8, 9, 10, 11, 12, 13] [] [6] (L' := [(6, .bool false)]) (w' := w35) (by kernel_rfl) ?_
          refine WR.nil ?_
          refine At.go ?_
          refine WC.ret (by kernel_rfl) ?_
          refine At.thenRet ?_
          obtain rfl := Option.some.inj H
          have hS : Sat w35 (rf w0) [] := hS.sel [] (by kernel_rfl)
          exact At.body [.bool false] (by kernel_rfl) ⟨_, rfl, rfl, hS⟩
      · replace H := ite_f H hb63
        refine WR.runk [8, 9, 10] [] [0, 1, 2, 7, 8, 9, 35] (L' := [(0, .int .i64 a0), (1, .slice A1 l1.length c1), (2, .slice A2 l2.length c2), (7, .slice A15 y14.length c16), (8, pv27), (9, .int .i64 r18.2), (35, .bool (decide (a0 > 64)))]) (w' := w35) (by kernel_rfl) ?_
        refine WR.nil ?_
        refine At.go ?_
        refine WC.cond (by kernel_rfl) (decide (a0 > 64)) (by kernel_rfl) (by kernel_rfl) (fun hb89 => ?_) (fun hb89 => ?_)
        · replace H := ite_t H hb89
          refine WC.seq (by kernel_rfl) ?_
          refine WC.reg [0, 1, 2, 3, 4, 5, 6, 7, 8, 9, 10, 11, 12, 13] (by kernel_rfl) (by kernel_rfl) ?_
          refine WR.runk [0, 1, 2] [3, 4, 5, 6, 7, 8, 9, 10, 11, 12, 13] [1, 7, 8, 38] (L' := [(1, .slice A1 l1.length c1), (7, .slice A15 y14.length c16), (8, pv27), (38, .bool (r18.2 == 2))]) (w' := w35) (by kernel_rfl) ?_
          refine WR.split 38 (b := (r18.2 == 2)) (by kernel_rfl) (fun hb90 => ?_) (fun hb90 => ?_)
          · replace H := ite_t H hb90
            refine WR.runk [3] [4, 5, 6, 7, 8, 9, 10, 11, 12, 13] [1, 7, 38, 39] (L' := [(1, .slice A1 l1.length c1), (7, .slice A15 y14.length c16), (38, .bool true), (39, pv27)]) (w' := w35) (by kernel_rfl) ?_
            rcases hr92 : r18.1 with _ | y91
            · rw [hr92] at H
              dsimp only at H
              have hv93 := optP.none hS hr92
              subst hv93
              have hS : Sat w35 (rf w0) [osl 27 (r0 (.pair (.int .i64) (.int .i64))) 2 A15 c16 y14] := hS.sel [1] (by kernel_rfl)
              refine WR.runk [4, 5, 6, 7] [8, 9, 10, 11, 12, 13] [1, 42, 43] (L' := [(1, .slice A1 l1.length c1), (42, .bool true), (43, .slice A15 y14.length c16)]) (w' := w35) (by kernel_rfl) ?_
              obtain ⟨r97, e98, H⟩ := bind_ex H
              refine WR.st (St.call (by kernel_rfl) (f := 12) (args := #[.slice A15 y14.length c16]) (by kernel_rfl) (quota_Right.calls w35 A15 c16 y14 (Sat.rdAt 0 hS rfl) r97 e98) ?_)
              rintro _ w104 ⟨rfl, hS105⟩
              have hS : Sat w104 (rf w0) [osl 27 (r0 (.pair (.int .i64) (.int .i64))) 2 A15 c16 y14] := hS.ext hS105
              refine WR.runk [9] [10, 11, 12, 13] [42, 44, 45] (L' := [(42, .bool true), (44, .bool r97), (45, .slice A1 l1.length c1)]) (w' := w104) (by kernel_rfl) ?_
              obtain ⟨r106, e107, H⟩ := bind_ex H
              refine WR.st (St.call (by kernel_rfl) (f := 11) (args := #[.slice A1 l1.length c1]) (by kernel_rfl) (colophonref22_Right.calls w104 A1 c1 l1 (rdS.up R1 hS.sub0) r106 e107) ?_)
              rintro _ w113 ⟨rfl, hS114⟩
              have hS : Sat w113 (rf w0) [osl 27 (r0 (.pair (.int .i64) (.int .i64))) 2 A15 c16 y14] := hS.ext hS114
              refine WR.runk [11, 12, 13] [] [6] (L' := [(6, .bool (r97 == r106))]) (w' := w113) (by kernel_rfl) ?_
              refine WR.nil ?_
              refine At.go ?_
              refine WC.ret (by kernel_rfl) ?_
              refine At.thenRet ?_
              obtain rfl := Option.some.inj H
              have hS : Sat w113 (rf w0) [] := hS.sel [] (by kernel_rfl)
              exact At.body [.bool (r97 == r106)] (by kernel_rfl) ⟨_, rfl, rfl, hS⟩
            · rw [hr92] at H
              dsimp only at H
              obtain ⟨b94, hv93, hN96⟩ := optP.some hS hr92
              subst hv93
              have hS : Sat w35 (rf w0) [O49 b94 y91, osl 27 (r0 (.pair (.int .i64) (.int .i64))) 2 A15 c16 y14] := hN96
              refine WR.runk [4, 5, 6, 7, 8, 9, 10, 11, 12, 13] [] [6] (L' := [(6, .bool false)]) (w' := w35) (by kernel_rfl) ?_
              refine WR.nil ?_
              refine At.go ?_
              refine WC.ret (by kernel_rfl) ?_
              refine At.thenRet ?_
              obtain rfl := Option.some.inj H
              have hS : Sat w35 (rf w0) [] := hS.sel [] (by kernel_rfl)
              exact At.body [.bool false] (by kernel_rfl) ⟨_, rfl, rfl, hS⟩
          · replace H := ite_f H hb90
            refine WR.runk [3, 4, 5, 6, 7, 8, 9, 10, 11, 12, 13] [] [6] (L' := [(6, .bool false)]) (w' := w35) (by kernel_rfl) ?_
            refine WR.nil ?_
            refine At.go ?_
            refine WC.ret (by kernel_rfl) ?_
            refine At.thenRet ?_
            obtain rfl := Option.some.inj H
            have hS : Sat w35 (rf w0) [] := hS.sel [] (by kernel_rfl)
            exact At.body [.bool false] (by kernel_rfl) ⟨_, rfl, rfl, hS⟩
        · replace H := ite_f H hb89
          refine WC.skip (by kernel_rfl) ?_
          refine At.go ?_
          refine WC.seq (by kernel_rfl) ?_
          refine WC.seq (by kernel_rfl) ?_
          refine WC.reg [0, 1, 2] (by kernel_rfl) (by kernel_rfl) ?_
          refine WR.runk [0, 1, 2] [] [0, 1, 2, 7, 8, 50, 51] (L' := [(0, .int .i64 a0), (1, .slice A1 l1.length c1), (2, .slice A2 l2.length c2), (7, .slice A15 y14.length c16), (8, pv27), (50, .int .i64 (y14.length : Int)), (51, .int .i64 0)]) (w' := w35) (by kernel_rfl) ?_
          refine WR.nil ?_
          refine At.go ?_
          refine WC.block (by kernel_rfl) ?_
          obtain ⟨y115, hr116, H⟩ := bind_ex H
          obtain ⟨b118, hv117, hN288⟩ := optP.some hS hr116
          subst hv117
          have hS : Sat w35 (rf w0) [O49 b118 y115, osl 27 (r0 (.pair (.int .i64) (.int .i64))) 2 A15 c16 y14] := hN288
          have hS : Sat w35 (rf w0) [osl 27 (r0 (.pair (.int .i64) (.int .i64))) 2 A15 c16 y14, O49 b118 y115] := hS.sel [1, 0] (by kernel_rfl)
          obtain ⟨o127, e128, H⟩ := bind_ex H
          refine WC.loop (by kernel_rfl) ?_
          refine WL.weaken [0, 1, 2, 7, 8, 50, 51] (L' := [(0, .int .i64 a0), (1, .slice A1 l1.length c1), (2, .slice A2 l2.length c2), (7, .slice A15 y14.length c16), (8, .pointer (some ⟨b118, 0, none⟩)), (50, .int .i64 (y14.length : Int)), (51, .int .i64 0)]) (by kernel_rfl) ?_
          refine colophonlaw22_QuotaPlays.l1_ok w0 a0 A1 c1 l1 A2 c2 l2 y14 y115 b118 o127 (fun w130 hS => ?_) FU y14 0 A15 c16 _ hS e128
          refine At.hit ?_
          refine At.go ?_
          refine WC.seq (by kernel_rfl) ?_
          refine WC.reg [0, 1, 2, 3, 4] (by kernel_rfl) (by kernel_rfl) ?_
          refine WR.runk [0, 1, 2] [3, 4] [1, 2, 8, 61] (L' := [(1, .slice A1 l1.length c1), (2, .slice A2 l2.length c2), (8, .pointer (some ⟨b118, 0, none⟩)), (61, .agg #[.int .i64 a0, .slice A1 l1.length c1, .slice none 0 0])]) (w' := w130) (by kernel_rfl) ?_
          refine WR.st (St.box hS (by kernel_rfl) (.cells #[.int .i64 a0, .slice A1 l1.length c1, .slice none 0 0] 42) (fun b132 => .pointer (some ⟨b132, 0, none⟩)) (fun _ => by kernel_rfl) (fun b132 w133 hS => ?_))
          refine WR.runk [4] [] [1, 2, 8, 11] (L' := [(1, .slice A1 l1.length c1), (2, .slice A2 l2.length c2), (8, .pointer (some ⟨b118, 0, none⟩)), (11, .pointer (some ⟨b132, 0, none⟩))]) (w' := w133) (by kernel_rfl) ?_
          refine WR.nil ?_
          refine At.go ?_
          refine WC.seq (by kernel_rfl) ?_
          refine WC.seq (by kernel_rfl) ?_
          refine WC.reg [0, 1, 2] (by kernel_rfl) (by kernel_rfl) ?_
          refine WR.runk [0, 1, 2] [] [1, 8, 11, 63, 64, 65] (L' := [(1, .slice A1 l1.length c1), (8, .pointer (some ⟨b118, 0, none⟩)), (11, .pointer (some ⟨b132, 0, none⟩)), (63, .slice A2 l2.length c2), (64, .int .i64 (l2.length : Int)), (65, .int .i64 0)]) (w' := w133) (by kernel_rfl) ?_
          refine WR.nil ?_
          refine At.go ?_
          refine WC.block (by kernel_rfl) ?_
          have hS := hS.addNil (α := Int) 3 (r0 (.int .i64)) 1
          have hS : Sat w133 (rf w0) [pts b132 (.cells #[.int .i64 a0, .slice A1 l1.length c1, .slice none 0 0] 42 (0, 0)), osl 3 (r0 (.int .i64)) 1 none 0 ([] : List Int), O49 b118 y115] := hS.sel [1, 0, 2] (by kernel_rfl)
          have hS : Sat w133 (rf w0) [O42r1 (hp w0) b132 (a0, l1, ([] : List Int)), O49 b118 y115] := O42r1.close (hp w0) (a0, l1, ([] : List Int)) A1 c1 none 0 R1 hS
          have hS : Sat w133 (rf w0) [O49 b118 y115, O42r1 (hp w0) b132 (a0, l1, ([] : List Int))] := hS.sel [1, 0] (by kernel_rfl)
          obtain ⟨o278, e279, H⟩ := bind_ex H
          refine WC.loop (by kernel_rfl) ?_
          refine WL.weaken [1, 8, 11, 63, 64, 65] (L' := [(1, .slice A1 l1.length c1), (8, .pointer (some ⟨b118, 0, none⟩)), (11, .pointer (some ⟨b132, 0, none⟩)), (63, .slice A2 l2.length c2), (64, .int .i64 (l2.length : Int)), (65, .int .i64 0)]) (by kernel_rfl) ?_
          refine colophonlaw22_QuotaPlays.l2_ok w0 A1 c1 l1 A2 c2 l2 b118 b132 R2 o278 (fun o280 w282 ho283 hS => ?_) (fun o284 w286 ho287 hS => ?_) FU 0 y115 (a0, l1, ([] : List Int)) _ hS e279
          · subst ho283
            dsimp only at H
            refine At.hit ?_
            refine At.go ?_
            refine WC.seq (by kernel_rfl) ?_
            refine WC.reg [0] (by kernel_rfl) (by kernel_rfl) ?_
            refine WR.runk [0] [] [6] (L' := [(6, .bool true)]) (w' := w282) (by kernel_rfl) ?_
            refine WR.nil ?_
            refine At.go ?_
            refine WC.ret (by kernel_rfl) ?_
            obtain rfl := Option.some.inj H
            have hS : Sat w282 (rf w0) [] := hS.sel [] (by kernel_rfl)
            exact At.body [.bool true] (by kernel_rfl) ⟨_, rfl, rfl, hS⟩
          · subst ho287
            dsimp only at H
            refine At.blockRet ?_
            refine At.thenRet ?_
            obtain rfl := Option.some.inj H
            have hS : Sat w286 (rf w0) [] := hS.sel [] (by kernel_rfl)
            exact At.body [.bool o284.1] (by kernel_rfl) ⟨_, rfl, rfl, hS⟩
end Go.Proofs.Ythlbebgmphnniaa
