/-
  Printed by gen.py (my own tool): for each Go function a plain Lean function and the proof that a call of it does what that function says.
-/
import Derived.Test.YtbcdcpkofgfofaaGP1d
set_option linter.unusedVariables false
set_option linter.unusedSimpArgs false
set_option maxRecDepth 100000
namespace Go.Proofs.Ytbcdcpkofgfofaa
open Go Go.Gol
/-! ### 3 colophon/colophonlaw07.CachePlays -/
def colophonlaw07_CachePlays.l2 (l2 : List (Int × Int)) (r64 : (List Int) × Bool × Int × ((Option ((List (List Int)) × (List Int) × (List Int))) × (List (Int × (List Int) × Bool × Int)) × Int × Int × Int)) : Nat → (List Int) → Int → Option Unit
  | 0, _, _ => none
  | k + 1, x12_l2, x142_l2 => (if decide (x142_l2 < (r64.1.length : Int)) then ((at? x12_l2 x142_l2).bind fun v97 => ((set? x12_l2 x142_l2 (ixor .u8 v97 255)).bind fun y99 => colophonlaw07_CachePlays.l2 l2 r64 k y99 (wi (x142_l2 + 1)))) else some ())
def colophonlaw07_CachePlays.l3 (r64 : (List Int) × Bool × Int × ((Option ((List (List Int)) × (List Int) × (List Int))) × (List (Int × (List Int) × Bool × Int)) × Int × Int × Int)) : Nat → (List Int) → Int → Option Unit
  | 0, _, _ => none
  | k + 1, x12_l3, x142_l3 => (if decide (x142_l3 < (r64.1.length : Int)) then ((at? x12_l3 x142_l3).bind fun v128 => ((set? x12_l3 x142_l3 (ixor .u8 v128 255)).bind fun y130 => colophonlaw07_CachePlays.l3 r64 k y130 (wi (x142_l3 + 1)))) else some ())
def colophonlaw07_CachePlays.l4 (r64 : (List Int) × Bool × Int × ((Option ((List (List Int)) × (List Int) × (List Int))) × (List (Int × (List Int) × Bool × Int)) × Int × Int × Int)) : Nat → (List Int) → Int → Option Unit
  | 0, _, _ => none
  | k + 1, x12_l4, x142_l4 => (if decide (x142_l4 < (r64.1.length : Int)) then ((at? x12_l4 x142_l4).bind fun v159 => ((set? x12_l4 x142_l4 (ixor .u8 v159 255)).bind fun y161 => colophonlaw07_CachePlays.l4 r64 k y161 (wi (x142_l4 + 1)))) else some ())
def colophonlaw07_CachePlays.l5 (r64 : (List Int) × Bool × Int × ((Option ((List (List Int)) × (List Int) × (List Int))) × (List (Int × (List Int) × Bool × Int)) × Int × Int × Int)) : Nat → (List Int) → Int → Option Unit
  | 0, _, _ => none
  | k + 1, x12_l5, x142_l5 => (if decide (x142_l5 < (r64.1.length : Int)) then ((at? x12_l5 x142_l5).bind fun v198 => ((set? x12_l5 x142_l5 (ixor .u8 v198 255)).bind fun y200 => colophonlaw07_CachePlays.l5 r64 k y200 (wi (x142_l5 + 1)))) else some ())
def colophonlaw07_CachePlays.l6 (r64 : (List Int) × Bool × Int × ((Option ((List (List Int)) × (List Int) × (List Int))) × (List (Int × (List Int) × Bool × Int)) × Int × Int × Int)) : Nat → (List Int) → Int → Option Unit
  | 0, _, _ => none
  | k + 1, x12_l6, x142_l6 => (if decide (x142_l6 < (r64.1.length : Int)) then ((at? x12_l6 x142_l6).bind fun v229 => ((set? x12_l6 x142_l6 (ixor .u8 v229 255)).bind fun y231 => colophonlaw07_CachePlays.l6 r64 k y231 (wi (x142_l6 + 1)))) else some ())
def colophonlaw07_CachePlays.l7 (r64 : (List Int) × Bool × Int × ((Option ((List (List Int)) × (List Int) × (List Int))) × (List (Int × (List Int) × Bool × Int)) × Int × Int × Int)) : Nat → (List Int) → Int → Option Unit
  | 0, _, _ => none
  | k + 1, x12_l7, x142_l7 => (if decide (x142_l7 < (r64.1.length : Int)) then ((at? x12_l7 x142_l7).bind fun v260 => ((set? x12_l7 x142_l7 (ixor .u8 v260 255)).bind fun y262 => colophonlaw07_CachePlays.l7 r64 k y262 (wi (x142_l7 + 1)))) else some ())
def colophonlaw07_CachePlays.l8 (q54_l1 : Int × (List (Int × Int × Bool)) × Int × Int × Int) (v56 : Int × Int) : Nat → Bool → Int → Option Bool
  | 0, _, _ => none
  | k + 1, x18_l8, x61_l8 => (if decide (x61_l8 < (q54_l1.2.1.length : Int)) then ((at? q54_l1.2.1 x61_l8).bind fun v334 => (if x18_l8 then colophonlaw07_CachePlays.l8 q54_l1 v56 k true (wi (x61_l8 + 1)) else (if decide (v56.2 ≥ 0) then colophonlaw07_CachePlays.l8 q54_l1 v56 k (v334.1 == v56.2) (wi (x61_l8 + 1)) else colophonlaw07_CachePlays.l8 q54_l1 v56 k false (wi (x61_l8 + 1))))) else some x18_l8)
def colophonlaw07_CachePlays.l1 (l2 : List (Int × Int)) : Nat → Int → ((Option ((List (List Int)) × (List Int) × (List Int))) × (List (Int × (List Int) × Bool × Int)) × Int × Int × Int) → (Int × (List (Int × Int × Bool)) × Int × Int × Int) → Option (Sum (((Option ((List (List Int)) × (List Int) × (List Int))) × (List (Int × (List Int) × Bool × Int)) × Int × Int × Int) × (Int × (List (Int × Int × Bool)) × Int × Int × Int)) (Bool × ((Option ((List (List Int)) × (List Int) × (List Int))) × (List (Int × (List Int) × Bool × Int)) × Int × Int × Int) × (Int × (List (Int × Int × Bool)) × Int × Int × Int)))
  | 0, _, _, _ => none
  | k + 1, x45_l1, q49_l1, q54_l1 => (if decide (x45_l1 < (l2.length : Int)) then ((at? l2 x45_l1).bind fun v56 => (if decide (x45_l1 ≥ 100) then some (.inl (q49_l1, q54_l1)) else (if ((Int.tmod (IntKind.wrap .u64 v56.1) 3) == 0) then ((cache_Cache_Hold.f q49_l1 v56.2).bind fun r64 => ((colophonref07_Cache_Hold.f q54_l1 v56.2).bind fun r75 => (if (r64.2.2.1 != r75.2.1) then some (.inr (false, r64.2.2.2, r75.2.2)) else (if (r64.2.1 != r75.1) then some (.inr (false, r64.2.2.2, r75.2.2)) else (if (r75.2.1 != 0) then (if ((r64.1.length : Int) != 0) then some (.inr (false, r64.2.2.2, r75.2.2)) else (if (r75.2.1 == 0) then (if ((r64.1.length : Int) != 256) then some (.inr (false, r64.2.2.2, r75.2.2)) else (if decide (v56.2 > 0) then ((at? r64.1 0).bind fun v93 => (if ((wi v93) != v56.2) then some (.inr (false, r64.2.2.2, r75.2.2)) else ((colophonlaw07_CachePlays.l2 l2 r64 FU r64.1 0).bind fun o103 => ((cache_Cache_Stats.f (some r64.2.2.2)).bind fun r108 => ((colophonref07_Cache_Stats.f (some r75.2.2)).bind fun r117 => (if (!(([r108.1, r108.2.1, r108.2.2.1, r108.2.2.2] : List Int) == ([r117.1, r117.2.1, r117.2.2.1, r117.2.2.2] : List Int))) then some (.inr (false, r64.2.2.2, r75.2.2)) else colophonlaw07_CachePlays.l1 l2 k (wi (x45_l1 + 1)) r64.2.2.2 r75.2.2)))))) else ((colophonlaw07_CachePlays.l3 r64 FU r64.1 0).bind fun o134 => ((cache_Cache_Stats.f (some r64.2.2.2)).bind fun r139 => ((colophonref07_Cache_Stats.f (some r75.2.2)).bind fun r148 => (if (!(([r139.1, r139.2.1, r139.2.2.1, r139.2.2.2] : List Int) == ([r148.1, r148.2.1, r148.2.2.1, r148.2.2.2] : List Int))) then some (.inr (false, r64.2.2.2, r75.2.2)) else colophonlaw07_CachePlays.l1 l2 k (wi (x45_l1 + 1)) r64.2.2.2 r75.2.2)))))) else ((colophonlaw07_CachePlays.l4 r64 FU r64.1 0).bind fun o165 => ((cache_Cache_Stats.f (some r64.2.2.2)).bind fun r170 => ((colophonref07_Cache_Stats.f (some r75.2.2)).bind fun r179 => (if (!(([r170.1, r170.2.1, r170.2.2.1, r170.2.2.2] : List Int) == ([r179.1, r179.2.1, r179.2.2.1, r179.2.2.2] : List Int))) then some (.inr (false, r64.2.2.2, r75.2.2)) else colophonlaw07_CachePlays.l1 l2 k (wi (x45_l1 + 1)) r64.2.2.2 r75.2.2)))))) else (if (r75.2.1 == 0) then (if ((r64.1.length : Int) != 256) then some (.inr (false, r64.2.2.2, r75.2.2)) else (if decide (v56.2 > 0) then ((at? r64.1 0).bind fun v194 => (if ((wi v194) != v56.2) then some (.inr (false, r64.2.2.2, r75.2.2)) else ((colophonlaw07_CachePlays.l5 r64 FU r64.1 0).bind fun o204 => ((cache_Cache_Stats.f (some r64.2.2.2)).bind fun r209 => ((colophonref07_Cache_Stats.f (some r75.2.2)).bind fun r218 => (if (!(([r209.1, r209.2.1, r209.2.2.1, r209.2.2.2] : List Int) == ([r218.1, r218.2.1, r218.2.2.1, r218.2.2.2] : List Int))) then some (.inr (false, r64.2.2.2, r75.2.2)) else colophonlaw07_CachePlays.l1 l2 k (wi (x45_l1 + 1)) r64.2.2.2 r75.2.2)))))) else ((colophonlaw07_CachePlays.l6 r64 FU r64.1 0).bind fun o235 => ((cache_Cache_Stats.f (some r64.2.2.2)).bind fun r240 => ((colophonref07_Cache_Stats.f (some r75.2.2)).bind fun r249 => (if (!(([r240.1, r240.2.1, r240.2.2.1, r240.2.2.2] : List Int) == ([r249.1, r249.2.1, r249.2.2.1, r249.2.2.2] : List Int))) then some (.inr (false, r64.2.2.2, r75.2.2)) else colophonlaw07_CachePlays.l1 l2 k (wi (x45_l1 + 1)) r64.2.2.2 r75.2.2)))))) else ((colophonlaw07_CachePlays.l7 r64 FU r64.1 0).bind fun o266 => ((cache_Cache_Stats.f (some r64.2.2.2)).bind fun r271 => ((colophonref07_Cache_Stats.f (some r75.2.2)).bind fun r280 => (if (!(([r271.1, r271.2.1, r271.2.2.1, r271.2.2.2] : List Int) == ([r280.1, r280.2.1, r280.2.2.1, r280.2.2.2] : List Int))) then some (.inr (false, r64.2.2.2, r75.2.2)) else colophonlaw07_CachePlays.l1 l2 k (wi (x45_l1 + 1)) r64.2.2.2 r75.2.2)))))))))) else (if ((Int.tmod (IntKind.wrap .u64 v56.1) 3) == 1) then ((cache_Cache_Drop.f q49_l1 v56.2).bind fun r293 => ((colophonref07_Cache_Drop.f q54_l1 v56.2).bind fun r302 => (if (r293.1 != r302.1) then some (.inr (false, r293.2, r302.2)) else ((cache_Cache_Stats.f (some r293.2)).bind fun r312 => ((colophonref07_Cache_Stats.f (some r302.2)).bind fun r321 => (if (!(([r312.1, r312.2.1, r312.2.2.1, r312.2.2.2] : List Int) == ([r321.1, r321.2.1, r321.2.2.1, r321.2.2.2] : List Int))) then some (.inr (false, r293.2, r302.2)) else colophonlaw07_CachePlays.l1 l2 k (wi (x45_l1 + 1)) r293.2 r302.2)))))) else ((colophonlaw07_CachePlays.l8 q54_l1 v56 FU false 0).bind fun o342 => ((cache_Cache_Has.f (some q49_l1) v56.2).bind fun r347 => (if (r347 != o342) then some (.inr (false, q49_l1, q54_l1)) else ((cache_Cache_Stats.f (some q49_l1)).bind fun r357 => ((colophonref07_Cache_Stats.f (some (q54_l1.1, q54_l1.2.1, q54_l1.2.2.1, q54_l1.2.2.2.1, q54_l1.2.2.2.2))).bind fun r366 => (if (!(([r357.1, r357.2.1, r357.2.2.1, r357.2.2.2] : List Int) == ([r366.1, r366.2.1, r366.2.2.1, r366.2.2.2] : List Int))) then some (.inr (false, q49_l1, q54_l1)) else colophonlaw07_CachePlays.l1 l2 k (wi (x45_l1 + 1)) q49_l1 q54_l1)))))))))) else some (.inl (q49_l1, q54_l1)))
def colophonlaw07_CachePlays.f (a0 : Int) (a1 : Int) (l2 : List (Int × Int)) : Option Bool := (colophonlaw07_first.f.bind fun r1 => (if (!r1) then some false else ((colophonlaw07_made.f (wi (1 + (wi (Int.tmod (IntKind.wrap .u64 a0) 20)))) a1).bind fun r11 => (if decide (a1 < 1) then (match r11 with | none => some true | some y22 => some false) else (if decide (a1 > 4096) then (match r11 with | none => some true | some y29 => some false) else ((colophonref07_New.f (wi ((wi (1 + (wi (Int.tmod (IntKind.wrap .u64 a0) 20)))) + 1)) a1).bind fun r35 => (r11.bind fun y45 => (r35.bind fun y50 => ((colophonlaw07_CachePlays.l1 l2 FU 0 y45 y50).bind fun o376 => (match o376 with | .inl o378 => some true | .inr o382 => some o382.1))))))))))
def colophonlaw07_CachePlays.post (w : World) (r : Bool) (v : Value) (w' : World) : Prop := v = (.bool r : Value) ∧ Sat w' (rf w) []
theorem colophonlaw07_CachePlays.l2_ok {Q} (w0 : World) (A2 : Option Addr) (c2 : Nat) (l2 : List (Int × Int)) (b48 : Nat) (b53 : Nat) (x45_l1 : Int) (r64 : (List Int) × Bool × Int × ((Option ((List (List Int)) × (List Int) × (List Int))) × (List (Int × (List Int) × Bool × Int)) × Int × Int × Int)) (r75 : Bool × Int × (Int × (List (Int × Int × Bool)) × Int × Int × Int)) (out : Unit) (hn0 : ∀ (w : World), Sat w (rf w0) [O66 b48 r64.2.2.2, O40 b53 r75.2.2] → At Q (.exit 5) 169 [(8, .pointer (some ⟨b48, 0, none⟩)), (9, .pointer (some ⟨b53, 0, none⟩)), (43, .slice A2 l2.length c2), (44, .int .i64 (l2.length : Int)), (45, .int .i64 x45_l1)] w) :
    ∀ (k : Nat) (x12_l2 : List Int) (x142_l2 : Int) (A12_l2 : Option Addr) (c12_l2 : Nat) (w : World), Sat w (rf w0) [osl 5 (r0 (.int .u8)) 1 A12_l2 c12_l2 x12_l2, O66 b48 r64.2.2.2, O40 b53 r75.2.2] → colophonlaw07_CachePlays.l2 l2 r64 k x12_l2 x142_l2 = some out → WL Try.prog (cbody (cbody (cr (cr (cr (cr (cr (cthen (cr (cbody (cr (cl (cr (cr (cbody (cl (cr (cr (cbody (cbody (cr (cl (cr (cr (cr (cr (cr (cr C3)))))))))))))))))))))))))))) Q 169 [(8, .pointer (some ⟨b48, 0, none⟩)), (9, .pointer (some ⟨b53, 0, none⟩)), (12, .slice A12_l2 x12_l2.length c12_l2), (43, .slice A2 l2.length c2), (44, .int .i64 (l2.length : Int)), (45, .int .i64 x45_l1), (141, .int .i64 (r64.1.length : Int)), (142, .int .i64 x142_l2)] w := by
  intro k
  induction k with
  | zero => intro x12_l2 x142_l2 A12_l2 c12_l2 w hS H; exact absurd (show none = some out from H) (by simp)
  | succ k ih =>
    intro x12_l2 x142_l2 A12_l2 c12_l2 w hS H
    unfold colophonlaw07_CachePlays.l2 at H
    refine WL.round ?_
    refine WC.seq kr ?_
    refine WC.reg [0] kr kr ?_
    refine WR.runk [0] [] [8, 9, 12, 43, 44, 45, 141, 142, 143] (L' := [(8, .pointer (some ⟨b48, 0, none⟩)), (9, .pointer (some ⟨b53, 0, none⟩)), (12, .slice A12_l2 x12_l2.length c12_l2), (43, .slice A2 l2.length c2), (44, .int .i64 (l2.length : Int)), (45, .int .i64 x45_l1), (141, .int .i64 (r64.1.length : Int)), (142, .int .i64 x142_l2), (143, .bool (decide (x142_l2 < (r64.1.length : Int))))]) (w' := w) kr ?_
    refine WR.nil ?_
    refine At.go ?_
    refine WC.seq kr ?_
    refine WC.cond kr (decide (x142_l2 < (r64.1.length : Int))) kr kr (fun hb96 => ?_) (fun hb96 => ?_)
    ·replace H := ite_t H hb96
     refine WC.skip kr ?_
     refine At.go ?_
     refine WC.seq kr ?_
     refine WC.block kr ?_
     refine WC.seq kr ?_
     refine WC.reg [0, 1] kr kr ?_
     refine WR.runk [0, 1] [] [8, 9, 12, 17, 43, 44, 45, 141, 142] (L' := [(8, .pointer (some ⟨b48, 0, none⟩)), (9, .pointer (some ⟨b53, 0, none⟩)), (12, .slice A12_l2 x12_l2.length c12_l2), (17, .int .i64 x142_l2), (43, .slice A2 l2.length c2), (44, .int .i64 (l2.length : Int)), (45, .int .i64 x45_l1), (141, .int .i64 (r64.1.length : Int)), (142, .int .i64 x142_l2)]) (w' := w) kr ?_
     refine WR.nil ?_
     refine At.go ?_
     refine WC.reg [0, 1, 2, 3, 4, 5, 6] kr kr ?_
     refine WR.runk [0, 1] [2, 3, 4, 5, 6] [8, 9, 12, 43, 44, 45, 141, 142, 145, 146] (L' := [(8, .pointer (some ⟨b48, 0, none⟩)), (9, .pointer (some ⟨b53, 0, none⟩)), (12, .slice A12_l2 x12_l2.length c12_l2), (43, .slice A2 l2.length c2), (44, .int .i64 (l2.length : Int)), (45, .int .i64 x45_l1), (141, .int .i64 (r64.1.length : Int)), (142, .int .i64 x142_l2), (145, .slice A12_l2 x12_l2.length c12_l2), (146, .int .i64 x142_l2)]) (w' := w) kr ?_
     obtain ⟨v97, e98, H⟩ := bind_ex H
     refine WR.st (St.ofP (PSt.idx (k := .i64) (.tmp 145) (.tmp 146) kr kr E31 kr kr (Sat.rdAt 0 hS rfl) e98 ?_))
     refine WR.runk [] [3, 4, 5, 6] [8, 9, 12, 43, 44, 45, 141, 142, 145, 146, 147] (L' := [(8, .pointer (some ⟨b48, 0, none⟩)), (9, .pointer (some ⟨b53, 0, none⟩)), (12, .slice A12_l2 x12_l2.length c12_l2), (43, .slice A2 l2.length c2), (44, .int .i64 (l2.length : Int)), (45, .int .i64 x45_l1), (141, .int .i64 (r64.1.length : Int)), (142, .int .i64 x142_l2), (145, .slice A12_l2 x12_l2.length c12_l2), (146, .int .i64 x142_l2), (147, .pointer (some (adr A12_l2 x142_l2.toNat 1)))]) (w' := w) kr ?_
     refine WR.st (St.ofR (RSt.loadInt (t := 5) (.tmp 147) kr kr kr kr (Sat.rdAt 0 hS rfl) e98 ?_))
     refine WR.runk [4] [5, 6] [8, 9, 12, 43, 44, 45, 141, 142, 145, 146, 149] (L' := [(8, .pointer (some ⟨b48, 0, none⟩)), (9, .pointer (some ⟨b53, 0, none⟩)), (12, .slice A12_l2 x12_l2.length c12_l2), (43, .slice A2 l2.length c2), (44, .int .i64 (l2.length : Int)), (45, .int .i64 x45_l1), (141, .int .i64 (r64.1.length : Int)), (142, .int .i64 x142_l2), (145, .slice A12_l2 x12_l2.length c12_l2), (146, .int .i64 x142_l2), (149, .int .u8 (ixor .u8 v97 255))]) (w' := w) kr ?_
     refine WR.st (St.ofP (PSt.idx (k := .i64) (.tmp 145) (.tmp 146) kr kr E31 kr kr (Sat.rdAt 0 hS rfl) e98 ?_))
     refine WR.runk [] [6] [8, 9, 12, 43, 44, 45, 141, 142, 149, 150] (L' := [(8, .pointer (some ⟨b48, 0, none⟩)), (9, .pointer (some ⟨b53, 0, none⟩)), (12, .slice A12_l2 x12_l2.length c12_l2), (43, .slice A2 l2.length c2), (44, .int .i64 (l2.length : Int)), (45, .int .i64 x45_l1), (141, .int .i64 (r64.1.length : Int)), (142, .int .i64 x142_l2), (149, .int .u8 (ixor .u8 v97 255)), (150, .pointer (some (adr A12_l2 x142_l2.toNat 1)))]) (w' := w) kr ?_
     obtain ⟨y99, e100, H⟩ := bind_ex H
     refine WR.st (St.storeElem' (t := 5) (.tmp 150) (.tmp 149) kr kr kr hS kr kr rfl e100 rfl (fun w101 hS => ?_))
     have hl102 := set?_len e100
     refine WR.know 12 (.slice A12_l2 y99.length c12_l2) (.slice A12_l2 x12_l2.length c12_l2) kr (by rw [hl102]) ?_
     refine WR.runk [] [] [8, 9, 12, 43, 44, 45, 141, 142] (L' := [(8, .pointer (some ⟨b48, 0, none⟩)), (9, .pointer (some ⟨b53, 0, none⟩)), (12, .slice A12_l2 y99.length c12_l2), (43, .slice A2 l2.length c2), (44, .int .i64 (l2.length : Int)), (45, .int .i64 x45_l1), (141, .int .i64 (r64.1.length : Int)), (142, .int .i64 x142_l2)]) (w' := w101) kr ?_
     refine WR.nil ?_
     refine At.blockNormal ?_
     refine At.go ?_
     refine WC.reg [0, 1] kr kr ?_
     refine WR.runk [0, 1] [] [8, 9, 12, 43, 44, 45, 141, 142] (L' := [(8, .pointer (some ⟨b48, 0, none⟩)), (9, .pointer (some ⟨b53, 0, none⟩)), (12, .slice A12_l2 y99.length c12_l2), (43, .slice A2 l2.length c2), (44, .int .i64 (l2.length : Int)), (45, .int .i64 x45_l1), (141, .int .i64 (r64.1.length : Int)), (142, .int .i64 (wi (x142_l2 + 1)))]) (w' := w101) kr ?_
     refine WR.nil ?_
     have hS : Sat w101 (rf w0) [osl 5 (r0 (.int .u8)) 1 A12_l2 c12_l2 y99, O66 b48 r64.2.2.2, O40 b53 r75.2.2] := hS.sel [0, 1, 2] kr
     refine At.again ?_
     refine WL.weaken [8, 9, 12, 43, 44, 45, 141, 142] (L' := [(8, .pointer (some ⟨b48, 0, none⟩)), (9, .pointer (some ⟨b53, 0, none⟩)), (12, .slice A12_l2 y99.length c12_l2), (43, .slice A2 l2.length c2), (44, .int .i64 (l2.length : Int)), (45, .int .i64 x45_l1), (141, .int .i64 (r64.1.length : Int)), (142, .int .i64 (wi (x142_l2 + 1)))]) kr ?_
     exact ih y99 (wi (x142_l2 + 1)) A12_l2 c12_l2 _ hS H
    ·replace H := ite_f H hb96
     refine WC.exit kr ?_
     refine At.thenExit ?_
     refine At.thenExit ?_
     obtain rfl := Option.some.inj H
     have hS : Sat w (rf w0) [O66 b48 r64.2.2.2, O40 b53 r75.2.2] := hS.sel [1, 2] kr
     refine At.weaken [8, 9, 43, 44, 45] (L' := [(8, .pointer (some ⟨b48, 0, none⟩)), (9, .pointer (some ⟨b53, 0, none⟩)), (43, .slice A2 l2.length c2), (44, .int .i64 (l2.length : Int)), (45, .int .i64 x45_l1)]) kr ?_
     exact hn0 _ hS
theorem colophonlaw07_CachePlays.l3_ok {Q} (w0 : World) (A2 : Option Addr) (c2 : Nat) (l2 : List (Int × Int)) (b48 : Nat) (b53 : Nat) (x45_l1 : Int) (r64 : (List Int) × Bool × Int × ((Option ((List (List Int)) × (List Int) × (List Int))) × (List (Int × (List Int) × Bool × Int)) × Int × Int × Int)) (r75 : Bool × Int × (Int × (List (Int × Int × Bool)) × Int × Int × Int)) (out : Unit) (hn0 : ∀ (w : World), Sat w (rf w0) [O66 b48 r64.2.2.2, O40 b53 r75.2.2] → At Q (.exit 5) 169 [(8, .pointer (some ⟨b48, 0, none⟩)), (9, .pointer (some ⟨b53, 0, none⟩)), (43, .slice A2 l2.length c2), (44, .int .i64 (l2.length : Int)), (45, .int .i64 x45_l1)] w) :
    ∀ (k : Nat) (x12_l3 : List Int) (x142_l3 : Int) (A12_l3 : Option Addr) (c12_l3 : Nat) (w : World), Sat w (rf w0) [osl 5 (r0 (.int .u8)) 1 A12_l3 c12_l3 x12_l3, O66 b48 r64.2.2.2, O40 b53 r75.2.2] → colophonlaw07_CachePlays.l3 r64 k x12_l3 x142_l3 = some out → WL Try.prog (cbody (cbody (cr (cr (cr (cr (cr (cthen (cr (cbody (cr (cl (cr (cr (cbody (cl (cr (cr (cbody (cbody (cr (cl (cr (cr (cr (cr (cr (cr C3)))))))))))))))))))))))))))) Q 169 [(8, .pointer (some ⟨b48, 0, none⟩)), (9, .pointer (some ⟨b53, 0, none⟩)), (12, .slice A12_l3 x12_l3.length c12_l3), (43, .slice A2 l2.length c2), (44, .int .i64 (l2.length : Int)), (45, .int .i64 x45_l1), (141, .int .i64 (r64.1.length : Int)), (142, .int .i64 x142_l3)] w := by
  intro k
  induction k with
  | zero => intro x12_l3 x142_l3 A12_l3 c12_l3 w hS H; exact absurd (show none = some out from H) (by simp)
  | succ k ih =>
    intro x12_l3 x142_l3 A12_l3 c12_l3 w hS H
    unfold colophonlaw07_CachePlays.l3 at H
    refine WL.round ?_
    refine WC.seq kr ?_
    refine WC.reg [0] kr kr ?_
    refine WR.runk [0] [] [8, 9, 12, 43, 44, 45, 141, 142, 143] (L' := [(8, .pointer (some ⟨b48, 0, none⟩)), (9, .pointer (some ⟨b53, 0, none⟩)), (12, .slice A12_l3 x12_l3.length c12_l3), (43, .slice A2 l2.length c2), (44, .int .i64 (l2.length : Int)), (45, .int .i64 x45_l1), (141, .int .i64 (r64.1.length : Int)), (142, .int .i64 x142_l3), (143, .bool (decide (x142_l3 < (r64.1.length : Int))))]) (w' := w) kr ?_
    refine WR.nil ?_
    refine At.go ?_
    refine WC.seq kr ?_
    refine WC.cond kr (decide (x142_l3 < (r64.1.length : Int))) kr kr (fun hb127 => ?_) (fun hb127 => ?_)
    ·replace H := ite_t H hb127
     refine WC.skip kr ?_
     refine At.go ?_
     refine WC.seq kr ?_
     refine WC.block kr ?_
     refine WC.seq kr ?_
     refine WC.reg [0, 1] kr kr ?_
     refine WR.runk [0, 1] [] [8, 9, 12, 17, 43, 44, 45, 141, 142] (L' := [(8, .pointer (some ⟨b48, 0, none⟩)), (9, .pointer (some ⟨b53, 0, none⟩)), (12, .slice A12_l3 x12_l3.length c12_l3), (17, .int .i64 x142_l3), (43, .slice A2 l2.length c2), (44, .int .i64 (l2.length : Int)), (45, .int .i64 x45_l1), (141, .int .i64 (r64.1.length : Int)), (142, .int .i64 x142_l3)]) (w' := w) kr ?_
     refine WR.nil ?_
     refine At.go ?_
     refine WC.reg [0, 1, 2, 3, 4, 5, 6] kr kr ?_
     refine WR.runk [0, 1] [2, 3, 4, 5, 6] [8, 9, 12, 43, 44, 45, 141, 142, 145, 146] (L' := [(8, .pointer (some ⟨b48, 0, none⟩)), (9, .pointer (some ⟨b53, 0, none⟩)), (12, .slice A12_l3 x12_l3.length c12_l3), (43, .slice A2 l2.length c2), (44, .int .i64 (l2.length : Int)), (45, .int .i64 x45_l1), (141, .int .i64 (r64.1.length : Int)), (142, .int .i64 x142_l3), (145, .slice A12_l3 x12_l3.length c12_l3), (146, .int .i64 x142_l3)]) (w' := w) kr ?_
     obtain ⟨v128, e129, H⟩ := bind_ex H
     refine WR.st (St.ofP (PSt.idx (k := .i64) (.tmp 145) (.tmp 146) kr kr E31 kr kr (Sat.rdAt 0 hS rfl) e129 ?_))
     refine WR.runk [] [3, 4, 5, 6] [8, 9, 12, 43, 44, 45, 141, 142, 145, 146, 147] (L' := [(8, .pointer (some ⟨b48, 0, none⟩)), (9, .pointer (some ⟨b53, 0, none⟩)), (12, .slice A12_l3 x12_l3.length c12_l3), (43, .slice A2 l2.length c2), (44, .int .i64 (l2.length : Int)), (45, .int .i64 x45_l1), (141, .int .i64 (r64.1.length : Int)), (142, .int .i64 x142_l3), (145, .slice A12_l3 x12_l3.length c12_l3), (146, .int .i64 x142_l3), (147, .pointer (some (adr A12_l3 x142_l3.toNat 1)))]) (w' := w) kr ?_
     refine WR.st (St.ofR (RSt.loadInt (t := 5) (.tmp 147) kr kr kr kr (Sat.rdAt 0 hS rfl) e129 ?_))
     refine WR.runk [4] [5, 6] [8, 9, 12, 43, 44, 45, 141, 142, 145, 146, 149] (L' := [(8, .pointer (some ⟨b48, 0, none⟩)), (9, .pointer (some ⟨b53, 0, none⟩)), (12, .slice A12_l3 x12_l3.length c12_l3), (43, .slice A2 l2.length c2), (44, .int .i64 (l2.length : Int)), (45, .int .i64 x45_l1), (141, .int .i64 (r64.1.length : Int)), (142, .int .i64 x142_l3), (145, .slice A12_l3 x12_l3.length c12_l3), (146, .int .i64 x142_l3), (149, .int .u8 (ixor .u8 v128 255))]) (w' := w) kr ?_
     refine WR.st (St.ofP (PSt.idx (k := .i64) (.tmp 145) (.tmp 146) kr kr E31 kr kr (Sat.rdAt 0 hS rfl) e129 ?_))
     refine WR.runk [] [6] [8, 9, 12, 43, 44, 45, 141, 142, 149, 150] (L' := [(8, .pointer (some ⟨b48, 0, none⟩)), (9, .pointer (some ⟨b53, 0, none⟩)), (12, .slice A12_l3 x12_l3.length c12_l3), (43, .slice A2 l2.length c2), (44, .int .i64 (l2.length : Int)), (45, .int .i64 x45_l1), (141, .int .i64 (r64.1.length : Int)), (142, .int .i64 x142_l3), (149, .int .u8 (ixor .u8 v128 255)), (150, .pointer (some (adr A12_l3 x142_l3.toNat 1)))]) (w' := w) kr ?_
     obtain ⟨y130, e131, H⟩ := bind_ex H
     refine WR.st (St.storeElem' (t := 5) (.tmp 150) (.tmp 149) kr kr kr hS kr kr rfl e131 rfl (fun w132 hS => ?_))
     have hl133 := set?_len e131
     refine WR.know 12 (.slice A12_l3 y130.length c12_l3) (.slice A12_l3 x12_l3.length c12_l3) kr (by rw [hl133]) ?_
     refine WR.runk [] [] [8, 9, 12, 43, 44, 45, 141, 142] (L' := [(8, .pointer (some ⟨b48, 0, none⟩)), (9, .pointer (some ⟨b53, 0, none⟩)), (12, .slice A12_l3 y130.length c12_l3), (43, .slice A2 l2.length c2), (44, .int .i64 (l2.length : Int)), (45, .int .i64 x45_l1), (141, .int .i64 (r64.1.length : Int)), (142, .int .i64 x142_l3)]) (w' := w132) kr ?_
     refine WR.nil ?_
     refine At.blockNormal ?_
     refine At.go ?_
     refine WC.reg [0, 1] kr kr ?_
     refine WR.runk [0, 1] [] [8, 9, 12, 43, 44, 45, 141, 142] (L' := [(8, .pointer (some ⟨b48, 0, none⟩)), (9, .pointer (some ⟨b53, 0, none⟩)), (12, .slice A12_l3 y130.length c12_l3), (43, .slice A2 l2.length c2), (44, .int .i64 (l2.length : Int)), (45, .int .i64 x45_l1), (141, .int .i64 (r64.1.length : Int)), (142, .int .i64 (wi (x142_l3 + 1)))]) (w' := w132) kr ?_
     refine WR.nil ?_
     have hS : Sat w132 (rf w0) [osl 5 (r0 (.int .u8)) 1 A12_l3 c12_l3 y130, O66 b48 r64.2.2.2, O40 b53 r75.2.2] := hS.sel [0, 1, 2] kr
     refine At.again ?_
     refine WL.weaken [8, 9, 12, 43, 44, 45, 141, 142] (L' := [(8, .pointer (some ⟨b48, 0, none⟩)), (9, .pointer (some ⟨b53, 0, none⟩)), (12, .slice A12_l3 y130.length c12_l3), (43, .slice A2 l2.length c2), (44, .int .i64 (l2.length : Int)), (45, .int .i64 x45_l1), (141, .int .i64 (r64.1.length : Int)), (142, .int .i64 (wi (x142_l3 + 1)))]) kr ?_
     exact ih y130 (wi (x142_l3 + 1)) A12_l3 c12_l3 _ hS H
    ·replace H := ite_f H hb127
     refine WC.exit kr ?_
     refine At.thenExit ?_
     refine At.thenExit ?_
     obtain rfl := Option.some.inj H
     have hS : Sat w (rf w0) [O66 b48 r64.2.2.2, O40 b53 r75.2.2] := hS.sel [1, 2] kr
     refine At.weaken [8, 9, 43, 44, 45] (L' := [(8, .pointer (some ⟨b48, 0, none⟩)), (9, .pointer (some ⟨b53, 0, none⟩)), (43, .slice A2 l2.length c2), (44, .int .i64 (l2.length : Int)), (45, .int .i64 x45_l1)]) kr ?_
     exact hn0 _ hS
theorem colophonlaw07_CachePlays.l4_ok {Q} (w0 : World) (A2 : Option Addr) (c2 : Nat) (l2 : List (Int × Int)) (b48 : Nat) (b53 : Nat) (x45_l1 : Int) (r64 : (List Int) × Bool × Int × ((Option ((List (List Int)) × (List Int) × (List Int))) × (List (Int × (List Int) × Bool × Int)) × Int × Int × Int)) (r75 : Bool × Int × (Int × (List (Int × Int × Bool)) × Int × Int × Int)) (out : Unit) (hn0 : ∀ (w : World), Sat w (rf w0) [O66 b48 r64.2.2.2, O40 b53 r75.2.2] → At Q (.exit 5) 169 [(8, .pointer (some ⟨b48, 0, none⟩)), (9, .pointer (some ⟨b53, 0, none⟩)), (43, .slice A2 l2.length c2), (44, .int .i64 (l2.length : Int)), (45, .int .i64 x45_l1)] w) :
    ∀ (k : Nat) (x12_l4 : List Int) (x142_l4 : Int) (A12_l4 : Option Addr) (c12_l4 : Nat) (w : World), Sat w (rf w0) [osl 5 (r0 (.int .u8)) 1 A12_l4 c12_l4 x12_l4, O66 b48 r64.2.2.2, O40 b53 r75.2.2] → colophonlaw07_CachePlays.l4 r64 k x12_l4 x142_l4 = some out → WL Try.prog (cbody (cbody (cr (cr (cr (cr (cr (cthen (cr (cbody (cr (cl (cr (cr (cbody (cl (cr (cr (cbody (cbody (cr (cl (cr (cr (cr (cr (cr (cr C3)))))))))))))))))))))))))))) Q 169 [(8, .pointer (some ⟨b48, 0, none⟩)), (9, .pointer (some ⟨b53, 0, none⟩)), (12, .slice A12_l4 x12_l4.length c12_l4), (43, .slice A2 l2.length c2), (44, .int .i64 (l2.length : Int)), (45, .int .i64 x45_l1), (141, .int .i64 (r64.1.length : Int)), (142, .int .i64 x142_l4)] w := by
  intro k
  induction k with
  | zero => intro x12_l4 x142_l4 A12_l4 c12_l4 w hS H; exact absurd (show none = some out from H) (by simp)
  | succ k ih =>
    intro x12_l4 x142_l4 A12_l4 c12_l4 w hS H
    unfold colophonlaw07_CachePlays.l4 at H
    refine WL.round ?_
    refine WC.seq kr ?_
    refine WC.reg [0] kr kr ?_
    refine WR.runk [0] [] [8, 9, 12, 43, 44, 45, 141, 142, 143] (L' := [(8, .pointer (some ⟨b48, 0, none⟩)), (9, .pointer (some ⟨b53, 0, none⟩)), (12, .slice A12_l4 x12_l4.length c12_l4), (43, .slice A2 l2.length c2), (44, .int .i64 (l2.length : Int)), (45, .int .i64 x45_l1), (141, .int .i64 (r64.1.length : Int)), (142, .int .i64 x142_l4), (143, .bool (decide (x142_l4 < (r64.1.length : Int))))]) (w' := w) kr ?_
    refine WR.nil ?_
    refine At.go ?_
    refine WC.seq kr ?_
    refine WC.cond kr (decide (x142_l4 < (r64.1.length : Int))) kr kr (fun hb158 => ?_) (fun hb158 => ?_)
    ·replace H := ite_t H hb158
     refine WC.skip kr ?_
     refine At.go ?_
     refine WC.seq kr ?_
     refine WC.block kr ?_
     refine WC.seq kr ?_
     refine WC.reg [0, 1] kr kr ?_
     refine WR.runk [0, 1] [] [8, 9, 12, 17, 43, 44, 45, 141, 142] (L' := [(8, .pointer (some ⟨b48, 0, none⟩)), (9, .pointer (some ⟨b53, 0, none⟩)), (12, .slice A12_l4 x12_l4.length c12_l4), (17, .int .i64 x142_l4), (43, .slice A2 l2.length c2), (44, .int .i64 (l2.length : Int)), (45, .int .i64 x45_l1), (141, .int .i64 (r64.1.length : Int)), (142, .int .i64 x142_l4)]) (w' := w) kr ?_
     refine WR.nil ?_
     refine At.go ?_
     refine WC.reg [0, 1, 2, 3, 4, 5, 6] kr kr ?_
     refine WR.runk [0, 1] [2, 3, 4, 5, 6] [8, 9, 12, 43, 44, 45, 141, 142, 145, 146] (L' := [(8, .pointer (some ⟨b48, 0, none⟩)), (9, .pointer (some ⟨b53, 0, none⟩)), (12, .slice A12_l4 x12_l4.length c12_l4), (43, .slice A2 l2.length c2), (44, .int .i64 (l2.length : Int)), (45, .int .i64 x45_l1), (141, .int .i64 (r64.1.length : Int)), (142, .int .i64 x142_l4), (145, .slice A12_l4 x12_l4.length c12_l4), (146, .int .i64 x142_l4)]) (w' := w) kr ?_
     obtain ⟨v159, e160, H⟩ := bind_ex H
     refine WR.st (St.ofP (PSt.idx (k := .i64) (.tmp 145) (.tmp 146) kr kr E31 kr kr (Sat.rdAt 0 hS rfl) e160 ?_))
     refine WR.runk [] [3, 4, 5, 6] [8, 9, 12, 43, 44, 45, 141, 142, 145, 146, 147] (L' := [(8, .pointer (some ⟨b48, 0, none⟩)), (9, .pointer (some ⟨b53, 0, none⟩)), (12, .slice A12_l4 x12_l4.length c12_l4), (43, .slice A2 l2.length c2), (44, .int .i64 (l2.length : Int)), (45, .int .i64 x45_l1), (141, .int .i64 (r64.1.length : Int)), (142, .int .i64 x142_l4), (145, .slice A12_l4 x12_l4.length c12_l4), (146, .int .i64 x142_l4), (147, .pointer (some (adr A12_l4 x142_l4.toNat 1)))]) (w' := w) kr ?_
     refine WR.st (St.ofR (RSt.loadInt (t := 5) (.tmp 147) kr kr kr kr (Sat.rdAt 0 hS rfl) e160 ?_))
     refine WR.runk [4] [5, 6] [8, 9, 12, 43, 44, 45, 141, 142, 145, 146, 149] (L' := [(8, .pointer (some ⟨b48, 0, none⟩)), (9, .pointer (some ⟨b53, 0, none⟩)), (12, .slice A12_l4 x12_l4.length c12_l4), (43, .slice A2 l2.length c2), (44, .int .i64 (l2.length : Int)), (45, .int .i64 x45_l1), (141, .int .i64 (r64.1.length : Int)), (142, .int .i64 x142_l4), (145, .slice A12_l4 x12_l4.length c12_l4), (146, .int .i64 x142_l4), (149, .int .u8 (ixor .u8 v159 255))]) (w' := w) kr ?_
     refine WR.st (St.ofP (PSt.idx (k := .i64) (.tmp 145) (.tmp 146) kr kr E31 kr kr (Sat.rdAt 0 hS rfl) e160 ?_))
     refine WR.runk [] [6] [8, 9, 12, 43, 44, 45, 141, 142, 149, 150] (L' := [(8, .pointer (some ⟨b48, 0, none⟩)), (9, .pointer (some ⟨b53, 0, none⟩)), (12, .slice A12_l4 x12_l4.length c12_l4), (43, .slice A2 l2.length c2), (44, .int .i64 (l2.length : Int)), (45, .int .i64 x45_l1), (141, .int .i64 (r64.1.length : Int)), (142, .int .i64 x142_l4), (149, .int .u8 (ixor .u8 v159 255)), (150, .pointer (some (adr A12_l4 x142_l4.toNat 1)))]) (w' := w) kr ?_
     obtain ⟨y161, e162, H⟩ := bind_ex H
     refine WR.st (St.storeElem' (t := 5) (.tmp 150) (.tmp 149) kr kr kr hS kr kr rfl e162 rfl (fun w163 hS => ?_))
     have hl164 := set?_len e162
     refine WR.know 12 (.slice A12_l4 y161.length c12_l4) (.slice A12_l4 x12_l4.length c12_l4) kr (by rw [hl164]) ?_
     refine WR.runk [] [] [8, 9, 12, 43, 44, 45, 141, 142] (L' := [(8, .pointer (some ⟨b48, 0, none⟩)), (9, .pointer (some ⟨b53, 0, none⟩)), (12, .slice A12_l4 y161.length c12_l4), (43, .slice A2 l2.length c2), (44, .int .i64 (l2.length : Int)), (45, .int .i64 x45_l1), (141, .int .i64 (r64.1.length : Int)), (142, .int .i64 x142_l4)]) (w' := w163) kr ?_
     refine WR.nil ?_
     refine At.blockNormal ?_
     refine At.go ?_
     refine WC.reg [0, 1] kr kr ?_
     refine WR.runk [0, 1] [] [8, 9, 12, 43, 44, 45, 141, 142] (L' := [(8, .pointer (some ⟨b48, 0, none⟩)), (9, .pointer (some ⟨b53, 0, none⟩)), (12, .slice A12_l4 y161.length c12_l4), (43, .slice A2 l2.length c2), (44, .int .i64 (l2.length : Int)), (45, .int .i64 x45_l1), (141, .int .i64 (r64.1.length : Int)), (142, .int .i64 (wi (x142_l4 + 1)))]) (w' := w163) kr ?_
     refine WR.nil ?_
     have hS : Sat w163 (rf w0) [osl 5 (r0 (.int .u8)) 1 A12_l4 c12_l4 y161, O66 b48 r64.2.2.2, O40 b53 r75.2.2] := hS.sel [0, 1, 2] kr
     refine At.again ?_
     refine WL.weaken [8, 9, 12, 43, 44, 45, 141, 142] (L' := [(8, .pointer (some ⟨b48, 0, none⟩)), (9, .pointer (some ⟨b53, 0, none⟩)), (12, .slice A12_l4 y161.length c12_l4), (43, .slice A2 l2.length c2), (44, .int .i64 (l2.length : Int)), (45, .int .i64 x45_l1), (141, .int .i64 (r64.1.length : Int)), (142, .int .i64 (wi (x142_l4 + 1)))]) kr ?_
     exact ih y161 (wi (x142_l4 + 1)) A12_l4 c12_l4 _ hS H
    ·replace H := ite_f H hb158
     refine WC.exit kr ?_
     refine At.thenExit ?_
     refine At.thenExit ?_
     obtain rfl := Option.some.inj H
     have hS : Sat w (rf w0) [O66 b48 r64.2.2.2, O40 b53 r75.2.2] := hS.sel [1, 2] kr
     refine At.weaken [8, 9, 43, 44, 45] (L' := [(8, .pointer (some ⟨b48, 0, none⟩)), (9, .pointer (some ⟨b53, 0, none⟩)), (43, .slice A2 l2.length c2), (44, .int .i64 (l2.length : Int)), (45, .int .i64 x45_l1)]) kr ?_
     exact hn0 _ hS
theorem colophonlaw07_CachePlays.l5_ok {Q} (w0 : World) (A2 : Option Addr) (c2 : Nat) (l2 : List (Int × Int)) (b48 : Nat) (b53 : Nat) (x45_l1 : Int) (r64 : (List Int) × Bool × Int × ((Option ((List (List Int)) × (List Int) × (List Int))) × (List (Int × (List Int) × Bool × Int)) × Int × Int × Int)) (r75 : Bool × Int × (Int × (List (Int × Int × Bool)) × Int × Int × Int)) (out : Unit) (hn0 : ∀ (w : World), Sat w (rf w0) [O66 b48 r64.2.2.2, O40 b53 r75.2.2] → At Q (.exit 5) 169 [(8, .pointer (some ⟨b48, 0, none⟩)), (9, .pointer (some ⟨b53, 0, none⟩)), (43, .slice A2 l2.length c2), (44, .int .i64 (l2.length : Int)), (45, .int .i64 x45_l1)] w) :
    ∀ (k : Nat) (x12_l5 : List Int) (x142_l5 : Int) (A12_l5 : Option Addr) (c12_l5 : Nat) (w : World), Sat w (rf w0) [osl 5 (r0 (.int .u8)) 1 A12_l5 c12_l5 x12_l5, O66 b48 r64.2.2.2, O40 b53 r75.2.2] → colophonlaw07_CachePlays.l5 r64 k x12_l5 x142_l5 = some out → WL Try.prog (cbody (cbody (cr (cr (cr (cr (cr (cthen (cr (cbody (cr (cl (cr (cr (cbody (cl (cr (cr (cbody (cbody (cr (cl (cr (cr (cr (cr (cr (cr C3)))))))))))))))))))))))))))) Q 169 [(8, .pointer (some ⟨b48, 0, none⟩)), (9, .pointer (some ⟨b53, 0, none⟩)), (12, .slice A12_l5 x12_l5.length c12_l5), (43, .slice A2 l2.length c2), (44, .int .i64 (l2.length : Int)), (45, .int .i64 x45_l1), (141, .int .i64 (r64.1.length : Int)), (142, .int .i64 x142_l5)] w := by
  intro k
  induction k with
  | zero => intro x12_l5 x142_l5 A12_l5 c12_l5 w hS H; exact absurd (show none = some out from H) (by simp)
  | succ k ih =>
    intro x12_l5 x142_l5 A12_l5 c12_l5 w hS H
    unfold colophonlaw07_CachePlays.l5 at H
    refine WL.round ?_
    refine WC.seq kr ?_
    refine WC.reg [0] kr kr ?_
    refine WR.runk [0] [] [8, 9, 12, 43, 44, 45, 141, 142, 143] (L' := [(8, .pointer (some ⟨b48, 0, none⟩)), (9, .pointer (some ⟨b53, 0, none⟩)), (12, .slice A12_l5 x12_l5.length c12_l5), (43, .slice A2 l2.length c2), (44, .int .i64 (l2.length : Int)), (45, .int .i64 x45_l1), (141, .int .i64 (r64.1.length : Int)), (142, .int .i64 x142_l5), (143, .bool (decide (x142_l5 < (r64.1.length : Int))))]) (w' := w) kr ?_
    refine WR.nil ?_
    refine At.go ?_
    refine WC.seq kr ?_
    refine WC.cond kr (decide (x142_l5 < (r64.1.length : Int))) kr kr (fun hb197 => ?_) (fun hb197 => ?_)
    ·replace H := ite_t H hb197
     refine WC.skip kr ?_
     refine At.go ?_
     refine WC.seq kr ?_
     refine WC.block kr ?_
     refine WC.seq kr ?_
     refine WC.reg [0, 1] kr kr ?_
     refine WR.runk [0, 1] [] [8, 9, 12, 17, 43, 44, 45, 141, 142] (L' := [(8, .pointer (some ⟨b48, 0, none⟩)), (9, .pointer (some ⟨b53, 0, none⟩)), (12, .slice A12_l5 x12_l5.length c12_l5), (17, .int .i64 x142_l5), (43, .slice A2 l2.length c2), (44, .int .i64 (l2.length : Int)), (45, .int .i64 x45_l1), (141, .int .i64 (r64.1.length : Int)), (142, .int .i64 x142_l5)]) (w' := w) kr ?_
     refine WR.nil ?_
     refine At.go ?_
     refine WC.reg [0, 1, 2, 3, 4, 5, 6] kr kr ?_
     refine WR.runk [0, 1] [2, 3, 4, 5, 6] [8, 9, 12, 43, 44, 45, 141, 142, 145, 146] (L' := [(8, .pointer (some ⟨b48, 0, none⟩)), (9, .pointer (some ⟨b53, 0, none⟩)), (12, .slice A12_l5 x12_l5.length c12_l5), (43, .slice A2 l2.length c2), (44, .int .i64 (l2.length : Int)), (45, .int .i64 x45_l1), (141, .int .i64 (r64.1.length : Int)), (142, .int .i64 x142_l5), (145, .slice A12_l5 x12_l5.length c12_l5), (146, .int .i64 x142_l5)]) (w' := w) kr ?_
     obtain ⟨v198, e199, H⟩ := bind_ex H
     refine WR.st (St.ofP (PSt.idx (k := .i64) (.tmp 145) (.tmp 146) kr kr E31 kr kr (Sat.rdAt 0 hS rfl) e199 ?_))
     refine WR.runk [] [3, 4, 5, 6] [8, 9, 12, 43, 44, 45, 141, 142, 145, 146, 147] (L' := [(8, .pointer (some ⟨b48, 0, none⟩)), (9, .pointer (some ⟨b53, 0, none⟩)), (12, .slice A12_l5 x12_l5.length c12_l5), (43, .slice A2 l2.length c2), (44, .int .i64 (l2.length : Int)), (45, .int .i64 x45_l1), (141, .int .i64 (r64.1.length : Int)), (142, .int .i64 x142_l5), (145, .slice A12_l5 x12_l5.length c12_l5), (146, .int .i64 x142_l5), (147, .pointer (some (adr A12_l5 x142_l5.toNat 1)))]) (w' := w) kr ?_
     refine WR.st (St.ofR (RSt.loadInt (t := 5) (.tmp 147) kr kr kr kr (Sat.rdAt 0 hS rfl) e199 ?_))
     refine WR.runk [4] [5, 6] [8, 9, 12, 43, 44, 45, 141, 142, 145, 146, 149] (L' := [(8, .pointer (some ⟨b48, 0, none⟩)), (9, .pointer (some ⟨b53, 0, none⟩)), (12, .slice A12_l5 x12_l5.length c12_l5), (43, .slice A2 l2.length c2), (44, .int .i64 (l2.length : Int)), (45, .int .i64 x45_l1), (141, .int .i64 (r64.1.length : Int)), (142, .int .i64 x142_l5), (145, .slice A12_l5 x12_l5.length c12_l5), (146, .int .i64 x142_l5), (149, .int .u8 (ixor .u8 v198 255))]) (w' := w) kr ?_
     refine WR.st (St.ofP (PSt.idx (k := .i64) (.tmp 145) (.tmp 146) kr kr E31 kr kr (Sat.rdAt 0 hS rfl) e199 ?_))
     refine WR.runk [] [6] [8, 9, 12, 43, 44, 45, 141, 142, 149, 150] (L' := [(8, .pointer (some ⟨b48, 0, none⟩)), (9, .pointer (some ⟨b53, 0, none⟩)), (12, .slice A12_l5 x12_l5.length c12_l5), (43, .slice A2 l2.length c2), (44, .int .i64 (l2.length : Int)), (45, .int .i64 x45_l1), (141, .int .i64 (r64.1.length : Int)), (142, .int .i64 x142_l5), (149, .int .u8 (ixor .u8 v198 255)), (150, .pointer (some (adr A12_l5 x142_l5.toNat 1)))]) (w' := w) kr ?_
     obtain ⟨y200, e201, H⟩ := bind_ex H
     refine WR.st (St.storeElem' (t := 5) (.tmp 150) (.tmp 149) kr kr kr hS kr kr rfl e201 rfl (fun w202 hS => ?_))
     have hl203 := set?_len e201
     refine WR.know 12 (.slice A12_l5 y200.length c12_l5) (.slice A12_l5 x12_l5.length c12_l5) kr (by rw [hl203]) ?_
     refine WR.runk [] [] [8, 9, 12, 43, 44, 45, 141, 142] (L' := [(8, .pointer (some ⟨b48, 0, none⟩)), (9, .pointer (some ⟨b53, 0, none⟩)), (12, .slice A12_l5 y200.length c12_l5), (43, .slice A2 l2.length c2), (44, .int .i64 (l2.length : Int)), (45, .int .i64 x45_l1), (141, .int .i64 (r64.1.length : Int)), (142, .int .i64 x142_l5)]) (w' := w202) kr ?_
     refine WR.nil ?_
     refine At.blockNormal ?_
     refine At.go ?_
     refine WC.reg [0, 1] kr kr ?_
     refine WR.runk [0, 1] [] [8, 9, 12, 43, 44, 45, 141, 142] (L' := [(8, .pointer (some ⟨b48, 0, none⟩)), (9, .pointer (some ⟨b53, 0, none⟩)), (12, .slice A12_l5 y200.length c12_l5), (43, .slice A2 l2.length c2), (44, .int .i64 (l2.length : Int)), (45, .int .i64 x45_l1), (141, .int .i64 (r64.1.length : Int)), (142, .int .i64 (wi (x142_l5 + 1)))]) (w' := w202) kr ?_
     refine WR.nil ?_
     have hS : Sat w202 (rf w0) [osl 5 (r0 (.int .u8)) 1 A12_l5 c12_l5 y200, O66 b48 r64.2.2.2, O40 b53 r75.2.2] := hS.sel [0, 1, 2] kr
     refine At.again ?_
     refine WL.weaken [8, 9, 12, 43, 44, 45, 141, 142] (L' := [(8, .pointer (some ⟨b48, 0, none⟩)), (9, .pointer (some ⟨b53, 0, none⟩)), (12, .slice A12_l5 y200.length c12_l5), (43, .slice A2 l2.length c2), (44, .int .i64 (l2.length : Int)), (45, .int .i64 x45_l1), (141, .int .i64 (r64.1.length : Int)), (142, .int .i64 (wi (x142_l5 + 1)))]) kr ?_
     exact ih y200 (wi (x142_l5 + 1)) A12_l5 c12_l5 _ hS H
    ·replace H := ite_f H hb197
     refine WC.exit kr ?_
     refine At.thenExit ?_
     refine At.thenExit ?_
     obtain rfl := Option.some.inj H
     have hS : Sat w (rf w0) [O66 b48 r64.2.2.2, O40 b53 r75.2.2] := hS.sel [1, 2] kr
     refine At.weaken [8, 9, 43, 44, 45] (L' := [(8, .pointer (some ⟨b48, 0, none⟩)), (9, .pointer (some ⟨b53, 0, none⟩)), (43, .slice A2 l2.length c2), (44, .int .i64 (l2.length : Int)), (45, .int .i64 x45_l1)]) kr ?_
     exact hn0 _ hS
theorem colophonlaw07_CachePlays.l6_ok {Q} (w0 : World) (A2 : Option Addr) (c2 : Nat) (l2 : List (Int × Int)) (b48 : Nat) (b53 : Nat) (x45_l1 : Int) (r64 : (List Int) × Bool × Int × ((Option ((List (List Int)) × (List Int) × (List Int))) × (List (Int × (List Int) × Bool × Int)) × Int × Int × Int)) (r75 : Bool × Int × (Int × (List (Int × Int × Bool)) × Int × Int × Int)) (out : Unit) (hn0 : ∀ (w : World), Sat w (rf w0) [O66 b48 r64.2.2.2, O40 b53 r75.2.2] → At Q (.exit 5) 169 [(8, .pointer (some ⟨b48, 0, none⟩)), (9, .pointer (some ⟨b53, 0, none⟩)), (43, .slice A2 l2.length c2), (44, .int .i64 (l2.length : Int)), (45, .int .i64 x45_l1)] w) :
    ∀ (k : Nat) (x12_l6 : List Int) (x142_l6 : Int) (A12_l6 : Option Addr) (c12_l6 : Nat) (w : World), Sat w (rf w0) [osl 5 (r0 (.int .u8)) 1 A12_l6 c12_l6 x12_l6, O66 b48 r64.2.2.2, O40 b53 r75.2.2] → colophonlaw07_CachePlays.l6 r64 k x12_l6 x142_l6 = some out → WL Try.prog (cbody (cbody (cr (cr (cr (cr (cr (cthen (cr (cbody (cr (cl (cr (cr (cbody (cl (cr (cr (cbody (cbody (cr (cl (cr (cr (cr (cr (cr (cr C3)))))))))))))))))))))))))))) Q 169 [(8, .pointer (some ⟨b48, 0, none⟩)), (9, .pointer (some ⟨b53, 0, none⟩)), (12, .slice A12_l6 x12_l6.length c12_l6), (43, .slice A2 l2.length c2), (44, .int .i64 (l2.length : Int)), (45, .int .i64 x45_l1), (141, .int .i64 (r64.1.length : Int)), (142, .int .i64 x142_l6)] w := by
  intro k
  induction k with
  | zero => intro x12_l6 x142_l6 A12_l6 c12_l6 w hS H; exact absurd (show none = some out from H) (by simp)
  | succ k ih =>
    intro x12_l6 x142_l6 A12_l6 c12_l6 w hS H
    unfold colophonlaw07_CachePlays.l6 at H
    refine WL.round ?_
    refine WC.seq kr ?_
    refine WC.reg [0] kr kr ?_
    refine WR.runk [0] [] [8, 9, 12, 43, 44, 45, 141, 142, 143] (L' := [(8, .pointer (some ⟨b48, 0, none⟩)), (9, .pointer (some ⟨b53, 0, none⟩)), (12, .slice A12_l6 x12_l6.length c12_l6), (43, .slice A2 l2.length c2), (44, .int .i64 (l2.length : Int)), (45, .int .i64 x45_l1), (141, .int .i64 (r64.1.length : Int)), (142, .int .i64 x142_l6), (143, .bool (decide (x142_l6 < (r64.1.length : Int))))]) (w' := w) kr ?_
    refine WR.nil ?_
    refine At.go ?_
    refine WC.seq kr ?_
    refine WC.cond kr (decide (x142_l6 < (r64.1.length : Int))) kr kr (fun hb228 => ?_) (fun hb228 => ?_)
    ·replace H := ite_t H hb228
     refine WC.skip kr ?_
     refine At.go ?_
     refine WC.seq kr ?_
     refine WC.block kr ?_
     refine WC.seq kr ?_
     refine WC.reg [0, 1] kr kr ?_
     refine WR.runk [0, 1] [] [8, 9, 12, 17, 43, 44, 45, 141, 142] (L' := [(8, .pointer (some ⟨b48, 0, none⟩)), (9, .pointer (some ⟨b53, 0, none⟩)), (12, .slice A12_l6 x12_l6.length c12_l6), (17, .int .i64 x142_l6), (43, .slice A2 l2.length c2), (44, .int .i64 (l2.length : Int)), (45, .int .i64 x45_l1), (141, .int .i64 (r64.1.length : Int)), (142, .int .i64 x142_l6)]) (w' := w) kr ?_
     refine WR.nil ?_
     refine At.go ?_
     refine WC.reg [0, 1, 2, 3, 4, 5, 6] kr kr ?_
     refine WR.runk [0, 1] [2, 3, 4, 5, 6] [8, 9, 12, 43, 44, 45, 141, 142, 145, 146] (L' := [(8, .pointer (some ⟨b48, 0, none⟩)), (9, .pointer (some ⟨b53, 0, none⟩)), (12, .slice A12_l6 x12_l6.length c12_l6), (43, .slice A2 l2.length c2), (44, .int .i64 (l2.length : Int)), (45, .int .i64 x45_l1), (141, .int .i64 (r64.1.length : Int)), (142, .int .i64 x142_l6), (145, .slice A12_l6 x12_l6.length c12_l6), (146, .int .i64 x142_l6)]) (w' := w) kr ?_
     obtain ⟨v229, e230, H⟩ := bind_ex H
     refine WR.st (St.ofP (PSt.idx (k := .i64) (.tmp 145) (.tmp 146) kr kr E31 kr kr (Sat.rdAt 0 hS rfl) e230 ?_))
     refine WR.runk [] [3, 4, 5, 6] [8, 9, 12, 43, 44, 45, 141, 142, 145, 146, 147] (L' := [(8, .pointer (some ⟨b48, 0, none⟩)), (9, .pointer (some ⟨b53, 0, none⟩)), (12, .slice A12_l6 x12_l6.length c12_l6), (43, .slice A2 l2.length c2), (44, .int .i64 (l2.length : Int)), (45, .int .i64 x45_l1), (141, .int .i64 (r64.1.length : Int)), (142, .int .i64 x142_l6), (145, .slice A12_l6 x12_l6.length c12_l6), (146, .int .i64 x142_l6), (147, .pointer (some (adr A12_l6 x142_l6.toNat 1)))]) (w' := w) kr ?_
     refine WR.st (St.ofR (RSt.loadInt (t := 5) (.tmp 147) kr kr kr kr (Sat.rdAt 0 hS rfl) e230 ?_))
     refine WR.runk [4] [5, 6] [8, 9, 12, 43, 44, 45, 141, 142, 145, 146, 149] (L' := [(8, .pointer (some ⟨b48, 0, none⟩)), (9, .pointer (some ⟨b53, 0, none⟩)), (12, .slice A12_l6 x12_l6.length c12_l6), (43, .slice A2 l2.length c2), (44, .int .i64 (l2.length : Int)), (45, .int .i64 x45_l1), (141, .int .i64 (r64.1.length : Int)), (142, .int .i64 x142_l6), (145, .slice A12_l6 x12_l6.length c12_l6), (146, .int .i64 x142_l6), (149, .int .u8 (ixor .u8 v229 255))]) (w' := w) kr ?_
     refine WR.st (St.ofP (PSt.idx (k := .i64) (.tmp 145) (.tmp 146) kr kr E31 kr kr (Sat.rdAt 0 hS rfl) e230 ?_))
     refine WR.runk [] [6] [8, 9, 12, 43, 44, 45, 141, 142, 149, 150] (L' := [(8, .pointer (some ⟨b48, 0, none⟩)), (9, .pointer (some ⟨b53, 0, none⟩)), (12, .slice A12_l6 x12_l6.length c12_l6), (43, .slice A2 l2.length c2), (44, .int .i64 (l2.length : Int)), (45, .int .i64 x45_l1), (141, .int .i64 (r64.1.length : Int)), (142, .int .i64 x142_l6), (149, .int .u8 (ixor .u8 v229 255)), (150, .pointer (some (adr A12_l6 x142_l6.toNat 1)))]) (w' := w) kr ?_
     obtain ⟨y231, e232, H⟩ := bind_ex H
     refine WR.st (St.storeElem' (t := 5) (.tmp 150) (.tmp 149) kr kr kr hS kr kr rfl e232 rfl (fun w233 hS => ?_))
     have hl234 := set?_len e232
     refine WR.know 12 (.slice A12_l6 y231.length c12_l6) (.slice A12_l6 x12_l6.length c12_l6) kr (by rw [hl234]) ?_
     refine WR.runk [] [] [8, 9, 12, 43, 44, 45, 141, 142] (L' := [(8, .pointer (some ⟨b48, 0, none⟩)), (9, .pointer (some ⟨b53, 0, none⟩)), (12, .slice A12_l6 y231.length c12_l6), (43, .slice A2 l2.length c2), (44, .int .i64 (l2.length : Int)), (45, .int .i64 x45_l1), (141, .int .i64 (r64.1.length : Int)), (142, .int .i64 x142_l6)]) (w' := w233) kr ?_
     refine WR.nil ?_
     refine At.blockNormal ?_
     refine At.go ?_
     refine WC.reg [0, 1] kr kr ?_
     refine WR.runk [0, 1] [] [8, 9, 12, 43, 44, 45, 141, 142] (L' := [(8, .pointer (some ⟨b48, 0, none⟩)), (9, .pointer (some ⟨b53, 0, none⟩)), (12, .slice A12_l6 y231.length c12_l6), (43, .slice A2 l2.length c2), (44, .int .i64 (l2.length : Int)), (45, .int .i64 x45_l1), (141, .int .i64 (r64.1.length : Int)), (142, .int .i64 (wi (x142_l6 + 1)))]) (w' := w233) kr ?_
     refine WR.nil ?_
     have hS : Sat w233 (rf w0) [osl 5 (r0 (.int .u8)) 1 A12_l6 c12_l6 y231, O66 b48 r64.2.2.2, O40 b53 r75.2.2] := hS.sel [0, 1, 2] kr
     refine At.again ?_
     refine WL.weaken [8, 9, 12, 43, 44, 45, 141, 142] (L' := [(8, .pointer (some ⟨b48, 0, none⟩)), (9, .pointer (some ⟨b53, 0, none⟩)), (12, .slice A12_l6 y231.length c12_l6), (43, .slice A2 l2.length c2), (44, .int .i64 (l2.length : Int)), (45, .int .i64 x45_l1), (141, .int .i64 (r64.1.length : Int)), (142, .int .i64 (wi (x142_l6 + 1)))]) kr ?_
     exact ih y231 (wi (x142_l6 + 1)) A12_l6 c12_l6 _ hS H
    ·replace H := ite_f H hb228
     refine WC.exit kr ?_
     refine At.thenExit ?_
     refine At.thenExit ?_
     obtain rfl := Option.some.inj H
     have hS : Sat w (rf w0) [O66 b48 r64.2.2.2, O40 b53 r75.2.2] := hS.sel [1, 2] kr
     refine At.weaken [8, 9, 43, 44, 45] (L' := [(8, .pointer (some ⟨b48, 0, none⟩)), (9, .pointer (some ⟨b53, 0, none⟩)), (43, .slice A2 l2.length c2), (44, .int .i64 (l2.length : Int)), (45, .int .i64 x45_l1)]) kr ?_
     exact hn0 _ hS
theorem colophonlaw07_CachePlays.l7_ok {Q} (w0 : World) (A2 : Option Addr) (c2 : Nat) (l2 : List (Int × Int)) (b48 : Nat) (b53 : Nat) (x45_l1 : Int) (r64 : (List Int) × Bool × Int × ((Option ((List (List Int)) × (List Int) × (List Int))) × (List (Int × (List Int) × Bool × Int)) × Int × Int × Int)) (r75 : Bool × Int × (Int × (List (Int × Int × Bool)) × Int × Int × Int)) (out : Unit) (hn0 : ∀ (w : World), Sat w (rf w0) [O66 b48 r64.2.2.2, O40 b53 r75.2.2] → At Q (.exit 5) 169 [(8, .pointer (some ⟨b48, 0, none⟩)), (9, .pointer (some ⟨b53, 0, none⟩)), (43, .slice A2 l2.length c2), (44, .int .i64 (l2.length : Int)), (45, .int .i64 x45_l1)] w) :
    ∀ (k : Nat) (x12_l7 : List Int) (x142_l7 : Int) (A12_l7 : Option Addr) (c12_l7 : Nat) (w : World), Sat w (rf w0) [osl 5 (r0 (.int .u8)) 1 A12_l7 c12_l7 x12_l7, O66 b48 r64.2.2.2, O40 b53 r75.2.2] → colophonlaw07_CachePlays.l7 r64 k x12_l7 x142_l7 = some out → WL Try.prog (cbody (cbody (cr (cr (cr (cr (cr (cthen (cr (cbody (cr (cl (cr (cr (cbody (cl (cr (cr (cbody (cbody (cr (cl (cr (cr (cr (cr (cr (cr C3)))))))))))))))))))))))))))) Q 169 [(8, .pointer (some ⟨b48, 0, none⟩)), (9, .pointer (some ⟨b53, 0, none⟩)), (12, .slice A12_l7 x12_l7.length c12_l7), (43, .slice A2 l2.length c2), (44, .int .i64 (l2.length : Int)), (45, .int .i64 x45_l1), (141, .int .i64 (r64.1.length : Int)), (142, .int .i64 x142_l7)] w := by
  intro k
  induction k with
  | zero => intro x12_l7 x142_l7 A12_l7 c12_l7 w hS H; exact absurd (show none = some out from H) (by simp)
  | succ k ih =>
    intro x12_l7 x142_l7 A12_l7 c12_l7 w hS H
    unfold colophonlaw07_CachePlays.l7 at H
    refine WL.round ?_
    refine WC.seq kr ?_
    refine WC.reg [0] kr kr ?_
    refine WR.runk [0] [] [8, 9, 12, 43, 44, 45, 141, 142, 143] (L' := [(8, .pointer (some ⟨b48, 0, none⟩)), (9, .pointer (some ⟨b53, 0, none⟩)), (12, .slice A12_l7 x12_l7.length c12_l7), (43, .slice A2 l2.length c2), (44, .int .i64 (l2.length : Int)), (45, .int .i64 x45_l1), (141, .int .i64 (r64.1.length : Int)), (142, .int .i64 x142_l7), (143, .bool (decide (x142_l7 < (r64.1.length : Int))))]) (w' := w) kr ?_
    refine WR.nil ?_
    refine At.go ?_
    refine WC.seq kr ?_
    refine WC.cond kr (decide (x142_l7 < (r64.1.length : Int))) kr kr (fun hb259 => ?_) (fun hb259 => ?_)
    ·replace H := ite_t H hb259
     refine WC.skip kr ?_
     refine At.go ?_
     refine WC.seq kr ?_
     refine WC.block kr ?_
     refine WC.seq kr ?_
     refine WC.reg [0, 1] kr kr ?_
     refine WR.runk [0, 1] [] [8, 9, 12, 17, 43, 44, 45, 141, 142] (L' := [(8, .pointer (some ⟨b48, 0, none⟩)), (9, .pointer (some ⟨b53, 0, none⟩)), (12, .slice A12_l7 x12_l7.length c12_l7), (17, .int .i64 x142_l7), (43, .slice A2 l2.length c2), (44, .int .i64 (l2.length : Int)), (45, .int .i64 x45_l1), (141, .int .i64 (r64.1.length : Int)), (142, .int .i64 x142_l7)]) (w' := w) kr ?_
     refine WR.nil ?_
     refine At.go ?_
     refine WC.reg [0, 1, 2, 3, 4, 5, 6] kr kr ?_
     refine WR.runk [0, 1] [2, 3, 4, 5, 6] [8, 9, 12, 43, 44, 45, 141, 142, 145, 146] (L' := [(8, .pointer (some ⟨b48, 0, none⟩)), (9, .pointer (some ⟨b53, 0, none⟩)), (12, .slice A12_l7 x12_l7.length c12_l7), (43, .slice A2 l2.length c2), (44, .int .i64 (l2.length : Int)), (45, .int .i64 x45_l1), (141, .int .i64 (r64.1.length : Int)), (142, .int .i64 x142_l7), (145, .slice A12_l7 x12_l7.length c12_l7), (146, .int .i64 x142_l7)]) (w' := w) kr ?_
     obtain ⟨v260, e261, H⟩ := bind_ex H
     refine WR.st (St.ofP (PSt.idx (k := .i64) (.tmp 145) (.tmp 146) kr kr E31 kr kr (Sat.rdAt 0 hS rfl) e261 ?_))
     refine WR.runk [] [3, 4, 5, 6] [8, 9, 12, 43, 44, 45, 141, 142, 145, 146, 147] (L' := [(8, .pointer (some ⟨b48, 0, none⟩)), (9, .pointer (some ⟨b53, 0, none⟩)), (12, .slice A12_l7 x12_l7.length c12_l7), (43, .slice A2 l2.length c2), (44, .int .i64 (l2.length : Int)), (45, .int .i64 x45_l1), (141, .int .i64 (r64.1.length : Int)), (142, .int .i64 x142_l7), (145, .slice A12_l7 x12_l7.length c12_l7), (146, .int .i64 x142_l7), (147, .pointer (some (adr A12_l7 x142_l7.toNat 1)))]) (w' := w) kr ?_
     refine WR.st (St.ofR (RSt.loadInt (t := 5) (.tmp 147) kr kr kr kr (Sat.rdAt 0 hS rfl) e261 ?_))
     refine WR.runk [4] [5, 6] [8, 9, 12, 43, 44, 45, 141, 142, 145, 146, 149] (L' := [(8, .pointer (some ⟨b48, 0, none⟩)), (9, .pointer (some ⟨b53, 0, none⟩)), (12, .slice A12_l7 x12_l7.length c12_l7), (43, .slice A2 l2.length c2), (44, .int .i64 (l2.length : Int)), (45, .int .i64 x45_l1), (141, .int .i64 (r64.1.length : Int)), (142, .int .i64 x142_l7), (145, .slice A12_l7 x12_l7.length c12_l7), (146, .int .i64 x142_l7), (149, .int .u8 (ixor .u8 v260 255))]) (w' := w) kr ?_
     refine WR.st (St.ofP (PSt.idx (k := .i64) (.tmp 145) (.tmp 146) kr kr E31 kr kr (Sat.rdAt 0 hS rfl) e261 ?_))
     refine WR.runk [] [6] [8, 9, 12, 43, 44, 45, 141, 142, 149, 150] (L' := [(8, .pointer (some ⟨b48, 0, none⟩)), (9, .pointer (some ⟨b53, 0, none⟩)), (12, .slice A12_l7 x12_l7.length c12_l7), (43, .slice A2 l2.length c2), (44, .int .i64 (l2.length : Int)), (45, .int .i64 x45_l1), (141, .int .i64 (r64.1.length : Int)), (142, .int .i64 x142_l7), (149, .int .u8 (ixor .u8 v260 255)), (150, .pointer (some (adr A12_l7 x142_l7.toNat 1)))]) (w' := w) kr ?_
     obtain ⟨y262, e263, H⟩ := bind_ex H
     refine WR.st (St.storeElem' (t := 5) (.tmp 150) (.tmp 149) kr kr kr hS kr kr rfl e263 rfl (fun w264 hS => ?_))
     have hl265 := set?_len e263
     refine WR.know 12 (.slice A12_l7 y262.length c12_l7) (.slice A12_l7 x12_l7.length c12_l7) kr (by rw [hl265]) ?_
     refine WR.runk [] [] [8, 9, 12, 43, 44, 45, 141, 142] (L' := [(8, .pointer (some ⟨b48, 0, none⟩)), (9, .pointer (some ⟨b53, 0, none⟩)), (12, .slice A12_l7 y262.length c12_l7), (43, .slice A2 l2.length c2), (44, .int .i64 (l2.length : Int)), (45, .int .i64 x45_l1), (141, .int .i64 (r64.1.length : Int)), (142, .int .i64 x142_l7)]) (w' := w264) kr ?_
     refine WR.nil ?_
     refine At.blockNormal ?_
     refine At.go ?_
     refine WC.reg [0, 1] kr kr ?_
     refine WR.runk [0, 1] [] [8, 9, 12, 43, 44, 45, 141, 142] (L' := [(8, .pointer (some ⟨b48, 0, none⟩)), (9, .pointer (some ⟨b53, 0, none⟩)), (12, .slice A12_l7 y262.length c12_l7), (43, .slice A2 l2.length c2), (44, .int .i64 (l2.length : Int)), (45, .int .i64 x45_l1), (141, .int .i64 (r64.1.length : Int)), (142, .int .i64 (wi (x142_l7 + 1)))]) (w' := w264) kr ?_
     refine WR.nil ?_
     have hS : Sat w264 (rf w0) [osl 5 (r0 (.int .u8)) 1 A12_l7 c12_l7 y262, O66 b48 r64.2.2.2, O40 b53 r75.2.2] := hS.sel [0, 1, 2] kr
     refine At.again ?_
     refine WL.weaken [8, 9, 12, 43, 44, 45, 141, 142] (L' := [(8, .pointer (some ⟨b48, 0, none⟩)), (9, .pointer (some ⟨b53, 0, none⟩)), (12, .slice A12_l7 y262.length c12_l7), (43, .slice A2 l2.length c2), (44, .int .i64 (l2.length : Int)), (45, .int .i64 x45_l1), (141, .int .i64 (r64.1.length : Int)), (142, .int .i64 (wi (x142_l7 + 1)))]) kr ?_
     exact ih y262 (wi (x142_l7 + 1)) A12_l7 c12_l7 _ hS H
    ·replace H := ite_f H hb259
     refine WC.exit kr ?_
     refine At.thenExit ?_
     refine At.thenExit ?_
     obtain rfl := Option.some.inj H
     have hS : Sat w (rf w0) [O66 b48 r64.2.2.2, O40 b53 r75.2.2] := hS.sel [1, 2] kr
     refine At.weaken [8, 9, 43, 44, 45] (L' := [(8, .pointer (some ⟨b48, 0, none⟩)), (9, .pointer (some ⟨b53, 0, none⟩)), (43, .slice A2 l2.length c2), (44, .int .i64 (l2.length : Int)), (45, .int .i64 x45_l1)]) kr ?_
     exact hn0 _ hS
theorem colophonlaw07_CachePlays.l8_ok {Q} (w0 : World) (A2 : Option Addr) (c2 : Nat) (l2 : List (Int × Int)) (b48 : Nat) (b53 : Nat) (x45_l1 : Int) (q49_l1 : (Option ((List (List Int)) × (List Int) × (List Int))) × (List (Int × (List Int) × Bool × Int)) × Int × Int × Int) (q54_l1 : Int × (List (Int × Int × Bool)) × Int × Int × Int) (v56 : Int × Int) (b58 : Nat) (A331 : Option Addr) (c332 : Nat) (out : Bool) (hn0 : ∀ (w : World), Sat w (rf w0) [O66 b48 q49_l1, O30 b58 (v56.1, v56.2), pts b53 (.cells #[.int .i64 q54_l1.1, .slice A331 q54_l1.2.1.length c332, .int .i64 q54_l1.2.2.1, .int .i64 q54_l1.2.2.2.1, .int .i64 q54_l1.2.2.2.2] 40 (0, 0)), osl 42 (r0 (.pair (.int .i64) (.pair (.int .i64) .bool))) 3 A331 c332 q54_l1.2.1] → At Q (.exit 3) 169 [(8, .pointer (some ⟨b48, 0, none⟩)), (9, .pointer (some ⟨b53, 0, none⟩)), (11, .pointer (some ⟨b58, 0, none⟩)), (18, .bool out), (43, .slice A2 l2.length c2), (44, .int .i64 (l2.length : Int)), (45, .int .i64 x45_l1)] w) :
    ∀ (k : Nat) (x18_l8 : Bool) (x61_l8 : Int) (w : World), Sat w (rf w0) [osl 42 (r0 (.pair (.int .i64) (.pair (.int .i64) .bool))) 3 A331 c332 q54_l1.2.1, O66 b48 q49_l1, O30 b58 (v56.1, v56.2), pts b53 (.cells #[.int .i64 q54_l1.1, .slice A331 q54_l1.2.1.length c332, .int .i64 q54_l1.2.2.1, .int .i64 q54_l1.2.2.2.1, .int .i64 q54_l1.2.2.2.2] 40 (0, 0))] → colophonlaw07_CachePlays.l8 q54_l1 v56 k x18_l8 x61_l8 = some out → WL Try.prog (cbody (cbody (cr (cl (cr (celse (cr (celse (cr (cbody (cr (cl (cr (cr (cbody (cl (cr (cr (cbody (cbody (cr (cl (cr (cr (cr (cr (cr (cr C3)))))))))))))))))))))))))))) Q 169 [(8, .pointer (some ⟨b48, 0, none⟩)), (9, .pointer (some ⟨b53, 0, none⟩)), (11, .pointer (some ⟨b58, 0, none⟩)), (18, .bool x18_l8), (43, .slice A2 l2.length c2), (44, .int .i64 (l2.length : Int)), (45, .int .i64 x45_l1), (59, .slice A331 q54_l1.2.1.length c332), (60, .int .i64 (q54_l1.2.1.length : Int)), (61, .int .i64 x61_l8)] w := by
  intro k
  induction k with
  | zero => intro x18_l8 x61_l8 w hS H; exact absurd (show none = some out from H) (by simp)
  | succ k ih =>
    intro x18_l8 x61_l8 w hS H
    unfold colophonlaw07_CachePlays.l8 at H
    refine WL.round ?_
    refine WC.seq kr ?_
    refine WC.reg [0] kr kr ?_
    refine WR.runk [0] [] [8, 9, 11, 18, 43, 44, 45, 59, 60, 61, 62] (L' := [(8, .pointer (some ⟨b48, 0, none⟩)), (9, .pointer (some ⟨b53, 0, none⟩)), (11, .pointer (some ⟨b58, 0, none⟩)), (18, .bool x18_l8), (43, .slice A2 l2.length c2), (44, .int .i64 (l2.length : Int)), (45, .int .i64 x45_l1), (59, .slice A331 q54_l1.2.1.length c332), (60, .int .i64 (q54_l1.2.1.length : Int)), (61, .int .i64 x61_l8), (62, .bool (decide (x61_l8 < (q54_l1.2.1.length : Int))))]) (w' := w) kr ?_
    refine WR.nil ?_
    refine At.go ?_
    refine WC.seq kr ?_
    refine WC.cond kr (decide (x61_l8 < (q54_l1.2.1.length : Int))) kr kr (fun hb333 => ?_) (fun hb333 => ?_)
    ·replace H := ite_t H hb333
     refine WC.skip kr ?_
     refine At.go ?_
     refine WC.seq kr ?_
     refine WC.block kr ?_
     refine WC.seq kr ?_
     refine WC.reg [0, 1, 2, 3] kr kr ?_
     refine WR.runk [] [0, 1, 2, 3] [8, 9, 11, 18, 43, 44, 45, 59, 60, 61] (L' := [(8, .pointer (some ⟨b48, 0, none⟩)), (9, .pointer (some ⟨b53, 0, none⟩)), (11, .pointer (some ⟨b58, 0, none⟩)), (18, .bool x18_l8), (43, .slice A2 l2.length c2), (44, .int .i64 (l2.length : Int)), (45, .int .i64 x45_l1), (59, .slice A331 q54_l1.2.1.length c332), (60, .int .i64 (q54_l1.2.1.length : Int)), (61, .int .i64 x61_l8)]) (w' := w) kr ?_
     obtain ⟨v334, e335, H⟩ := bind_ex H
     refine WR.st (St.ofP (PSt.idx (k := .i64) (.tmp 59) (.tmp 61) kr kr E38 kr kr (Sat.rdAt 0 hS rfl) e335 ?_))
     refine WR.runk [] [1, 2, 3] [8, 9, 11, 18, 43, 44, 45, 59, 60, 61, 63] (L' := [(8, .pointer (some ⟨b48, 0, none⟩)), (9, .pointer (some ⟨b53, 0, none⟩)), (11, .pointer (some ⟨b58, 0, none⟩)), (18, .bool x18_l8), (43, .slice A2 l2.length c2), (44, .int .i64 (l2.length : Int)), (45, .int .i64 x45_l1), (59, .slice A331 q54_l1.2.1.length c332), (60, .int .i64 (q54_l1.2.1.length : Int)), (61, .int .i64 x61_l8), (63, .pointer (some (adr A331 x61_l8.toNat 3)))]) (w' := w) kr ?_
     refine WR.st (St.ofR (RSt.loadFlat (t := 42) (κ := (.pair (.int .i64) (.pair (.int .i64) .bool))) (.tmp 63) kr kr kr kr kr kr (Sat.rdAt 0 hS rfl) e335 ?_))
     refine WR.runk [] [2, 3] [8, 9, 11, 18, 43, 44, 45, 59, 60, 61, 64] (L' := [(8, .pointer (some ⟨b48, 0, none⟩)), (9, .pointer (some ⟨b53, 0, none⟩)), (11, .pointer (some ⟨b58, 0, none⟩)), (18, .bool x18_l8), (43, .slice A2 l2.length c2), (44, .int .i64 (l2.length : Int)), (45, .int .i64 x45_l1), (59, .slice A331 q54_l1.2.1.length c332), (60, .int .i64 (q54_l1.2.1.length : Int)), (61, .int .i64 x61_l8), (64, .agg #[.int .i64 v334.1, .int .i64 v334.2.1, .bool v334.2.2])]) (w' := w) kr ?_
     refine WR.st (St.box hS kr (.cells #[.int .i64 0, .int .i64 0, .bool false] 42) (fun b336 => .pointer (some ⟨b336, 0, none⟩)) (fun _ => by kernel_rfl) (fun b336 w337 hS => ?_))
     refine WR.runk [] [3] [8, 9, 11, 18, 20, 43, 44, 45, 59, 60, 61, 64] (L' := [(8, .pointer (some ⟨b48, 0, none⟩)), (9, .pointer (some ⟨b53, 0, none⟩)), (11, .pointer (some ⟨b58, 0, none⟩)), (18, .bool x18_l8), (20, .pointer (some ⟨b336, 0, none⟩)), (43, .slice A2 l2.length c2), (44, .int .i64 (l2.length : Int)), (45, .int .i64 x45_l1), (59, .slice A331 q54_l1.2.1.length c332), (60, .int .i64 (q54_l1.2.1.length : Int)), (61, .int .i64 x61_l8), (64, .agg #[.int .i64 v334.1, .int .i64 v334.2.1, .bool v334.2.2])]) (w' := w337) kr ?_
     refine WR.st (St.storeAll (t := 42) (vs := [.int .i64 v334.1, .int .i64 v334.2.1, .bool v334.2.2]) (.tmp 20) (.tmp 64) kr kr kr hS kr kr kr kr (fun w339 hS => ?_))
     have hS : Sat w339 (rf w0) [pts b336 (.cells #[.int .i64 v334.1, .int .i64 v334.2.1, .bool v334.2.2] 42 (0, 0)), osl 42 (r0 (.pair (.int .i64) (.pair (.int .i64) .bool))) 3 A331 c332 q54_l1.2.1, O66 b48 q49_l1, O30 b58 (v56.1, v56.2), pts b53 (.cells #[.int .i64 q54_l1.1, .slice A331 q54_l1.2.1.length c332, .int .i64 q54_l1.2.2.1, .int .i64 q54_l1.2.2.2.1, .int .i64 q54_l1.2.2.2.2] 40 (0, 0))] := hS
     refine WR.runk [] [] [8, 9, 11, 18, 20, 43, 44, 45, 59, 60, 61] (L' := [(8, .pointer (some ⟨b48, 0, none⟩)), (9, .pointer (some ⟨b53, 0, none⟩)), (11, .pointer (some ⟨b58, 0, none⟩)), (18, .bool x18_l8), (20, .pointer (some ⟨b336, 0, none⟩)), (43, .slice A2 l2.length c2), (44, .int .i64 (l2.length : Int)), (45, .int .i64 x45_l1), (59, .slice A331 q54_l1.2.1.length c332), (60, .int .i64 (q54_l1.2.1.length : Int)), (61, .int .i64 x61_l8)]) (w' := w339) kr ?_
     refine WR.nil ?_
     refine At.go ?_
     refine WC.reg [0, 1, 2, 3, 4, 5, 6, 7, 8, 9, 10, 11, 12, 13] kr kr ?_
     refine WR.runk [0, 1] [2, 3, 4, 5, 6, 7, 8, 9, 10, 11, 12, 13] [8, 9, 11, 18, 20, 43, 44, 45, 59, 60, 61, 66] (L' := [(8, .pointer (some ⟨b48, 0, none⟩)), (9, .pointer (some ⟨b53, 0, none⟩)), (11, .pointer (some ⟨b58, 0, none⟩)), (18, .bool x18_l8), (20, .pointer (some ⟨b336, 0, none⟩)), (43, .slice A2 l2.length c2), (44, .int .i64 (l2.length : Int)), (45, .int .i64 x45_l1), (59, .slice A331 q54_l1.2.1.length c332), (60, .int .i64 (q54_l1.2.1.length : Int)), (61, .int .i64 x61_l8), (66, .bool x18_l8)]) (w' := w339) kr ?_
     refine WR.split 66 (b := x18_l8) kr (fun hb340 => ?_) (fun hb340 => ?_)
     ·replace H := ite_t H hb340
      refine WR.runk [2, 3, 4, 5, 6, 7, 8, 9, 10, 11, 12, 13] [] [8, 9, 11, 18, 43, 44, 45, 59, 60, 61] (L' := [(8, .pointer (some ⟨b48, 0, none⟩)), (9, .pointer (some ⟨b53, 0, none⟩)), (11, .pointer (some ⟨b58, 0, none⟩)), (18, .bool true), (43, .slice A2 l2.length c2), (44, .int .i64 (l2.length : Int)), (45, .int .i64 x45_l1), (59, .slice A331 q54_l1.2.1.length c332), (60, .int .i64 (q54_l1.2.1.length : Int)), (61, .int .i64 x61_l8)]) (w' := w339) kr ?_
      refine WR.nil ?_
      refine At.blockNormal ?_
      refine At.go ?_
      refine WC.reg [0, 1] kr kr ?_
      refine WR.runk [0, 1] [] [8, 9, 11, 18, 43, 44, 45, 59, 60, 61] (L' := [(8, .pointer (some ⟨b48, 0, none⟩)), (9, .pointer (some ⟨b53, 0, none⟩)), (11, .pointer (some ⟨b58, 0, none⟩)), (18, .bool true), (43, .slice A2 l2.length c2), (44, .int .i64 (l2.length : Int)), (45, .int .i64 x45_l1), (59, .slice A331 q54_l1.2.1.length c332), (60, .int .i64 (q54_l1.2.1.length : Int)), (61, .int .i64 (wi (x61_l8 + 1)))]) (w' := w339) kr ?_
      refine WR.nil ?_
      have hS : Sat w339 (rf w0) [osl 42 (r0 (.pair (.int .i64) (.pair (.int .i64) .bool))) 3 A331 c332 q54_l1.2.1, O66 b48 q49_l1, O30 b58 (v56.1, v56.2), pts b53 (.cells #[.int .i64 q54_l1.1, .slice A331 q54_l1.2.1.length c332, .int .i64 q54_l1.2.2.1, .int .i64 q54_l1.2.2.2.1, .int .i64 q54_l1.2.2.2.2] 40 (0, 0))] := hS.sel [1, 2, 3, 4] kr
      refine At.again ?_
      refine WL.weaken [8, 9, 11, 18, 43, 44, 45, 59, 60, 61] (L' := [(8, .pointer (some ⟨b48, 0, none⟩)), (9, .pointer (some ⟨b53, 0, none⟩)), (11, .pointer (some ⟨b58, 0, none⟩)), (18, .bool true), (43, .slice A2 l2.length c2), (44, .int .i64 (l2.length : Int)), (45, .int .i64 x45_l1), (59, .slice A331 q54_l1.2.1.length c332), (60, .int .i64 (q54_l1.2.1.length : Int)), (61, .int .i64 (wi (x61_l8 + 1)))]) kr ?_
      exact ih true (wi (x61_l8 + 1)) _ hS H
     ·replace H := ite_f H hb340
      refine WR.runk [2] [3, 4, 5, 6, 7, 8, 9, 10, 11, 12, 13] [8, 9, 11, 18, 20, 43, 44, 45, 59, 60, 61, 66, 67] (L' := [(8, .pointer (some ⟨b48, 0, none⟩)), (9, .pointer (some ⟨b53, 0, none⟩)), (11, .pointer (some ⟨b58, 0, none⟩)), (18, .bool x18_l8), (20, .pointer (some ⟨b336, 0, none⟩)), (43, .slice A2 l2.length c2), (44, .int .i64 (l2.length : Int)), (45, .int .i64 x45_l1), (59, .slice A331 q54_l1.2.1.length c332), (60, .int .i64 (q54_l1.2.1.length : Int)), (61, .int .i64 x61_l8), (66, .bool false), (67, .pointer (some ⟨b58, 1, none⟩))]) (w' := w339) kr ?_
      have hS : Sat w339 (rf w0) [O30 b58 (v56.1, v56.2), pts b336 (.cells #[.int .i64 v334.1, .int .i64 v334.2.1, .bool v334.2.2] 42 (0, 0)), osl 42 (r0 (.pair (.int .i64) (.pair (.int .i64) .bool))) 3 A331 c332 q54_l1.2.1, O66 b48 q49_l1, pts b53 (.cells #[.int .i64 q54_l1.1, .slice A331 q54_l1.2.1.length c332, .int .i64 q54_l1.2.2.1, .int .i64 q54_l1.2.2.2.1, .int .i64 q54_l1.2.2.2.2] 40 (0, 0))] := hS.sel [3, 0, 1, 2, 4] kr
      have hS := O30.open hS
      have hS : Sat w339 (rf w0) [pts b58 (.cells #[.int .i64 v56.1, .int .i64 v56.2] 30 (0, 0)), pts b336 (.cells #[.int .i64 v334.1, .int .i64 v334.2.1, .bool v334.2.2] 42 (0, 0)), osl 42 (r0 (.pair (.int .i64) (.pair (.int .i64) .bool))) 3 A331 c332 q54_l1.2.1, O66 b48 q49_l1, pts b53 (.cells #[.int .i64 q54_l1.1, .slice A331 q54_l1.2.1.length c332, .int .i64 q54_l1.2.2.1, .int .i64 q54_l1.2.2.2.1, .int .i64 q54_l1.2.2.2.2] 40 (0, 0))] := hS
      refine WR.st (St.ofR (RSt.loadObj (t := 3) (k := 1) (v := .int .i64 v56.2) (.tmp 67) kr kr kr 0 hS rfl kr rfl ?_))
      refine WR.runk [4, 5] [6, 7, 8, 9, 10, 11, 12, 13] [8, 9, 11, 18, 20, 43, 44, 45, 59, 60, 61, 66, 70] (L' := [(8, .pointer (some ⟨b48, 0, none⟩)), (9, .pointer (some ⟨b53, 0, none⟩)), (11, .pointer (some ⟨b58, 0, none⟩)), (18, .bool x18_l8), (20, .pointer (some ⟨b336, 0, none⟩)), (43, .slice A2 l2.length c2), (44, .int .i64 (l2.length : Int)), (45, .int .i64 x45_l1), (59, .slice A331 q54_l1.2.1.length c332), (60, .int .i64 (q54_l1.2.1.length : Int)), (61, .int .i64 x61_l8), (66, .bool false), (70, .bool (decide (v56.2 ≥ 0)))]) (w' := w339) kr ?_
      refine WR.split 70 (b := decide (v56.2 ≥ 0)) kr (fun hb341 => ?_) (fun hb341 => ?_)
      ·replace H := ite_t H hb341
       refine WR.runk [6] [7, 8, 9, 10, 11, 12, 13] [8, 9, 11, 18, 43, 44, 45, 59, 60, 61, 66, 70, 71] (L' := [(8, .pointer (some ⟨b48, 0, none⟩)), (9, .pointer (some ⟨b53, 0, none⟩)), (11, .pointer (some ⟨b58, 0, none⟩)), (18, .bool x18_l8), (43, .slice A2 l2.length c2), (44, .int .i64 (l2.length : Int)), (45, .int .i64 x45_l1), (59, .slice A331 q54_l1.2.1.length c332), (60, .int .i64 (q54_l1.2.1.length : Int)), (61, .int .i64 x61_l8), (66, .bool false), (70, .bool true), (71, .pointer (some ⟨b336, 0, none⟩))]) (w' := w339) kr ?_
       refine WR.st (St.ofR (RSt.loadObj (t := 3) (k := 0) (v := .int .i64 v334.1) (.tmp 71) kr kr kr 1 hS rfl kr rfl ?_))
       refine WR.runk [8] [9, 10, 11, 12, 13] [8, 9, 11, 18, 43, 44, 45, 59, 60, 61, 66, 70, 72, 73] (L' := [(8, .pointer (some ⟨b48, 0, none⟩)), (9, .pointer (some ⟨b53, 0, none⟩)), (11, .pointer (some ⟨b58, 0, none⟩)), (18, .bool x18_l8), (43, .slice A2 l2.length c2), (44, .int .i64 (l2.length : Int)), (45, .int .i64 x45_l1), (59, .slice A331 q54_l1.2.1.length c332), (60, .int .i64 (q54_l1.2.1.length : Int)), (61, .int .i64 x61_l8), (66, .bool false), (70, .bool true), (72, .int .i64 v334.1), (73, .pointer (some ⟨b58, 1, none⟩))]) (w' := w339) kr ?_
       refine WR.st (St.ofR (RSt.loadObj (t := 3) (k := 1) (v := .int .i64 v56.2) (.tmp 73) kr kr kr 0 hS rfl kr rfl ?_))
       refine WR.runk [10, 11, 12, 13] [] [8, 9, 11, 18, 43, 44, 45, 59, 60, 61] (L' := [(8, .pointer (some ⟨b48, 0, none⟩)), (9, .pointer (some ⟨b53, 0, none⟩)), (11, .pointer (some ⟨b58, 0, none⟩)), (18, .bool (v334.1 == v56.2)), (43, .slice A2 l2.length c2), (44, .int .i64 (l2.length : Int)), (45, .int .i64 x45_l1), (59, .slice A331 q54_l1.2.1.length c332), (60, .int .i64 (q54_l1.2.1.length : Int)), (61, .int .i64 x61_l8)]) (w' := w339) kr ?_
       refine WR.nil ?_
       refine At.blockNormal ?_
       refine At.go ?_
       refine WC.reg [0, 1] kr kr ?_
       refine WR.runk [0, 1] [] [8, 9, 11, 18, 43, 44, 45, 59, 60, 61] (L' := [(8, .pointer (some ⟨b48, 0, none⟩)), (9, .pointer (some ⟨b53, 0, none⟩)), (11, .pointer (some ⟨b58, 0, none⟩)), (18, .bool (v334.1 == v56.2)), (43, .slice A2 l2.length c2), (44, .int .i64 (l2.length : Int)), (45, .int .i64 x45_l1), (59, .slice A331 q54_l1.2.1.length c332), (60, .int .i64 (q54_l1.2.1.length : Int)), (61, .int .i64 (wi (x61_l8 + 1)))]) (w' := w339) kr ?_
       refine WR.nil ?_
       have hS : Sat w339 (rf w0) [pts b58 (.cells #[.int .i64 v56.1, .int .i64 v56.2] 30 (0, 0)), pts b336 (.cells #[.int .i64 v334.1, .int .i64 v334.2.1, .bool v334.2.2] 42 (0, 0)), osl 42 (r0 (.pair (.int .i64) (.pair (.int .i64) .bool))) 3 A331 c332 q54_l1.2.1, O66 b48 q49_l1, pts b53 (.cells #[.int .i64 q54_l1.1, .slice A331 q54_l1.2.1.length c332, .int .i64 q54_l1.2.2.1, .int .i64 q54_l1.2.2.2.1, .int .i64 q54_l1.2.2.2.2] 40 (0, 0))] := hS.sel [0, 1, 2, 3, 4] kr
       have hS : Sat w339 (rf w0) [O30 b58 (v56.1, v56.2), pts b336 (.cells #[.int .i64 v334.1, .int .i64 v334.2.1, .bool v334.2.2] 42 (0, 0)), osl 42 (r0 (.pair (.int .i64) (.pair (.int .i64) .bool))) 3 A331 c332 q54_l1.2.1, O66 b48 q49_l1, pts b53 (.cells #[.int .i64 q54_l1.1, .slice A331 q54_l1.2.1.length c332, .int .i64 q54_l1.2.2.1, .int .i64 q54_l1.2.2.2.1, .int .i64 q54_l1.2.2.2.2] 40 (0, 0))] := O30.close (v56.1, v56.2) hS
       have hS : Sat w339 (rf w0) [osl 42 (r0 (.pair (.int .i64) (.pair (.int .i64) .bool))) 3 A331 c332 q54_l1.2.1, O66 b48 q49_l1, O30 b58 (v56.1, v56.2), pts b53 (.cells #[.int .i64 q54_l1.1, .slice A331 q54_l1.2.1.length c332, .int .i64 q54_l1.2.2.1, .int .i64 q54_l1.2.2.2.1, .int .i64 q54_l1.2.2.2.2] 40 (0, 0))] := hS.sel [2, 3, 0, 4] kr
       refine At.again ?_
       refine WL.weaken [8, 9, 11, 18, 43, 44, 45, 59, 60, 61] (L' := [(8, .pointer (some ⟨b48, 0, none⟩)), (9, .pointer (some ⟨b53, 0, none⟩)), (11, .pointer (some ⟨b58, 0, none⟩)), (18, .bool (v334.1 == v56.2)), (43, .slice A2 l2.length c2), (44, .int .i64 (l2.length : Int)), (45, .int .i64 x45_l1), (59, .slice A331 q54_l1.2.1.length c332), (60, .int .i64 (q54_l1.2.1.length : Int)), (61, .int .i64 (wi (x61_l8 + 1)))]) kr ?_
       exact ih (v334.1 == v56.2) (wi (x61_l8 + 1)) _ hS H
      ·replace H := ite_f H hb341
       refine WR.runk [6, 7, 8, 9, 10, 11, 12, 13] [] [8, 9, 11, 18, 43, 44, 45, 59, 60, 61] (L' := [(8, .pointer (some ⟨b48, 0, none⟩)), (9, .pointer (some ⟨b53, 0, none⟩)), (11, .pointer (some ⟨b58, 0, none⟩)), (18, .bool false), (43, .slice A2 l2.length c2), (44, .int .i64 (l2.length : Int)), (45, .int .i64 x45_l1), (59, .slice A331 q54_l1.2.1.length c332), (60, .int .i64 (q54_l1.2.1.length : Int)), (61, .int .i64 x61_l8)]) (w' := w339) kr ?_
       refine WR.nil ?_
       refine At.blockNormal ?_
       refine At.go ?_
       refine WC.reg [0, 1] kr kr ?_
       refine WR.runk [0, 1] [] [8, 9, 11, 18, 43, 44, 45, 59, 60, 61] (L' := [(8, .pointer (some ⟨b48, 0, none⟩)), (9, .pointer (some ⟨b53, 0, none⟩)), (11, .pointer (some ⟨b58, 0, none⟩)), (18, .bool false), (43, .slice A2 l2.length c2), (44, .int .i64 (l2.length : Int)), (45, .int .i64 x45_l1), (59, .slice A331 q54_l1.2.1.length c332), (60, .int .i64 (q54_l1.2.1.length : Int)), (61, .int .i64 (wi (x61_l8 + 1)))]) (w' := w339) kr ?_
       refine WR.nil ?_
       have hS : Sat w339 (rf w0) [pts b58 (.cells #[.int .i64 v56.1, .int .i64 v56.2] 30 (0, 0)), pts b336 (.cells #[.int .i64 v334.1, .int .i64 v334.2.1, .bool v334.2.2] 42 (0, 0)), osl 42 (r0 (.pair (.int .i64) (.pair (.int .i64) .bool))) 3 A331 c332 q54_l1.2.1, O66 b48 q49_l1, pts b53 (.cells #[.int .i64 q54_l1.1, .slice A331 q54_l1.2.1.length c332, .int .i64 q54_l1.2.2.1, .int .i64 q54_l1.2.2.2.1, .int .i64 q54_l1.2.2.2.2] 40 (0, 0))] := hS.sel [0, 1, 2, 3, 4] kr
       have hS : Sat w339 (rf w0) [O30 b58 (v56.1, v56.2), pts b336 (.cells #[.int .i64 v334.1, .int .i64 v334.2.1, .bool v334.2.2] 42 (0, 0)), osl 42 (r0 (.pair (.int .i64) (.pair (.int .i64) .bool))) 3 A331 c332 q54_l1.2.1, O66 b48 q49_l1, pts b53 (.cells #[.int .i64 q54_l1.1, .slice A331 q54_l1.2.1.length c332, .int .i64 q54_l1.2.2.1, .int .i64 q54_l1.2.2.2.1, .int .i64 q54_l1.2.2.2.2] 40 (0, 0))] := O30.close (v56.1, v56.2) hS
       have hS : Sat w339 (rf w0) [osl 42 (r0 (.pair (.int .i64) (.pair (.int .i64) .bool))) 3 A331 c332 q54_l1.2.1, O66 b48 q49_l1, O30 b58 (v56.1, v56.2), pts b53 (.cells #[.int .i64 q54_l1.1, .slice A331 q54_l1.2.1.length c332, .int .i64 q54_l1.2.2.1, .int .i64 q54_l1.2.2.2.1, .int .i64 q54_l1.2.2.2.2] 40 (0, 0))] := hS.sel [2, 3, 0, 4] kr
       refine At.again ?_
       refine WL.weaken [8, 9, 11, 18, 43, 44, 45, 59, 60, 61] (L' := [(8, .pointer (some ⟨b48, 0, none⟩)), (9, .pointer (some ⟨b53, 0, none⟩)), (11, .pointer (some ⟨b58, 0, none⟩)), (18, .bool false), (43, .slice A2 l2.length c2), (44, .int .i64 (l2.length : Int)), (45, .int .i64 x45_l1), (59, .slice A331 q54_l1.2.1.length c332), (60, .int .i64 (q54_l1.2.1.length : Int)), (61, .int .i64 (wi (x61_l8 + 1)))]) kr ?_
       exact ih false (wi (x61_l8 + 1)) _ hS H
    ·replace H := ite_f H hb333
     refine WC.exit kr ?_
     refine At.thenExit ?_
     refine At.thenExit ?_
     obtain rfl := Option.some.inj H
     have hS : Sat w (rf w0) [O66 b48 q49_l1, O30 b58 (v56.1, v56.2), pts b53 (.cells #[.int .i64 q54_l1.1, .slice A331 q54_l1.2.1.length c332, .int .i64 q54_l1.2.2.1, .int .i64 q54_l1.2.2.2.1, .int .i64 q54_l1.2.2.2.2] 40 (0, 0)), osl 42 (r0 (.pair (.int .i64) (.pair (.int .i64) .bool))) 3 A331 c332 q54_l1.2.1] := hS.sel [1, 2, 3, 0] kr
     refine At.weaken [8, 9, 11, 18, 43, 44, 45] (L' := [(8, .pointer (some ⟨b48, 0, none⟩)), (9, .pointer (some ⟨b53, 0, none⟩)), (11, .pointer (some ⟨b58, 0, none⟩)), (18, .bool x18_l8), (43, .slice A2 l2.length c2), (44, .int .i64 (l2.length : Int)), (45, .int .i64 x45_l1)]) kr ?_
     exact hn0 _ hS
theorem colophonlaw07_CachePlays.l1_ok {Q} (w0 : World) (A2 : Option Addr) (c2 : Nat) (l2 : List (Int × Int)) (b48 : Nat) (b53 : Nat) (R2 : rdS (r0 (.pair (.int .i64) (.int .i64))) 2 (hp w0) A2 c2 l2) (out : Sum (((Option ((List (List Int)) × (List Int) × (List Int))) × (List (Int × (List Int) × Bool × Int)) × Int × Int × Int) × (Int × (List (Int × Int × Bool)) × Int × Int × Int)) (Bool × ((Option ((List (List Int)) × (List Int) × (List Int))) × (List (Int × (List Int) × Bool × Int)) × Int × Int × Int) × (Int × (List (Int × Int × Bool)) × Int × Int × Int))) (hn0 : ∀ (o0 : ((Option ((List (List Int)) × (List Int) × (List Int))) × (List (Int × (List Int) × Bool × Int)) × Int × Int × Int) × (Int × (List (Int × Int × Bool)) × Int × Int × Int)) (w : World), out = (.inl o0) → Sat w (rf w0) [O66 b48 o0.1, O40 b53 o0.2] → At Q (.exit 0) 169 [] w) (hn1 : ∀ (o1 : Bool × ((Option ((List (List Int)) × (List Int) × (List Int))) × (List (Int × (List Int) × Bool × Int)) × Int × Int × Int) × (Int × (List (Int × Int × Bool)) × Int × Int × Int)) (w : World), out = (.inr o1) → Sat w (rf w0) [O66 b48 o1.2.1, O40 b53 o1.2.2] → At Q .ret 169 [(6, .bool o1.1)] w) :
    ∀ (k : Nat) (x45_l1 : Int) (q49_l1 : (Option ((List (List Int)) × (List Int) × (List Int))) × (List (Int × (List Int) × Bool × Int)) × Int × Int × Int) (q54_l1 : Int × (List (Int × Int × Bool)) × Int × Int × Int) (w : World), Sat w (rf w0) [O66 b48 q49_l1, O40 b53 q54_l1] → colophonlaw07_CachePlays.l1 l2 k x45_l1 q49_l1 q54_l1 = some out → WL Try.prog (cbody (cbody (cr (cl (cr (cr (cr (cr (cr (cr C3)))))))))) Q 169 [(8, .pointer (some ⟨b48, 0, none⟩)), (9, .pointer (some ⟨b53, 0, none⟩)), (43, .slice A2 l2.length c2), (44, .int .i64 (l2.length : Int)), (45, .int .i64 x45_l1)] w := by
  intro k
  induction k with
  | zero => intro x45_l1 q49_l1 q54_l1 w hS H; exact absurd (show none = some out from H) (by simp)
  | succ k ih =>
    intro x45_l1 q49_l1 q54_l1 w hS H
    unfold colophonlaw07_CachePlays.l1 at H
    refine WL.round ?_
    refine WC.seq kr ?_
    refine WC.reg [0] kr kr ?_
    refine WR.runk [0] [] [8, 9, 43, 44, 45, 46] (L' := [(8, .pointer (some ⟨b48, 0, none⟩)), (9, .pointer (some ⟨b53, 0, none⟩)), (43, .slice A2 l2.length c2), (44, .int .i64 (l2.length : Int)), (45, .int .i64 x45_l1), (46, .bool (decide (x45_l1 < (l2.length : Int))))]) (w' := w) kr ?_
    refine WR.nil ?_
    refine At.go ?_
    refine WC.seq kr ?_
    refine WC.cond kr (decide (x45_l1 < (l2.length : Int))) kr kr (fun hb55 => ?_) (fun hb55 => ?_)
    ·replace H := ite_t H hb55
     refine WC.skip kr ?_
     refine At.go ?_
     refine WC.seq kr ?_
     refine WC.block kr ?_
     refine WC.seq kr ?_
     refine WC.reg [0, 1, 2, 3, 4, 5] kr kr ?_
     refine WR.runk [0] [1, 2, 3, 4, 5] [8, 9, 43, 44, 45, 47] (L' := [(8, .pointer (some ⟨b48, 0, none⟩)), (9, .pointer (some ⟨b53, 0, none⟩)), (43, .slice A2 l2.length c2), (44, .int .i64 (l2.length : Int)), (45, .int .i64 x45_l1), (47, .int .i64 x45_l1)]) (w' := w) kr ?_
     obtain ⟨v56, e57, H⟩ := bind_ex H
     refine WR.st (St.ofP (PSt.idx (k := .i64) (.tmp 43) (.tmp 45) kr kr E22 kr kr (rdS.up R2 hS.sub0) e57 ?_))
     refine WR.runk [] [2, 3, 4, 5] [8, 9, 43, 44, 45, 47, 48] (L' := [(8, .pointer (some ⟨b48, 0, none⟩)), (9, .pointer (some ⟨b53, 0, none⟩)), (43, .slice A2 l2.length c2), (44, .int .i64 (l2.length : Int)), (45, .int .i64 x45_l1), (47, .int .i64 x45_l1), (48, .pointer (some (adr A2 x45_l1.toNat 2)))]) (w' := w) kr ?_
     refine WR.st (St.ofR (RSt.loadFlat (t := 30) (κ := (.pair (.int .i64) (.int .i64))) (.tmp 48) kr kr kr kr kr kr (rdS.up R2 hS.sub0) e57 ?_))
     refine WR.runk [] [3, 4, 5] [8, 9, 43, 44, 45, 47, 49] (L' := [(8, .pointer (some ⟨b48, 0, none⟩)), (9, .pointer (some ⟨b53, 0, none⟩)), (43, .slice A2 l2.length c2), (44, .int .i64 (l2.length : Int)), (45, .int .i64 x45_l1), (47, .int .i64 x45_l1), (49, .agg #[.int .i64 v56.1, .int .i64 v56.2])]) (w' := w) kr ?_
     refine WR.st (St.box hS kr (.cells #[.int .i64 0, .int .i64 0] 30) (fun b58 => .pointer (some ⟨b58, 0, none⟩)) (fun _ => by kernel_rfl) (fun b58 w59 hS => ?_))
     refine WR.runk [4] [5] [8, 9, 10, 11, 43, 44, 45, 49] (L' := [(8, .pointer (some ⟨b48, 0, none⟩)), (9, .pointer (some ⟨b53, 0, none⟩)), (10, .int .i64 x45_l1), (11, .pointer (some ⟨b58, 0, none⟩)), (43, .slice A2 l2.length c2), (44, .int .i64 (l2.length : Int)), (45, .int .i64 x45_l1), (49, .agg #[.int .i64 v56.1, .int .i64 v56.2])]) (w' := w59) kr ?_
     refine WR.st (St.storeAll (t := 30) (vs := [.int .i64 v56.1, .int .i64 v56.2]) (.tmp 11) (.tmp 49) kr kr kr hS kr kr kr kr (fun w61 hS => ?_))
     have hS : Sat w61 (rf w0) [pts b58 (.cells #[.int .i64 v56.1, .int .i64 v56.2] 30 (0, 0)), O66 b48 q49_l1, O40 b53 q54_l1] := hS
     refine WR.runk [] [] [8, 9, 10, 11, 43, 44, 45] (L' := [(8, .pointer (some ⟨b48, 0, none⟩)), (9, .pointer (some ⟨b53, 0, none⟩)), (10, .int .i64 x45_l1), (11, .pointer (some ⟨b58, 0, none⟩)), (43, .slice A2 l2.length c2), (44, .int .i64 (l2.length : Int)), (45, .int .i64 x45_l1)]) (w' := w61) kr ?_
     refine WR.nil ?_
     refine At.go ?_
     refine WC.seq kr ?_
     refine WC.seq kr ?_
     refine WC.reg [0, 1] kr kr ?_
     refine WR.runk [0, 1] [] [8, 9, 11, 43, 44, 45, 51] (L' := [(8, .pointer (some ⟨b48, 0, none⟩)), (9, .pointer (some ⟨b53, 0, none⟩)), (11, .pointer (some ⟨b58, 0, none⟩)), (43, .slice A2 l2.length c2), (44, .int .i64 (l2.length : Int)), (45, .int .i64 x45_l1), (51, .bool (decide (x45_l1 ≥ 100)))]) (w' := w61) kr ?_
     refine WR.nil ?_
     refine At.go ?_
     refine WC.cond kr (decide (x45_l1 ≥ 100)) kr kr (fun hb62 => ?_) (fun hb62 => ?_)
     ·replace H := ite_t H hb62
      refine WC.exit kr ?_
      refine At.thenExit ?_
      refine At.miss kr ?_
      refine At.thenExit ?_
      refine At.thenExit ?_
      obtain rfl := Option.some.inj H
      have hS : Sat w61 (rf w0) [O66 b48 q49_l1, O40 b53 q54_l1] := hS.sel [1, 2] kr
      refine At.weaken [] (L' := []) kr ?_
      exact hn0 (q49_l1, q54_l1) _ rfl hS
     ·replace H := ite_f H hb62
      refine WC.skip kr ?_
      refine At.go ?_
      refine WC.seq kr ?_
      refine WC.seq kr ?_
      refine WC.reg [0, 1, 2, 3] kr kr ?_
      refine WR.runk [0] [1, 2, 3] [8, 9, 11, 43, 44, 45, 52] (L' := [(8, .pointer (some ⟨b48, 0, none⟩)), (9, .pointer (some ⟨b53, 0, none⟩)), (11, .pointer (some ⟨b58, 0, none⟩)), (43, .slice A2 l2.length c2), (44, .int .i64 (l2.length : Int)), (45, .int .i64 x45_l1), (52, .pointer (some ⟨b58, 0, none⟩))]) (w' := w61) kr ?_
      refine WR.st (St.ofR (RSt.loadObj (t := 3) (k := 0) (v := .int .i64 v56.1) (.tmp 52) kr kr kr 0 hS rfl kr rfl ?_))
      refine WR.runk [2, 3] [] [8, 9, 11, 43, 44, 45, 55] (L' := [(8, .pointer (some ⟨b48, 0, none⟩)), (9, .pointer (some ⟨b53, 0, none⟩)), (11, .pointer (some ⟨b58, 0, none⟩)), (43, .slice A2 l2.length c2), (44, .int .i64 (l2.length : Int)), (45, .int .i64 x45_l1), (55, .int .u64 (Int.tmod (IntKind.wrap .u64 v56.1) 3))]) (w' := w61) kr ?_
      refine WR.nil ?_
      refine At.go ?_
      refine WC.block kr ?_
      refine WC.seq kr ?_
      refine WC.reg [0, 1] kr kr ?_
      refine WR.runk [0, 1] [] [8, 9, 11, 43, 44, 45, 55, 85] (L' := [(8, .pointer (some ⟨b48, 0, none⟩)), (9, .pointer (some ⟨b53, 0, none⟩)), (11, .pointer (some ⟨b58, 0, none⟩)), (43, .slice A2 l2.length c2), (44, .int .i64 (l2.length : Int)), (45, .int .i64 x45_l1), (55, .int .u64 (Int.tmod (IntKind.wrap .u64 v56.1) 3)), (85, .bool ((Int.tmod (IntKind.wrap .u64 v56.1) 3) == 0))]) (w' := w61) kr ?_
      refine WR.nil ?_
      refine At.go ?_
      refine WC.cond kr ((Int.tmod (IntKind.wrap .u64 v56.1) 3) == 0) kr kr (fun hb63 => ?_) (fun hb63 => ?_)
      ·replace H := ite_t H hb63
       refine WC.seq kr ?_
       refine WC.reg [0, 1, 2, 3, 4, 5, 6, 7, 8, 9, 10] kr kr ?_
       refine WR.runk [0, 1] [2, 3, 4, 5, 6, 7, 8, 9, 10] [8, 9, 11, 43, 44, 45, 88, 89] (L' := [(8, .pointer (some ⟨b48, 0, none⟩)), (9, .pointer (some ⟨b53, 0, none⟩)), (11, .pointer (some ⟨b58, 0, none⟩)), (43, .slice A2 l2.length c2), (44, .int .i64 (l2.length : Int)), (45, .int .i64 x45_l1), (88, .pointer (some ⟨b48, 0, none⟩)), (89, .pointer (some ⟨b58, 1, none⟩))]) (w' := w61) kr ?_
       refine WR.st (St.ofR (RSt.loadObj (t := 3) (k := 1) (v := .int .i64 v56.2) (.tmp 89) kr kr kr 0 hS rfl kr rfl ?_))
       refine WR.runk [] [3, 4, 5, 6, 7, 8, 9, 10] [8, 9, 11, 43, 44, 45, 88, 90] (L' := [(8, .pointer (some ⟨b48, 0, none⟩)), (9, .pointer (some ⟨b53, 0, none⟩)), (11, .pointer (some ⟨b58, 0, none⟩)), (43, .slice A2 l2.length c2), (44, .int .i64 (l2.length : Int)), (45, .int .i64 x45_l1), (88, .pointer (some ⟨b48, 0, none⟩)), (90, .int .i64 v56.2)]) (w' := w61) kr ?_
       have hS : Sat w61 (rf w0) [O66 b48 q49_l1, pts b58 (.cells #[.int .i64 v56.1, .int .i64 v56.2] 30 (0, 0)), O40 b53 q54_l1] := hS.sel [1, 0, 2] kr
       obtain ⟨r64, e65, H⟩ := bind_ex H
       obtain ⟨B70, hso69, hsub67, hcs68, hb66⟩ := Sat.lend [O66 b48 q49_l1] (cs := [pts b58 (.cells #[.int .i64 v56.1, .int .i64 v56.2] 30 (0, 0)), O40 b53 q54_l1]) hS
       refine WR.st (St.call kr (f := 10) (args := #[.pointer (some ⟨b48, 0, none⟩), .int .i64 v56.2]) kr (cache_Cache_Hold.calls B70 w61 b48 q49_l1 hso69 v56.2 r64 e65) ?_)
       rintro _ w71 ⟨A73, c74, rfl, hS72⟩
       have hS : Sat w71 (rf w0) [O66 b48 r64.2.2.2, osl 5 (r0 (.int .u8)) 1 A73 c74 r64.1, pts b58 (.cells #[.int .i64 v56.1, .int .i64 v56.2] 30 (0, 0)), O40 b53 q54_l1] := hb66 _ _ hS72
       refine WR.runk [4, 5, 6, 7, 8, 9, 10] [] [8, 9, 11, 12, 13, 14, 43, 44, 45] (L' := [(8, .pointer (some ⟨b48, 0, none⟩)), (9, .pointer (some ⟨b53, 0, none⟩)), (11, .pointer (some ⟨b58, 0, none⟩)), (12, .slice A73 r64.1.length c74), (13, .bool r64.2.1), (14, .int .i64 r64.2.2.1), (43, .slice A2 l2.length c2), (44, .int .i64 (l2.length : Int)), (45, .int .i64 x45_l1)]) (w' := w71) kr ?_
       refine WR.nil ?_
       refine At.go ?_
       refine WC.seq kr ?_
       refine WC.reg [0, 1, 2, 3, 4, 5, 6, 7, 8] kr kr ?_
       refine WR.runk [0, 1] [2, 3, 4, 5, 6, 7, 8] [8, 9, 11, 12, 13, 14, 43, 44, 45, 96, 97] (L' := [(8, .pointer (some ⟨b48, 0, none⟩)), (9, .pointer (some ⟨b53, 0, none⟩)), (11, .pointer (some ⟨b58, 0, none⟩)), (12, .slice A73 r64.1.length c74), (13, .bool r64.2.1), (14, .int .i64 r64.2.2.1), (43, .slice A2 l2.length c2), (44, .int .i64 (l2.length : Int)), (45, .int .i64 x45_l1), (96, .pointer (some ⟨b53, 0, none⟩)), (97, .pointer (some ⟨b58, 1, none⟩))]) (w' := w71) kr ?_
       refine WR.st (St.ofR (RSt.loadObj (t := 3) (k := 1) (v := .int .i64 v56.2) (.tmp 97) kr kr kr 2 hS rfl kr rfl ?_))
       refine WR.runk [] [3, 4, 5, 6, 7, 8] [8, 9, 11, 12, 13, 14, 43, 44, 45, 96, 98] (L' := [(8, .pointer (some ⟨b48, 0, none⟩)), (9, .pointer (some ⟨b53, 0, none⟩)), (11, .pointer (some ⟨b58, 0, none⟩)), (12, .slice A73 r64.1.length c74), (13, .bool r64.2.1), (14, .int .i64 r64.2.2.1), (43, .slice A2 l2.length c2), (44, .int .i64 (l2.length : Int)), (45, .int .i64 x45_l1), (96, .pointer (some ⟨b53, 0, none⟩)), (98, .int .i64 v56.2)]) (w' := w71) kr ?_
       have hS : Sat w71 (rf w0) [O40 b53 q54_l1, O66 b48 r64.2.2.2, osl 5 (r0 (.int .u8)) 1 A73 c74 r64.1, pts b58 (.cells #[.int .i64 v56.1, .int .i64 v56.2] 30 (0, 0))] := hS.sel [3, 0, 1, 2] kr
       obtain ⟨r75, e76, H⟩ := bind_ex H
       obtain ⟨B81, hso80, hsub78, hcs79, hb77⟩ := Sat.lend [O40 b53 q54_l1] (cs := [O66 b48 r64.2.2.2, osl 5 (r0 (.int .u8)) 1 A73 c74 r64.1, pts b58 (.cells #[.int .i64 v56.1, .int .i64 v56.2] 30 (0, 0))]) hS
       refine WR.st (St.call kr (f := 11) (args := #[.pointer (some ⟨b53, 0, none⟩), .int .i64 v56.2]) kr (colophonref07_Cache_Hold.calls B81 w71 b53 q54_l1 hso80 v56.2 r75 e76) ?_)
       rintro _ w82 ⟨rfl, hS83⟩
       have hS : Sat w82 (rf w0) [O40 b53 r75.2.2, O66 b48 r64.2.2.2, osl 5 (r0 (.int .u8)) 1 A73 c74 r64.1, pts b58 (.cells #[.int .i64 v56.1, .int .i64 v56.2] 30 (0, 0))] := hb77 _ _ hS83
       refine WR.runk [4, 5, 6, 7, 8] [] [8, 9, 11, 12, 13, 14, 15, 16, 43, 44, 45] (L' := [(8, .pointer (some ⟨b48, 0, none⟩)), (9, .pointer (some ⟨b53, 0, none⟩)), (11, .pointer (some ⟨b58, 0, none⟩)), (12, .slice A73 r64.1.length c74), (13, .bool r64.2.1), (14, .int .i64 r64.2.2.1), (15, .bool r75.1), (16, .int .i64 r75.2.1), (43, .slice A2 l2.length c2), (44, .int .i64 (l2.length : Int)), (45, .int .i64 x45_l1)]) (w' := w82) kr ?_
       refine WR.nil ?_
       refine At.go ?_
       refine WC.seq kr ?_
       refine WC.seq kr ?_
       refine WC.reg [0, 1, 2, 3, 4, 5, 6, 7, 8, 9, 10, 11, 12, 13, 14, 15, 16] kr kr ?_
       refine WR.runk [0, 1, 2, 3] [4, 5, 6, 7, 8, 9, 10, 11, 12, 13, 14, 15, 16] [8, 9, 11, 12, 13, 15, 16, 43, 44, 45, 105] (L' := [(8, .pointer (some ⟨b48, 0, none⟩)), (9, .pointer (some ⟨b53, 0, none⟩)), (11, .pointer (some ⟨b58, 0, none⟩)), (12, .slice A73 r64.1.length c74), (13, .bool r64.2.1), (15, .bool r75.1), (16, .int .i64 r75.2.1), (43, .slice A2 l2.length c2), (44, .int .i64 (l2.length : Int)), (45, .int .i64 x45_l1), (105, .bool (r64.2.2.1 != r75.2.1))]) (w' := w82) kr ?_
       refine WR.split 105 (b := (r64.2.2.1 != r75.2.1)) kr (fun hb84 => ?_) (fun hb84 => ?_)
       ·replace H := ite_t H hb84
        refine WR.runk [4, 5, 6, 7, 8, 9, 10, 11, 12, 13, 14, 15, 16] [] [8, 9, 11, 12, 16, 43, 44, 45, 118] (L' := [(8, .pointer (some ⟨b48, 0, none⟩)), (9, .pointer (some ⟨b53, 0, none⟩)), (11, .pointer (some ⟨b58, 0, none⟩)), (12, .slice A73 r64.1.length c74), (16, .int .i64 r75.2.1), (43, .slice A2 l2.length c2), (44, .int .i64 (l2.length : Int)), (45, .int .i64 x45_l1), (118, .bool true)]) (w' := w82) kr ?_
        refine WR.nil ?_
        refine At.go ?_
        refine WC.condT kr kr kr ?_
        refine WC.seq kr ?_
        refine WC.reg [0] kr kr ?_
        refine WR.runk [0] [] [6] (L' := [(6, .bool false)]) (w' := w82) kr ?_
        refine WR.nil ?_
        refine At.go ?_
        refine WC.ret kr ?_
        refine At.thenRet ?_
        refine At.blockRet ?_
        refine At.thenRet ?_
        refine At.blockRet ?_
        refine At.thenRet ?_
        refine At.thenRet ?_
        obtain rfl := Option.some.inj H
        have hS : Sat w82 (rf w0) [O66 b48 r64.2.2.2, O40 b53 r75.2.2] := hS.sel [1, 0] kr
        refine At.weaken [6] (L' := [(6, .bool false)]) kr ?_
        exact hn1 (false, r64.2.2.2, r75.2.2) _ rfl hS
       ·replace H := ite_f H hb84
        refine WR.runk [4, 5, 6, 7, 8] [9, 10, 11, 12, 13, 14, 15, 16] [8, 9, 11, 12, 16, 43, 44, 45, 110] (L' := [(8, .pointer (some ⟨b48, 0, none⟩)), (9, .pointer (some ⟨b53, 0, none⟩)), (11, .pointer (some ⟨b58, 0, none⟩)), (12, .slice A73 r64.1.length c74), (16, .int .i64 r75.2.1), (43, .slice A2 l2.length c2), (44, .int .i64 (l2.length : Int)), (45, .int .i64 x45_l1), (110, .bool (r64.2.1 != r75.1))]) (w' := w82) kr ?_
        refine WR.split 110 (b := (r64.2.1 != r75.1)) kr (fun hb85 => ?_) (fun hb85 => ?_)
        ·replace H := ite_t H hb85
         refine WR.runk [9, 10, 11, 12, 13, 14, 15, 16] [] [8, 9, 11, 12, 16, 43, 44, 45, 118] (L' := [(8, .pointer (some ⟨b48, 0, none⟩)), (9, .pointer (some ⟨b53, 0, none⟩)), (11, .pointer (some ⟨b58, 0, none⟩)), (12, .slice A73 r64.1.length c74), (16, .int .i64 r75.2.1), (43, .slice A2 l2.length c2), (44, .int .i64 (l2.length : Int)), (45, .int .i64 x45_l1), (118, .bool true)]) (w' := w82) kr ?_
         refine WR.nil ?_
         refine At.go ?_
         refine WC.condT kr kr kr ?_
         refine WC.seq kr ?_
         refine WC.reg [0] kr kr ?_
         refine WR.runk [0] [] [6] (L' := [(6, .bool false)]) (w' := w82) kr ?_
         refine WR.nil ?_
         refine At.go ?_
         refine WC.ret kr ?_
         refine At.thenRet ?_
         refine At.blockRet ?_
         refine At.thenRet ?_
         refine At.blockRet ?_
         refine At.thenRet ?_
         refine At.thenRet ?_
         obtain rfl := Option.some.inj H
         have hS : Sat w82 (rf w0) [O66 b48 r64.2.2.2, O40 b53 r75.2.2] := hS.sel [1, 0] kr
         refine At.weaken [6] (L' := [(6, .bool false)]) kr ?_
         exact hn1 (false, r64.2.2.2, r75.2.2) _ rfl hS
        ·replace H := ite_f H hb85
         refine WR.runk [9, 10, 11] [12, 13, 14, 15, 16] [8, 9, 11, 12, 16, 43, 44, 45, 110, 113] (L' := [(8, .pointer (some ⟨b48, 0, none⟩)), (9, .pointer (some ⟨b53, 0, none⟩)), (11, .pointer (some ⟨b58, 0, none⟩)), (12, .slice A73 r64.1.length c74), (16, .int .i64 r75.2.1), (43, .slice A2 l2.length c2), (44, .int .i64 (l2.length : Int)), (45, .int .i64 x45_l1), (110, .bool false), (113, .bool (r75.2.1 != 0))]) (w' := w82) kr ?_
         refine WR.split 113 (b := (r75.2.1 != 0)) kr (fun hb86 => ?_) (fun hb86 => ?_)
         ·replace H := ite_t H hb86
          refine WR.runk [12, 13, 14, 15, 16] [] [8, 9, 11, 12, 16, 43, 44, 45, 118] (L' := [(8, .pointer (some ⟨b48, 0, none⟩)), (9, .pointer (some ⟨b53, 0, none⟩)), (11, .pointer (some ⟨b58, 0, none⟩)), (12, .slice A73 r64.1.length c74), (16, .int .i64 r75.2.1), (43, .slice A2 l2.length c2), (44, .int .i64 (l2.length : Int)), (45, .int .i64 x45_l1), (118, .bool ((r64.1.length : Int) != 0))]) (w' := w82) kr ?_
          refine WR.nil ?_
          refine At.go ?_
          refine WC.cond kr ((r64.1.length : Int) != 0) kr kr (fun hb87 => ?_) (fun hb87 => ?_)
          ·replace H := ite_t H hb87
           refine WC.seq kr ?_
           refine WC.reg [0] kr kr ?_
           refine WR.runk [0] [] [6] (L' := [(6, .bool false)]) (w' := w82) kr ?_
           refine WR.nil ?_
           refine At.go ?_
           refine WC.ret kr ?_
           refine At.thenRet ?_
           refine At.blockRet ?_
           refine At.thenRet ?_
           refine At.blockRet ?_
           refine At.thenRet ?_
           refine At.thenRet ?_
           obtain rfl := Option.some.inj H
           have hS : Sat w82 (rf w0) [O66 b48 r64.2.2.2, O40 b53 r75.2.2] := hS.sel [1, 0] kr
           refine At.weaken [6] (L' := [(6, .bool false)]) kr ?_
           exact hn1 (false, r64.2.2.2, r75.2.2) _ rfl hS
          ·replace H := ite_f H hb87
           refine WC.skip kr ?_
           refine At.go ?_
           refine WC.seq kr ?_
           refine WC.seq kr ?_
           refine WC.drawn kr kr 21 kr (fun w88 hw89 => ?_)
           have hS := hS.heap hw89.1 hw89.2
           refine WD.weaken [8, 9, 11, 12, 16, 43, 44, 45] (L' := [(8, .pointer (some ⟨b48, 0, none⟩)), (9, .pointer (some ⟨b53, 0, none⟩)), (11, .pointer (some ⟨b58, 0, none⟩)), (12, .slice A73 r64.1.length c74), (16, .int .i64 r75.2.1), (43, .slice A2 l2.length c2), (44, .int .i64 (l2.length : Int)), (45, .int .i64 x45_l1)]) kr ?_
           refine WD.pure (i := 0) (v := .int .i64 r75.2.1) kr kr (fun _ => by kernel_rfl) ?_
           refine WD.weaken [8, 9, 11, 12, 43, 44, 45, 119] (L' := [(8, .pointer (some ⟨b48, 0, none⟩)), (9, .pointer (some ⟨b53, 0, none⟩)), (11, .pointer (some ⟨b58, 0, none⟩)), (12, .slice A73 r64.1.length c74), (43, .slice A2 l2.length c2), (44, .int .i64 (l2.length : Int)), (45, .int .i64 x45_l1), (119, .int .i64 r75.2.1)]) kr ?_
           refine WD.pure (i := 1) (v := .bool (r75.2.1 == 0)) kr kr (fun _ => by kernel_rfl) ?_
           refine WD.weaken [8, 9, 11, 12, 43, 44, 45, 120] (L' := [(8, .pointer (some ⟨b48, 0, none⟩)), (9, .pointer (some ⟨b53, 0, none⟩)), (11, .pointer (some ⟨b58, 0, none⟩)), (12, .slice A73 r64.1.length c74), (43, .slice A2 l2.length c2), (44, .int .i64 (l2.length : Int)), (45, .int .i64 x45_l1), (120, .bool (r75.2.1 == 0))]) kr ?_
           refine WD.pure (i := 2) (v := .bool (r75.2.1 == 0)) kr kr (fun _ => by kernel_rfl) ?_
           refine WD.weaken [8, 9, 11, 12, 43, 44, 45, 121] (L' := [(8, .pointer (some ⟨b48, 0, none⟩)), (9, .pointer (some ⟨b53, 0, none⟩)), (11, .pointer (some ⟨b58, 0, none⟩)), (12, .slice A73 r64.1.length c74), (43, .slice A2 l2.length c2), (44, .int .i64 (l2.length : Int)), (45, .int .i64 x45_l1), (121, .bool (r75.2.1 == 0))]) kr ?_
           refine WD.split 121 (b := (r75.2.1 == 0)) kr (fun hb90 => ?_) (fun hb90 => ?_)
           ·replace H := ite_t H hb90
            refine WD.weaken [8, 9, 11, 12, 43, 44, 45, 121] (L' := [(8, .pointer (some ⟨b48, 0, none⟩)), (9, .pointer (some ⟨b53, 0, none⟩)), (11, .pointer (some ⟨b58, 0, none⟩)), (12, .slice A73 r64.1.length c74), (43, .slice A2 l2.length c2), (44, .int .i64 (l2.length : Int)), (45, .int .i64 x45_l1), (121, .bool true)]) kr ?_
            refine WD.pure (i := 3) (v := .slice A73 r64.1.length c74) kr kr (fun _ => by kernel_rfl) ?_
            refine WD.weaken [8, 9, 11, 12, 43, 44, 45, 121, 122] (L' := [(8, .pointer (some ⟨b48, 0, none⟩)), (9, .pointer (some ⟨b53, 0, none⟩)), (11, .pointer (some ⟨b58, 0, none⟩)), (12, .slice A73 r64.1.length c74), (43, .slice A2 l2.length c2), (44, .int .i64 (l2.length : Int)), (45, .int .i64 x45_l1), (121, .bool true), (122, .slice A73 r64.1.length c74)]) kr ?_
            refine WD.pure (i := 4) (v := .int .i64 (r64.1.length : Int)) kr kr (fun _ => by kernel_rfl) ?_
            refine WD.weaken [8, 9, 11, 12, 43, 44, 45, 121, 123] (L' := [(8, .pointer (some ⟨b48, 0, none⟩)), (9, .pointer (some ⟨b53, 0, none⟩)), (11, .pointer (some ⟨b58, 0, none⟩)), (12, .slice A73 r64.1.length c74), (43, .slice A2 l2.length c2), (44, .int .i64 (l2.length : Int)), (45, .int .i64 x45_l1), (121, .bool true), (123, .int .i64 (r64.1.length : Int))]) kr ?_
            refine WD.pure (i := 5) (v := .bool ((r64.1.length : Int) != 256)) kr kr (fun _ => by kernel_rfl) ?_
            refine WD.weaken [8, 9, 11, 12, 43, 44, 45, 121, 124] (L' := [(8, .pointer (some ⟨b48, 0, none⟩)), (9, .pointer (some ⟨b53, 0, none⟩)), (11, .pointer (some ⟨b58, 0, none⟩)), (12, .slice A73 r64.1.length c74), (43, .slice A2 l2.length c2), (44, .int .i64 (l2.length : Int)), (45, .int .i64 x45_l1), (121, .bool true), (124, .bool ((r64.1.length : Int) != 256))]) kr ?_
            refine WD.pure (i := 6) (v := .bool ((r64.1.length : Int) != 256)) kr kr (fun _ => by kernel_rfl) ?_
            refine WD.weaken [8, 9, 11, 12, 43, 44, 45, 121, 125] (L' := [(8, .pointer (some ⟨b48, 0, none⟩)), (9, .pointer (some ⟨b53, 0, none⟩)), (11, .pointer (some ⟨b58, 0, none⟩)), (12, .slice A73 r64.1.length c74), (43, .slice A2 l2.length c2), (44, .int .i64 (l2.length : Int)), (45, .int .i64 x45_l1), (121, .bool true), (125, .bool ((r64.1.length : Int) != 256))]) kr ?_
            refine WD.split 125 (b := ((r64.1.length : Int) != 256)) kr (fun hb91 => ?_) (fun hb91 => ?_)
            ·replace H := ite_t H hb91
             refine WD.weaken [8, 9, 11, 12, 43, 44, 45, 121, 125] (L' := [(8, .pointer (some ⟨b48, 0, none⟩)), (9, .pointer (some ⟨b53, 0, none⟩)), (11, .pointer (some ⟨b58, 0, none⟩)), (12, .slice A73 r64.1.length c74), (43, .slice A2 l2.length c2), (44, .int .i64 (l2.length : Int)), (45, .int .i64 x45_l1), (121, .bool true), (125, .bool true)]) kr ?_
             refine WD.skip (i := 7) kr kr ?_
             refine WD.weaken [8, 9, 11, 12, 43, 44, 45, 121, 125, 126] (L' := [(8, .pointer (some ⟨b48, 0, none⟩)), (9, .pointer (some ⟨b53, 0, none⟩)), (11, .pointer (some ⟨b58, 0, none⟩)), (12, .slice A73 r64.1.length c74), (43, .slice A2 l2.length c2), (44, .int .i64 (l2.length : Int)), (45, .int .i64 x45_l1), (121, .bool true), (125, .bool true), (126, undef)]) kr ?_
             refine WD.skip (i := 8) kr kr ?_
             refine WD.weaken [8, 9, 11, 12, 43, 44, 45, 121, 125, 127] (L' := [(8, .pointer (some ⟨b48, 0, none⟩)), (9, .pointer (some ⟨b53, 0, none⟩)), (11, .pointer (some ⟨b58, 0, none⟩)), (12, .slice A73 r64.1.length c74), (43, .slice A2 l2.length c2), (44, .int .i64 (l2.length : Int)), (45, .int .i64 x45_l1), (121, .bool true), (125, .bool true), (127, undef)]) kr ?_
             refine WD.skip (i := 9) kr kr ?_
             refine WD.weaken [8, 9, 11, 12, 43, 44, 45, 121, 125, 128] (L' := [(8, .pointer (some ⟨b48, 0, none⟩)), (9, .pointer (some ⟨b53, 0, none⟩)), (11, .pointer (some ⟨b58, 0, none⟩)), (12, .slice A73 r64.1.length c74), (43, .slice A2 l2.length c2), (44, .int .i64 (l2.length : Int)), (45, .int .i64 x45_l1), (121, .bool true), (125, .bool true), (128, undef)]) kr ?_
             refine WD.skip (i := 10) kr kr ?_
             refine WD.weaken [8, 9, 11, 12, 43, 44, 45, 121, 125, 129] (L' := [(8, .pointer (some ⟨b48, 0, none⟩)), (9, .pointer (some ⟨b53, 0, none⟩)), (11, .pointer (some ⟨b58, 0, none⟩)), (12, .slice A73 r64.1.length c74), (43, .slice A2 l2.length c2), (44, .int .i64 (l2.length : Int)), (45, .int .i64 x45_l1), (121, .bool true), (125, .bool true), (129, undef)]) kr ?_
             refine WD.skip (i := 11) kr kr ?_
             refine WD.weaken [8, 9, 11, 12, 43, 44, 45, 121, 125, 129, 130] (L' := [(8, .pointer (some ⟨b48, 0, none⟩)), (9, .pointer (some ⟨b53, 0, none⟩)), (11, .pointer (some ⟨b58, 0, none⟩)), (12, .slice A73 r64.1.length c74), (43, .slice A2 l2.length c2), (44, .int .i64 (l2.length : Int)), (45, .int .i64 x45_l1), (121, .bool true), (125, .bool true), (129, undef), (130, undef)]) kr ?_
             refine WD.skip (i := 12) kr kr ?_
             refine WD.weaken [8, 9, 11, 12, 43, 44, 45, 121, 125, 129, 131] (L' := [(8, .pointer (some ⟨b48, 0, none⟩)), (9, .pointer (some ⟨b53, 0, none⟩)), (11, .pointer (some ⟨b58, 0, none⟩)), (12, .slice A73 r64.1.length c74), (43, .slice A2 l2.length c2), (44, .int .i64 (l2.length : Int)), (45, .int .i64 x45_l1), (121, .bool true), (125, .bool true), (129, undef), (131, undef)]) kr ?_
             refine WD.skip (i := 13) kr kr ?_
             refine WD.weaken [8, 9, 11, 12, 43, 44, 45, 121, 125, 129, 132] (L' := [(8, .pointer (some ⟨b48, 0, none⟩)), (9, .pointer (some ⟨b53, 0, none⟩)), (11, .pointer (some ⟨b58, 0, none⟩)), (12, .slice A73 r64.1.length c74), (43, .slice A2 l2.length c2), (44, .int .i64 (l2.length : Int)), (45, .int .i64 x45_l1), (121, .bool true), (125, .bool true), (129, undef), (132, undef)]) kr ?_
             refine WD.skip (i := 14) kr kr ?_
             refine WD.weaken [8, 9, 11, 12, 43, 44, 45, 121, 125, 129, 133] (L' := [(8, .pointer (some ⟨b48, 0, none⟩)), (9, .pointer (some ⟨b53, 0, none⟩)), (11, .pointer (some ⟨b58, 0, none⟩)), (12, .slice A73 r64.1.length c74), (43, .slice A2 l2.length c2), (44, .int .i64 (l2.length : Int)), (45, .int .i64 x45_l1), (121, .bool true), (125, .bool true), (129, undef), (133, undef)]) kr ?_
             refine WD.skip (i := 15) kr kr ?_
             refine WD.weaken [8, 9, 12, 43, 44, 45, 121, 125, 129, 133, 134] (L' := [(8, .pointer (some ⟨b48, 0, none⟩)), (9, .pointer (some ⟨b53, 0, none⟩)), (12, .slice A73 r64.1.length c74), (43, .slice A2 l2.length c2), (44, .int .i64 (l2.length : Int)), (45, .int .i64 x45_l1), (121, .bool true), (125, .bool true), (129, undef), (133, undef), (134, undef)]) kr ?_
             refine WD.skip (i := 16) kr kr ?_
             refine WD.weaken [8, 9, 12, 43, 44, 45, 121, 125, 129, 133, 135] (L' := [(8, .pointer (some ⟨b48, 0, none⟩)), (9, .pointer (some ⟨b53, 0, none⟩)), (12, .slice A73 r64.1.length c74), (43, .slice A2 l2.length c2), (44, .int .i64 (l2.length : Int)), (45, .int .i64 x45_l1), (121, .bool true), (125, .bool true), (129, undef), (133, undef), (135, undef)]) kr ?_
             refine WD.skip (i := 17) kr kr ?_
             refine WD.weaken [8, 9, 12, 43, 44, 45, 121, 125, 129, 136] (L' := [(8, .pointer (some ⟨b48, 0, none⟩)), (9, .pointer (some ⟨b53, 0, none⟩)), (12, .slice A73 r64.1.length c74), (43, .slice A2 l2.length c2), (44, .int .i64 (l2.length : Int)), (45, .int .i64 x45_l1), (121, .bool true), (125, .bool true), (129, undef), (136, undef)]) kr ?_
             refine WD.skip (i := 18) kr kr ?_
             refine WD.weaken [8, 9, 12, 43, 44, 45, 121, 125, 137] (L' := [(8, .pointer (some ⟨b48, 0, none⟩)), (9, .pointer (some ⟨b53, 0, none⟩)), (12, .slice A73 r64.1.length c74), (43, .slice A2 l2.length c2), (44, .int .i64 (l2.length : Int)), (45, .int .i64 x45_l1), (121, .bool true), (125, .bool true), (137, undef)]) kr ?_
             refine WD.pure (i := 19) (v := .bool true) kr kr (fun _ => by kernel_rfl) ?_
             refine WD.weaken [8, 9, 12, 43, 44, 45, 121, 138] (L' := [(8, .pointer (some ⟨b48, 0, none⟩)), (9, .pointer (some ⟨b53, 0, none⟩)), (12, .slice A73 r64.1.length c74), (43, .slice A2 l2.length c2), (44, .int .i64 (l2.length : Int)), (45, .int .i64 x45_l1), (121, .bool true), (138, .bool true)]) kr ?_
             refine WD.pure (i := 20) (v := .bool true) kr kr (fun _ => by kernel_rfl) ?_
             refine WD.weaken [8, 9, 12, 43, 44, 45, 139] (L' := [(8, .pointer (some ⟨b48, 0, none⟩)), (9, .pointer (some ⟨b53, 0, none⟩)), (12, .slice A73 r64.1.length c74), (43, .slice A2 l2.length c2), (44, .int .i64 (l2.length : Int)), (45, .int .i64 x45_l1), (139, .bool true)]) kr ?_
             refine WD.nil kr ?_
             refine At.go ?_
             refine WC.condT kr kr kr ?_
             refine WC.seq kr ?_
             refine WC.reg [0] kr kr ?_
             refine WR.runk [0] [] [6] (L' := [(6, .bool false)]) (w' := w88) kr ?_
             refine WR.nil ?_
             refine At.go ?_
             refine WC.ret kr ?_
             refine At.thenRet ?_
             refine At.blockRet ?_
             refine At.thenRet ?_
             refine At.blockRet ?_
             refine At.thenRet ?_
             refine At.thenRet ?_
             obtain rfl := Option.some.inj H
             have hS : Sat w88 (rf w0) [O66 b48 r64.2.2.2, O40 b53 r75.2.2] := hS.sel [1, 0] kr
             refine At.weaken [6] (L' := [(6, .bool false)]) kr ?_
             exact hn1 (false, r64.2.2.2, r75.2.2) _ rfl hS
            ·replace H := ite_f H hb91
             refine WD.weaken [8, 9, 11, 12, 43, 44, 45, 121, 125] (L' := [(8, .pointer (some ⟨b48, 0, none⟩)), (9, .pointer (some ⟨b53, 0, none⟩)), (11, .pointer (some ⟨b58, 0, none⟩)), (12, .slice A73 r64.1.length c74), (43, .slice A2 l2.length c2), (44, .int .i64 (l2.length : Int)), (45, .int .i64 x45_l1), (121, .bool true), (125, .bool false)]) kr ?_
             refine WD.pure (i := 7) (v := .pointer (some ⟨b58, 1, none⟩)) kr kr (fun _ => by kernel_rfl) ?_
             refine WD.weaken [8, 9, 11, 12, 43, 44, 45, 121, 125, 126] (L' := [(8, .pointer (some ⟨b48, 0, none⟩)), (9, .pointer (some ⟨b53, 0, none⟩)), (11, .pointer (some ⟨b58, 0, none⟩)), (12, .slice A73 r64.1.length c74), (43, .slice A2 l2.length c2), (44, .int .i64 (l2.length : Int)), (45, .int .i64 x45_l1), (121, .bool true), (125, .bool false), (126, .pointer (some ⟨b58, 1, none⟩))]) kr ?_
             refine WD.ofR (i := 8) kr (RSt.loadObj (t := 3) (k := 1) (v := .int .i64 v56.2) (.tmp 126) kr kr kr 3 hS rfl kr rfl ?_)
             refine WD.weaken [8, 9, 11, 12, 43, 44, 45, 121, 125, 127] (L' := [(8, .pointer (some ⟨b48, 0, none⟩)), (9, .pointer (some ⟨b53, 0, none⟩)), (11, .pointer (some ⟨b58, 0, none⟩)), (12, .slice A73 r64.1.length c74), (43, .slice A2 l2.length c2), (44, .int .i64 (l2.length : Int)), (45, .int .i64 x45_l1), (121, .bool true), (125, .bool false), (127, .int .i64 v56.2)]) kr ?_
             refine WD.pure (i := 9) (v := .bool (decide (v56.2 > 0))) kr kr (fun _ => by kernel_rfl) ?_
             refine WD.weaken [8, 9, 11, 12, 43, 44, 45, 121, 125, 128] (L' := [(8, .pointer (some ⟨b48, 0, none⟩)), (9, .pointer (some ⟨b53, 0, none⟩)), (11, .pointer (some ⟨b58, 0, none⟩)), (12, .slice A73 r64.1.length c74), (43, .slice A2 l2.length c2), (44, .int .i64 (l2.length : Int)), (45, .int .i64 x45_l1), (121, .bool true), (125, .bool false), (128, .bool (decide (v56.2 > 0)))]) kr ?_
             refine WD.pure (i := 10) (v := .bool (decide (v56.2 > 0))) kr kr (fun _ => by kernel_rfl) ?_
             refine WD.weaken [8, 9, 11, 12, 43, 44, 45, 121, 125, 129] (L' := [(8, .pointer (some ⟨b48, 0, none⟩)), (9, .pointer (some ⟨b53, 0, none⟩)), (11, .pointer (some ⟨b58, 0, none⟩)), (12, .slice A73 r64.1.length c74), (43, .slice A2 l2.length c2), (44, .int .i64 (l2.length : Int)), (45, .int .i64 x45_l1), (121, .bool true), (125, .bool false), (129, .bool (decide (v56.2 > 0)))]) kr ?_
             refine WD.split 129 (b := decide (v56.2 > 0)) kr (fun hb92 => ?_) (fun hb92 => ?_)
             ·replace H := ite_t H hb92
              refine WD.weaken [8, 9, 11, 12, 43, 44, 45, 121, 125, 129] (L' := [(8, .pointer (some ⟨b48, 0, none⟩)), (9, .pointer (some ⟨b53, 0, none⟩)), (11, .pointer (some ⟨b58, 0, none⟩)), (12, .slice A73 r64.1.length c74), (43, .slice A2 l2.length c2), (44, .int .i64 (l2.length : Int)), (45, .int .i64 x45_l1), (121, .bool true), (125, .bool false), (129, .bool true)]) kr ?_
              refine WD.pure (i := 11) (v := .slice A73 r64.1.length c74) kr kr (fun _ => by kernel_rfl) ?_
              refine WD.weaken [8, 9, 11, 12, 43, 44, 45, 121, 125, 129, 130] (L' := [(8, .pointer (some ⟨b48, 0, none⟩)), (9, .pointer (some ⟨b53, 0, none⟩)), (11, .pointer (some ⟨b58, 0, none⟩)), (12, .slice A73 r64.1.length c74), (43, .slice A2 l2.length c2), (44, .int .i64 (l2.length : Int)), (45, .int .i64 x45_l1), (121, .bool true), (125, .bool false), (129, .bool true), (130, .slice A73 r64.1.length c74)]) kr ?_
              obtain ⟨v93, e94, H⟩ := bind_ex H
              refine WD.ofP (i := 12) kr (PSt.idx (k := .i64) (.tmp 130) (.const (.int .i64 0)) kr kr E31 kr kr (Sat.rdAt 2 hS rfl) e94 ?_)
              refine WD.weaken [8, 9, 11, 12, 43, 44, 45, 121, 125, 129, 131] (L' := [(8, .pointer (some ⟨b48, 0, none⟩)), (9, .pointer (some ⟨b53, 0, none⟩)), (11, .pointer (some ⟨b58, 0, none⟩)), (12, .slice A73 r64.1.length c74), (43, .slice A2 l2.length c2), (44, .int .i64 (l2.length : Int)), (45, .int .i64 x45_l1), (121, .bool true), (125, .bool false), (129, .bool true), (131, .pointer (some (adr A73 (0 : Int).toNat 1)))]) kr ?_
              refine WD.ofR (i := 13) kr (RSt.loadInt (t := 5) (.tmp 131) kr kr kr kr (Sat.rdAt 2 hS rfl) e94 ?_)
              refine WD.weaken [8, 9, 11, 12, 43, 44, 45, 121, 125, 129, 132] (L' := [(8, .pointer (some ⟨b48, 0, none⟩)), (9, .pointer (some ⟨b53, 0, none⟩)), (11, .pointer (some ⟨b58, 0, none⟩)), (12, .slice A73 r64.1.length c74), (43, .slice A2 l2.length c2), (44, .int .i64 (l2.length : Int)), (45, .int .i64 x45_l1), (121, .bool true), (125, .bool false), (129, .bool true), (132, .int .u8 v93)]) kr ?_
              refine WD.pure (i := 14) (v := .int .i64 (wi v93)) kr kr (fun _ => by kernel_rfl) ?_
              refine WD.weaken [8, 9, 11, 12, 43, 44, 45, 121, 125, 129, 133] (L' := [(8, .pointer (some ⟨b48, 0, none⟩)), (9, .pointer (some ⟨b53, 0, none⟩)), (11, .pointer (some ⟨b58, 0, none⟩)), (12, .slice A73 r64.1.length c74), (43, .slice A2 l2.length c2), (44, .int .i64 (l2.length : Int)), (45, .int .i64 x45_l1), (121, .bool true), (125, .bool false), (129, .bool true), (133, .int .i64 (wi v93))]) kr ?_
              refine WD.pure (i := 15) (v := .pointer (some ⟨b58, 1, none⟩)) kr kr (fun _ => by kernel_rfl) ?_
              refine WD.weaken [8, 9, 12, 43, 44, 45, 121, 125, 129, 133, 134] (L' := [(8, .pointer (some ⟨b48, 0, none⟩)), (9, .pointer (some ⟨b53, 0, none⟩)), (12, .slice A73 r64.1.length c74), (43, .slice A2 l2.length c2), (44, .int .i64 (l2.length : Int)), (45, .int .i64 x45_l1), (121, .bool true), (125, .bool false), (129, .bool true), (133, .int .i64 (wi v93)), (134, .pointer (some ⟨b58, 1, none⟩))]) kr ?_
              refine WD.ofR (i := 16) kr (RSt.loadObj (t := 3) (k := 1) (v := .int .i64 v56.2) (.tmp 134) kr kr kr 3 hS rfl kr rfl ?_)
              refine WD.weaken [8, 9, 12, 43, 44, 45, 121, 125, 129, 133, 135] (L' := [(8, .pointer (some ⟨b48, 0, none⟩)), (9, .pointer (some ⟨b53, 0, none⟩)), (12, .slice A73 r64.1.length c74), (43, .slice A2 l2.length c2), (44, .int .i64 (l2.length : Int)), (45, .int .i64 x45_l1), (121, .bool true), (125, .bool false), (129, .bool true), (133, .int .i64 (wi v93)), (135, .int .i64 v56.2)]) kr ?_
              refine WD.pure (i := 17) (v := .bool ((wi v93) != v56.2)) kr kr (fun _ => by kernel_rfl) ?_
              refine WD.weaken [8, 9, 12, 43, 44, 45, 121, 125, 129, 136] (L' := [(8, .pointer (some ⟨b48, 0, none⟩)), (9, .pointer (some ⟨b53, 0, none⟩)), (12, .slice A73 r64.1.length c74), (43, .slice A2 l2.length c2), (44, .int .i64 (l2.length : Int)), (45, .int .i64 x45_l1), (121, .bool true), (125, .bool false), (129, .bool true), (136, .bool ((wi v93) != v56.2))]) kr ?_
              refine WD.pure (i := 18) (v := .bool ((wi v93) != v56.2)) kr kr (fun _ => by kernel_rfl) ?_
              refine WD.weaken [8, 9, 12, 43, 44, 45, 121, 125, 137] (L' := [(8, .pointer (some ⟨b48, 0, none⟩)), (9, .pointer (some ⟨b53, 0, none⟩)), (12, .slice A73 r64.1.length c74), (43, .slice A2 l2.length c2), (44, .int .i64 (l2.length : Int)), (45, .int .i64 x45_l1), (121, .bool true), (125, .bool false), (137, .bool ((wi v93) != v56.2))]) kr ?_
              refine WD.pure (i := 19) (v := .bool ((wi v93) != v56.2)) kr kr (fun _ => by kernel_rfl) ?_
              refine WD.weaken [8, 9, 12, 43, 44, 45, 121, 138] (L' := [(8, .pointer (some ⟨b48, 0, none⟩)), (9, .pointer (some ⟨b53, 0, none⟩)), (12, .slice A73 r64.1.length c74), (43, .slice A2 l2.length c2), (44, .int .i64 (l2.length : Int)), (45, .int .i64 x45_l1), (121, .bool true), (138, .bool ((wi v93) != v56.2))]) kr ?_
              refine WD.pure (i := 20) (v := .bool ((wi v93) != v56.2)) kr kr (fun _ => by kernel_rfl) ?_
              refine WD.weaken [8, 9, 12, 43, 44, 45, 139] (L' := [(8, .pointer (some ⟨b48, 0, none⟩)), (9, .pointer (some ⟨b53, 0, none⟩)), (12, .slice A73 r64.1.length c74), (43, .slice A2 l2.length c2), (44, .int .i64 (l2.length : Int)), (45, .int .i64 x45_l1), (139, .bool ((wi v93) != v56.2))]) kr ?_
              refine WD.nil kr ?_
              refine At.go ?_
              refine WC.cond kr ((wi v93) != v56.2) kr kr (fun hb95 => ?_) (fun hb95 => ?_)
              ·replace H := ite_t H hb95
               refine WC.seq kr ?_
               refine WC.reg [0] kr kr ?_
               refine WR.runk [0] [] [6] (L' := [(6, .bool false)]) (w' := w88) kr ?_
               refine WR.nil ?_
               refine At.go ?_
               refine WC.ret kr ?_
               refine At.thenRet ?_
               refine At.blockRet ?_
               refine At.thenRet ?_
               refine At.blockRet ?_
               refine At.thenRet ?_
               refine At.thenRet ?_
               obtain rfl := Option.some.inj H
               have hS : Sat w88 (rf w0) [O66 b48 r64.2.2.2, O40 b53 r75.2.2] := hS.sel [1, 0] kr
               refine At.weaken [6] (L' := [(6, .bool false)]) kr ?_
               exact hn1 (false, r64.2.2.2, r75.2.2) _ rfl hS
              ·replace H := ite_f H hb95
               refine WC.skip kr ?_
               refine At.go ?_
               refine WC.seq kr ?_
               refine WC.reg [0, 1, 2] kr kr ?_
               refine WR.runk [0, 1, 2] [] [8, 9, 12, 43, 44, 45, 141, 142] (L' := [(8, .pointer (some ⟨b48, 0, none⟩)), (9, .pointer (some ⟨b53, 0, none⟩)), (12, .slice A73 r64.1.length c74), (43, .slice A2 l2.length c2), (44, .int .i64 (l2.length : Int)), (45, .int .i64 x45_l1), (141, .int .i64 (r64.1.length : Int)), (142, .int .i64 0)]) (w' := w88) kr ?_
               refine WR.nil ?_
               refine At.go ?_
               refine WC.block kr ?_
               have hS : Sat w88 (rf w0) [osl 5 (r0 (.int .u8)) 1 A73 c74 r64.1, O66 b48 r64.2.2.2, O40 b53 r75.2.2] := hS.sel [2, 1, 0] kr
               obtain ⟨o103, e104, H⟩ := bind_ex H
               refine WC.loop kr ?_
               refine WL.weaken [8, 9, 12, 43, 44, 45, 141, 142] (L' := [(8, .pointer (some ⟨b48, 0, none⟩)), (9, .pointer (some ⟨b53, 0, none⟩)), (12, .slice A73 r64.1.length c74), (43, .slice A2 l2.length c2), (44, .int .i64 (l2.length : Int)), (45, .int .i64 x45_l1), (141, .int .i64 (r64.1.length : Int)), (142, .int .i64 0)]) kr ?_
               refine colophonlaw07_CachePlays.l2_ok w0 A2 c2 l2 b48 b53 x45_l1 r64 r75 o103 (fun w106 hS => ?_) FU r64.1 0 A73 c74 _ hS e104
               refine At.hit ?_
               refine At.blockNormal ?_
               refine At.go ?_
               refine WC.seq kr ?_
               refine WC.reg [0, 1, 2, 3, 4] kr kr ?_
               refine WR.runk [0] [1, 2, 3, 4] [8, 9, 43, 44, 45, 163] (L' := [(8, .pointer (some ⟨b48, 0, none⟩)), (9, .pointer (some ⟨b53, 0, none⟩)), (43, .slice A2 l2.length c2), (44, .int .i64 (l2.length : Int)), (45, .int .i64 x45_l1), (163, .pointer (some ⟨b48, 0, none⟩))]) (w' := w106) kr ?_
               obtain ⟨r108, e109, H⟩ := bind_ex H
               refine WR.st (St.call kr (f := 15) (args := #[.pointer (some ⟨b48, 0, none⟩)]) kr (cache_Cache_Stats.calls w106 (.pointer (some ⟨b48, 0, none⟩)) (some r64.2.2.2) (Sat.rdAny 0 hS rfl (fun _ h => O66.rd _ _ _ h)) r108 e109) ?_)
               rintro _ w115 ⟨rfl, hS116⟩
               have hS : Sat w115 (rf w0) [O66 b48 r64.2.2.2, O40 b53 r75.2.2] := hS.ext hS116
               refine WR.runk [2] [3, 4] [8, 9, 43, 44, 45, 164, 165] (L' := [(8, .pointer (some ⟨b48, 0, none⟩)), (9, .pointer (some ⟨b53, 0, none⟩)), (43, .slice A2 l2.length c2), (44, .int .i64 (l2.length : Int)), (45, .int .i64 x45_l1), (164, .agg #[.int .i64 r108.1, .int .i64 r108.2.1, .int .i64 r108.2.2.1, .int .i64 r108.2.2.2]), (165, .pointer (some ⟨b53, 0, none⟩))]) (w' := w115) kr ?_
               obtain ⟨r117, e118, H⟩ := bind_ex H
               refine WR.st (St.call kr (f := 16) (args := #[.pointer (some ⟨b53, 0, none⟩)]) kr (colophonref07_Cache_Stats.calls w115 (.pointer (some ⟨b53, 0, none⟩)) (some r75.2.2) (Sat.rdAny 1 hS rfl (fun _ h => O40.rd _ _ _ h)) r117 e118) ?_)
               rintro _ w124 ⟨rfl, hS125⟩
               have hS : Sat w124 (rf w0) [O66 b48 r64.2.2.2, O40 b53 r75.2.2] := hS.ext hS125
               refine WR.runk [] [4] [8, 9, 43, 44, 45, 164, 166] (L' := [(8, .pointer (some ⟨b48, 0, none⟩)), (9, .pointer (some ⟨b53, 0, none⟩)), (43, .slice A2 l2.length c2), (44, .int .i64 (l2.length : Int)), (45, .int .i64 x45_l1), (164, .agg #[.int .i64 r108.1, .int .i64 r108.2.1, .int .i64 r108.2.2.1, .int .i64 r108.2.2.2]), (166, .agg #[.int .i64 r117.1, .int .i64 r117.2.1, .int .i64 r117.2.2.1, .int .i64 r117.2.2.2])]) (w' := w124) kr ?_
               refine WR.st (St.ofP (PSt.eqInts (t := 44) (t2 := 44) (X := ([r108.1, r108.2.1, r108.2.2.1, r108.2.2.2] : List Int)) (Y := ([r117.1, r117.2.1, r117.2.2.1, r117.2.2.2] : List Int)) .neq (by decide) (.tmp 164) (.tmp 166) kr kr kr kr kr kr kr kr kr kr ?_))
               refine WR.runk [] [] [8, 9, 43, 44, 45, 167] (L' := [(8, .pointer (some ⟨b48, 0, none⟩)), (9, .pointer (some ⟨b53, 0, none⟩)), (43, .slice A2 l2.length c2), (44, .int .i64 (l2.length : Int)), (45, .int .i64 x45_l1), (167, .bool (!(([r108.1, r108.2.1, r108.2.2.1, r108.2.2.2] : List Int) == ([r117.1, r117.2.1, r117.2.2.1, r117.2.2.2] : List Int))))]) (w' := w124) kr ?_
               refine WR.nil ?_
               refine At.go ?_
               refine WC.cond kr (!(([r108.1, r108.2.1, r108.2.2.1, r108.2.2.2] : List Int) == ([r117.1, r117.2.1, r117.2.2.1, r117.2.2.2] : List Int))) kr kr (fun hb126 => ?_) (fun hb126 => ?_)
               ·replace H := ite_t H hb126
                refine WC.seq kr ?_
                refine WC.reg [0] kr kr ?_
                refine WR.runk [0] [] [6] (L' := [(6, .bool false)]) (w' := w124) kr ?_
                refine WR.nil ?_
                refine At.go ?_
                refine WC.ret kr ?_
                refine At.blockRet ?_
                refine At.thenRet ?_
                refine At.thenRet ?_
                obtain rfl := Option.some.inj H
                have hS : Sat w124 (rf w0) [O66 b48 r64.2.2.2, O40 b53 r75.2.2] := hS.sel [0, 1] kr
                refine At.weaken [6] (L' := [(6, .bool false)]) kr ?_
                exact hn1 (false, r64.2.2.2, r75.2.2) _ rfl hS
               ·replace H := ite_f H hb126
                refine WC.skip kr ?_
                refine At.blockNormal ?_
                refine At.go ?_
                refine WC.reg [0, 1] kr kr ?_
                refine WR.runk [0, 1] [] [8, 9, 43, 44, 45] (L' := [(8, .pointer (some ⟨b48, 0, none⟩)), (9, .pointer (some ⟨b53, 0, none⟩)), (43, .slice A2 l2.length c2), (44, .int .i64 (l2.length : Int)), (45, .int .i64 (wi (x45_l1 + 1)))]) (w' := w124) kr ?_
                refine WR.nil ?_
                have hS : Sat w124 (rf w0) [O66 b48 r64.2.2.2, O40 b53 r75.2.2] := hS.sel [0, 1] kr
                refine At.again ?_
                refine WL.weaken [8, 9, 43, 44, 45] (L' := [(8, .pointer (some ⟨b48, 0, none⟩)), (9, .pointer (some ⟨b53, 0, none⟩)), (43, .slice A2 l2.length c2), (44, .int .i64 (l2.length : Int)), (45, .int .i64 (wi (x45_l1 + 1)))]) kr ?_
                exact ih (wi (x45_l1 + 1)) r64.2.2.2 r75.2.2 _ hS H
             ·replace H := ite_f H hb92
              refine WD.weaken [8, 9, 11, 12, 43, 44, 45, 121, 125, 129] (L' := [(8, .pointer (some ⟨b48, 0, none⟩)), (9, .pointer (some ⟨b53, 0, none⟩)), (11, .pointer (some ⟨b58, 0, none⟩)), (12, .slice A73 r64.1.length c74), (43, .slice A2 l2.length c2), (44, .int .i64 (l2.length : Int)), (45, .int .i64 x45_l1), (121, .bool true), (125, .bool false), (129, .bool false)]) kr ?_
              refine WD.skip (i := 11) kr kr ?_
              refine WD.weaken [8, 9, 11, 12, 43, 44, 45, 121, 125, 129, 130] (L' := [(8, .pointer (some ⟨b48, 0, none⟩)), (9, .pointer (some ⟨b53, 0, none⟩)), (11, .pointer (some ⟨b58, 0, none⟩)), (12, .slice A73 r64.1.length c74), (43, .slice A2 l2.length c2), (44, .int .i64 (l2.length : Int)), (45, .int .i64 x45_l1), (121, .bool true), (125, .bool false), (129, .bool false), (130, undef)]) kr ?_
              refine WD.skip (i := 12) kr kr ?_
              refine WD.weaken [8, 9, 11, 12, 43, 44, 45, 121, 125, 129, 131] (L' := [(8, .pointer (some ⟨b48, 0, none⟩)), (9, .pointer (some ⟨b53, 0, none⟩)), (11, .pointer (some ⟨b58, 0, none⟩)), (12, .slice A73 r64.1.length c74), (43, .slice A2 l2.length c2), (44, .int .i64 (l2.length : Int)), (45, .int .i64 x45_l1), (121, .bool true), (125, .bool false), (129, .bool false), (131, undef)]) kr ?_
              refine WD.skip (i := 13) kr kr ?_
              refine WD.weaken [8, 9, 11, 12, 43, 44, 45, 121, 125, 129, 132] (L' := [(8, .pointer (some ⟨b48, 0, none⟩)), (9, .pointer (some ⟨b53, 0, none⟩)), (11, .pointer (some ⟨b58, 0, none⟩)), (12, .slice A73 r64.1.length c74), (43, .slice A2 l2.length c2), (44, .int .i64 (l2.length : Int)), (45, .int .i64 x45_l1), (121, .bool true), (125, .bool false), (129, .bool false), (132, undef)]) kr ?_
              refine WD.skip (i := 14) kr kr ?_
              refine WD.weaken [8, 9, 11, 12, 43, 44, 45, 121, 125, 129, 133] (L' := [(8, .pointer (some ⟨b48, 0, none⟩)), (9, .pointer (some ⟨b53, 0, none⟩)), (11, .pointer (some ⟨b58, 0, none⟩)), (12, .slice A73 r64.1.length c74), (43, .slice A2 l2.length c2), (44, .int .i64 (l2.length : Int)), (45, .int .i64 x45_l1), (121, .bool true), (125, .bool false), (129, .bool false), (133, undef)]) kr ?_
              refine WD.skip (i := 15) kr kr ?_
              refine WD.weaken [8, 9, 12, 43, 44, 45, 121, 125, 129, 133, 134] (L' := [(8, .pointer (some ⟨b48, 0, none⟩)), (9, .pointer (some ⟨b53, 0, none⟩)), (12, .slice A73 r64.1.length c74), (43, .slice A2 l2.length c2), (44, .int .i64 (l2.length : Int)), (45, .int .i64 x45_l1), (121, .bool true), (125, .bool false), (129, .bool false), (133, undef), (134, undef)]) kr ?_
              refine WD.skip (i := 16) kr kr ?_
              refine WD.weaken [8, 9, 12, 43, 44, 45, 121, 125, 129, 133, 135] (L' := [(8, .pointer (some ⟨b48, 0, none⟩)), (9, .pointer (some ⟨b53, 0, none⟩)), (12, .slice A73 r64.1.length c74), (43, .slice A2 l2.length c2), (44, .int .i64 (l2.length : Int)), (45, .int .i64 x45_l1), (121, .bool true), (125, .bool false), (129, .bool false), (133, undef), (135, undef)]) kr ?_
              refine WD.skip (i := 17) kr kr ?_
              refine WD.weaken [8, 9, 12, 43, 44, 45, 121, 125, 129, 136] (L' := [(8, .pointer (some ⟨b48, 0, none⟩)), (9, .pointer (some ⟨b53, 0, none⟩)), (12, .slice A73 r64.1.length c74), (43, .slice A2 l2.length c2), (44, .int .i64 (l2.length : Int)), (45, .int .i64 x45_l1), (121, .bool true), (125, .bool false), (129, .bool false), (136, undef)]) kr ?_
              refine WD.pure (i := 18) (v := .bool false) kr kr (fun _ => by kernel_rfl) ?_
              refine WD.weaken [8, 9, 12, 43, 44, 45, 121, 125, 137] (L' := [(8, .pointer (some ⟨b48, 0, none⟩)), (9, .pointer (some ⟨b53, 0, none⟩)), (12, .slice A73 r64.1.length c74), (43, .slice A2 l2.length c2), (44, .int .i64 (l2.length : Int)), (45, .int .i64 x45_l1), (121, .bool true), (125, .bool false), (137, .bool false)]) kr ?_
              refine WD.pure (i := 19) (v := .bool false) kr kr (fun _ => by kernel_rfl) ?_
              refine WD.weaken [8, 9, 12, 43, 44, 45, 121, 138] (L' := [(8, .pointer (some ⟨b48, 0, none⟩)), (9, .pointer (some ⟨b53, 0, none⟩)), (12, .slice A73 r64.1.length c74), (43, .slice A2 l2.length c2), (44, .int .i64 (l2.length : Int)), (45, .int .i64 x45_l1), (121, .bool true), (138, .bool false)]) kr ?_
              refine WD.pure (i := 20) (v := .bool false) kr kr (fun _ => by kernel_rfl) ?_
              refine WD.weaken [8, 9, 12, 43, 44, 45, 139] (L' := [(8, .pointer (some ⟨b48, 0, none⟩)), (9, .pointer (some ⟨b53, 0, none⟩)), (12, .slice A73 r64.1.length c74), (43, .slice A2 l2.length c2), (44, .int .i64 (l2.length : Int)), (45, .int .i64 x45_l1), (139, .bool false)]) kr ?_
              refine WD.nil kr ?_
              refine At.go ?_
              refine WC.condF kr kr kr ?_
              refine WC.skip kr ?_
              refine At.go ?_
              refine WC.seq kr ?_
              refine WC.reg [0, 1, 2] kr kr ?_
              refine WR.runk [0, 1, 2] [] [8, 9, 12, 43, 44, 45, 141, 142] (L' := [(8, .pointer (some ⟨b48, 0, none⟩)), (9, .pointer (some ⟨b53, 0, none⟩)), (12, .slice A73 r64.1.length c74), (43, .slice A2 l2.length c2), (44, .int .i64 (l2.length : Int)), (45, .int .i64 x45_l1), (141, .int .i64 (r64.1.length : Int)), (142, .int .i64 0)]) (w' := w88) kr ?_
              refine WR.nil ?_
              refine At.go ?_
              refine WC.block kr ?_
              have hS : Sat w88 (rf w0) [osl 5 (r0 (.int .u8)) 1 A73 c74 r64.1, O66 b48 r64.2.2.2, O40 b53 r75.2.2] := hS.sel [2, 1, 0] kr
              obtain ⟨o134, e135, H⟩ := bind_ex H
              refine WC.loop kr ?_
              refine WL.weaken [8, 9, 12, 43, 44, 45, 141, 142] (L' := [(8, .pointer (some ⟨b48, 0, none⟩)), (9, .pointer (some ⟨b53, 0, none⟩)), (12, .slice A73 r64.1.length c74), (43, .slice A2 l2.length c2), (44, .int .i64 (l2.length : Int)), (45, .int .i64 x45_l1), (141, .int .i64 (r64.1.length : Int)), (142, .int .i64 0)]) kr ?_
              refine colophonlaw07_CachePlays.l3_ok w0 A2 c2 l2 b48 b53 x45_l1 r64 r75 o134 (fun w137 hS => ?_) FU r64.1 0 A73 c74 _ hS e135
              refine At.hit ?_
              refine At.blockNormal ?_
              refine At.go ?_
              refine WC.seq kr ?_
              refine WC.reg [0, 1, 2, 3, 4] kr kr ?_
              refine WR.runk [0] [1, 2, 3, 4] [8, 9, 43, 44, 45, 163] (L' := [(8, .pointer (some ⟨b48, 0, none⟩)), (9, .pointer (some ⟨b53, 0, none⟩)), (43, .slice A2 l2.length c2), (44, .int .i64 (l2.length : Int)), (45, .int .i64 x45_l1), (163, .pointer (some ⟨b48, 0, none⟩))]) (w' := w137) kr ?_
              obtain ⟨r139, e140, H⟩ := bind_ex H
              refine WR.st (St.call kr (f := 15) (args := #[.pointer (some ⟨b48, 0, none⟩)]) kr (cache_Cache_Stats.calls w137 (.pointer (some ⟨b48, 0, none⟩)) (some r64.2.2.2) (Sat.rdAny 0 hS rfl (fun _ h => O66.rd _ _ _ h)) r139 e140) ?_)
              rintro _ w146 ⟨rfl, hS147⟩
              have hS : Sat w146 (rf w0) [O66 b48 r64.2.2.2, O40 b53 r75.2.2] := hS.ext hS147
              refine WR.runk [2] [3, 4] [8, 9, 43, 44, 45, 164, 165] (L' := [(8, .pointer (some ⟨b48, 0, none⟩)), (9, .pointer (some ⟨b53, 0, none⟩)), (43, .slice A2 l2.length c2), (44, .int .i64 (l2.length : Int)), (45, .int .i64 x45_l1), (164, .agg #[.int .i64 r139.1, .int .i64 r139.2.1, .int .i64 r139.2.2.1, .int .i64 r139.2.2.2]), (165, .pointer (some ⟨b53, 0, none⟩))]) (w' := w146) kr ?_
              obtain ⟨r148, e149, H⟩ := bind_ex H
              refine WR.st (St.call kr (f := 16) (args := #[.pointer (some ⟨b53, 0, none⟩)]) kr (colophonref07_Cache_Stats.calls w146 (.pointer (some ⟨b53, 0, none⟩)) (some r75.2.2) (Sat.rdAny 1 hS rfl (fun _ h => O40.rd _ _ _ h)) r148 e149) ?_)
              rintro _ w155 ⟨rfl, hS156⟩
              have hS : Sat w155 (rf w0) [O66 b48 r64.2.2.2, O40 b53 r75.2.2] := hS.ext hS156
              refine WR.runk [] [4] [8, 9, 43, 44, 45, 164, 166] (L' := [(8, .pointer (some ⟨b48, 0, none⟩)), (9, .pointer (some ⟨b53, 0, none⟩)), (43, .slice A2 l2.length c2), (44, .int .i64 (l2.length : Int)), (45, .int .i64 x45_l1), (164, .agg #[.int .i64 r139.1, .int .i64 r139.2.1, .int .i64 r139.2.2.1, .int .i64 r139.2.2.2]), (166, .agg #[.int .i64 r148.1, .int .i64 r148.2.1, .int .i64 r148.2.2.1, .int .i64 r148.2.2.2])]) (w' := w155) kr ?_
              refine WR.st (St.ofP (PSt.eqInts (t := 44) (t2 := 44) (X := ([r139.1, r139.2.1, r139.2.2.1, r139.2.2.2] : List Int)) (Y := ([r148.1, r148.2.1, r148.2.2.1, r148.2.2.2] : List Int)) .neq (by decide) (.tmp 164) (.tmp 166) kr kr kr kr kr kr kr kr kr kr ?_))
              refine WR.runk [] [] [8, 9, 43, 44, 45, 167] (L' := [(8, .pointer (some ⟨b48, 0, none⟩)), (9, .pointer (some ⟨b53, 0, none⟩)), (43, .slice A2 l2.length c2), (44, .int .i64 (l2.length : Int)), (45, .int .i64 x45_l1), (167, .bool (!(([r139.1, r139.2.1, r139.2.2.1, r139.2.2.2] : List Int) == ([r148.1, r148.2.1, r148.2.2.1, r148.2.2.2] : List Int))))]) (w' := w155) kr ?_
              refine WR.nil ?_
              refine At.go ?_
              refine WC.cond kr (!(([r139.1, r139.2.1, r139.2.2.1, r139.2.2.2] : List Int) == ([r148.1, r148.2.1, r148.2.2.1, r148.2.2.2] : List Int))) kr kr (fun hb157 => ?_) (fun hb157 => ?_)
              ·replace H := ite_t H hb157
               refine WC.seq kr ?_
               refine WC.reg [0] kr kr ?_
               refine WR.runk [0] [] [6] (L' := [(6, .bool false)]) (w' := w155) kr ?_
               refine WR.nil ?_
               refine At.go ?_
               refine WC.ret kr ?_
               refine At.blockRet ?_
               refine At.thenRet ?_
               refine At.thenRet ?_
               obtain rfl := Option.some.inj H
               have hS : Sat w155 (rf w0) [O66 b48 r64.2.2.2, O40 b53 r75.2.2] := hS.sel [0, 1] kr
               refine At.weaken [6] (L' := [(6, .bool false)]) kr ?_
               exact hn1 (false, r64.2.2.2, r75.2.2) _ rfl hS
              ·replace H := ite_f H hb157
               refine WC.skip kr ?_
               refine At.blockNormal ?_
               refine At.go ?_
               refine WC.reg [0, 1] kr kr ?_
               refine WR.runk [0, 1] [] [8, 9, 43, 44, 45] (L' := [(8, .pointer (some ⟨b48, 0, none⟩)), (9, .pointer (some ⟨b53, 0, none⟩)), (43, .slice A2 l2.length c2), (44, .int .i64 (l2.length : Int)), (45, .int .i64 (wi (x45_l1 + 1)))]) (w' := w155) kr ?_
               refine WR.nil ?_
               have hS : Sat w155 (rf w0) [O66 b48 r64.2.2.2, O40 b53 r75.2.2] := hS.sel [0, 1] kr
               refine At.again ?_
               refine WL.weaken [8, 9, 43, 44, 45] (L' := [(8, .pointer (some ⟨b48, 0, none⟩)), (9, .pointer (some ⟨b53, 0, none⟩)), (43, .slice A2 l2.length c2), (44, .int .i64 (l2.length : Int)), (45, .int .i64 (wi (x45_l1 + 1)))]) kr ?_
               exact ih (wi (x45_l1 + 1)) r64.2.2.2 r75.2.2 _ hS H
           ·replace H := ite_f H hb90
            refine WD.weaken [8, 9, 11, 12, 43, 44, 45, 121] (L' := [(8, .pointer (some ⟨b48, 0, none⟩)), (9, .pointer (some ⟨b53, 0, none⟩)), (11, .pointer (some ⟨b58, 0, none⟩)), (12, .slice A73 r64.1.length c74), (43, .slice A2 l2.length c2), (44, .int .i64 (l2.length : Int)), (45, .int .i64 x45_l1), (121, .bool false)]) kr ?_
            refine WD.skip (i := 3) kr kr ?_
            refine WD.weaken [8, 9, 11, 12, 43, 44, 45, 121, 122] (L' := [(8, .pointer (some ⟨b48, 0, none⟩)), (9, .pointer (some ⟨b53, 0, none⟩)), (11, .pointer (some ⟨b58, 0, none⟩)), (12, .slice A73 r64.1.length c74), (43, .slice A2 l2.length c2), (44, .int .i64 (l2.length : Int)), (45, .int .i64 x45_l1), (121, .bool false), (122, undef)]) kr ?_
            refine WD.skip (i := 4) kr kr ?_
            refine WD.weaken [8, 9, 11, 12, 43, 44, 45, 121, 123] (L' := [(8, .pointer (some ⟨b48, 0, none⟩)), (9, .pointer (some ⟨b53, 0, none⟩)), (11, .pointer (some ⟨b58, 0, none⟩)), (12, .slice A73 r64.1.length c74), (43, .slice A2 l2.length c2), (44, .int .i64 (l2.length : Int)), (45, .int .i64 x45_l1), (121, .bool false), (123, undef)]) kr ?_
            refine WD.skip (i := 5) kr kr ?_
            refine WD.weaken [8, 9, 11, 12, 43, 44, 45, 121, 124] (L' := [(8, .pointer (some ⟨b48, 0, none⟩)), (9, .pointer (some ⟨b53, 0, none⟩)), (11, .pointer (some ⟨b58, 0, none⟩)), (12, .slice A73 r64.1.length c74), (43, .slice A2 l2.length c2), (44, .int .i64 (l2.length : Int)), (45, .int .i64 x45_l1), (121, .bool false), (124, undef)]) kr ?_
            refine WD.skip (i := 6) kr kr ?_
            refine WD.weaken [8, 9, 11, 12, 43, 44, 45, 121, 125] (L' := [(8, .pointer (some ⟨b48, 0, none⟩)), (9, .pointer (some ⟨b53, 0, none⟩)), (11, .pointer (some ⟨b58, 0, none⟩)), (12, .slice A73 r64.1.length c74), (43, .slice A2 l2.length c2), (44, .int .i64 (l2.length : Int)), (45, .int .i64 x45_l1), (121, .bool false), (125, undef)]) kr ?_
            refine WD.skip (i := 7) kr kr ?_
            refine WD.weaken [8, 9, 11, 12, 43, 44, 45, 121, 125, 126] (L' := [(8, .pointer (some ⟨b48, 0, none⟩)), (9, .pointer (some ⟨b53, 0, none⟩)), (11, .pointer (some ⟨b58, 0, none⟩)), (12, .slice A73 r64.1.length c74), (43, .slice A2 l2.length c2), (44, .int .i64 (l2.length : Int)), (45, .int .i64 x45_l1), (121, .bool false), (125, undef), (126, undef)]) kr ?_
            refine WD.skip (i := 8) kr kr ?_
            refine WD.weaken [8, 9, 11, 12, 43, 44, 45, 121, 125, 127] (L' := [(8, .pointer (some ⟨b48, 0, none⟩)), (9, .pointer (some ⟨b53, 0, none⟩)), (11, .pointer (some ⟨b58, 0, none⟩)), (12, .slice A73 r64.1.length c74), (43, .slice A2 l2.length c2), (44, .int .i64 (l2.length : Int)), (45, .int .i64 x45_l1), (121, .bool false), (125, undef), (127, undef)]) kr ?_
            refine WD.skip (i := 9) kr kr ?_
            refine WD.weaken [8, 9, 11, 12, 43, 44, 45, 121, 125, 128] (L' := [(8, .pointer (some ⟨b48, 0, none⟩)), (9, .pointer (some ⟨b53, 0, none⟩)), (11, .pointer (some ⟨b58, 0, none⟩)), (12, .slice A73 r64.1.length c74), (43, .slice A2 l2.length c2), (44, .int .i64 (l2.length : Int)), (45, .int .i64 x45_l1), (121, .bool false), (125, undef), (128, undef)]) kr ?_
            refine WD.skip (i := 10) kr kr ?_
            refine WD.weaken [8, 9, 11, 12, 43, 44, 45, 121, 125, 129] (L' := [(8, .pointer (some ⟨b48, 0, none⟩)), (9, .pointer (some ⟨b53, 0, none⟩)), (11, .pointer (some ⟨b58, 0, none⟩)), (12, .slice A73 r64.1.length c74), (43, .slice A2 l2.length c2), (44, .int .i64 (l2.length : Int)), (45, .int .i64 x45_l1), (121, .bool false), (125, undef), (129, undef)]) kr ?_
            refine WD.skip (i := 11) kr kr ?_
            refine WD.weaken [8, 9, 11, 12, 43, 44, 45, 121, 125, 129, 130] (L' := [(8, .pointer (some ⟨b48, 0, none⟩)), (9, .pointer (some ⟨b53, 0, none⟩)), (11, .pointer (some ⟨b58, 0, none⟩)), (12, .slice A73 r64.1.length c74), (43, .slice A2 l2.length c2), (44, .int .i64 (l2.length : Int)), (45, .int .i64 x45_l1), (121, .bool false), (125, undef), (129, undef), (130, undef)]) kr ?_
            refine WD.skip (i := 12) kr kr ?_
            refine WD.weaken [8, 9, 11, 12, 43, 44, 45, 121, 125, 129, 131] (L' := [(8, .pointer (some ⟨b48, 0, none⟩)), (9, .pointer (some ⟨b53, 0, none⟩)), (11, .pointer (some ⟨b58, 0, none⟩)), (12, .slice A73 r64.1.length c74), (43, .slice A2 l2.length c2), (44, .int .i64 (l2.length : Int)), (45, .int .i64 x45_l1), (121, .bool false), (125, undef), (129, undef), (131, undef)]) kr ?_
            refine WD.skip (i := 13) kr kr ?_
            refine WD.weaken [8, 9, 11, 12, 43, 44, 45, 121, 125, 129, 132] (L' := [(8, .pointer (some ⟨b48, 0, none⟩)), (9, .pointer (some ⟨b53, 0, none⟩)), (11, .pointer (some ⟨b58, 0, none⟩)), (12, .slice A73 r64.1.length c74), (43, .slice A2 l2.length c2), (44, .int .i64 (l2.length : Int)), (45, .int .i64 x45_l1), (121, .bool false), (125, undef), (129, undef), (132, undef)]) kr ?_
            refine WD.skip (i := 14) kr kr ?_
            refine WD.weaken [8, 9, 11, 12, 43, 44, 45, 121, 125, 129, 133] (L' := [(8, .pointer (some ⟨b48, 0, none⟩)), (9, .pointer (some ⟨b53, 0, none⟩)), (11, .pointer (some ⟨b58, 0, none⟩)), (12, .slice A73 r64.1.length c74), (43, .slice A2 l2.length c2), (44, .int .i64 (l2.length : Int)), (45, .int .i64 x45_l1), (121, .bool false), (125, undef), (129, undef), (133, undef)]) kr ?_
            refine WD.skip (i := 15) kr kr ?_
            refine WD.weaken [8, 9, 12, 43, 44, 45, 121, 125, 129, 133, 134] (L' := [(8, .pointer (some ⟨b48, 0, none⟩)), (9, .pointer (some ⟨b53, 0, none⟩)), (12, .slice A73 r64.1.length c74), (43, .slice A2 l2.length c2), (44, .int .i64 (l2.length : Int)), (45, .int .i64 x45_l1), (121, .bool false), (125, undef), (129, undef), (133, undef), (134, undef)]) kr ?_
            refine WD.skip (i := 16) kr kr ?_
            refine WD.weaken [8, 9, 12, 43, 44, 45, 121, 125, 129, 133, 135] (L' := [(8, .pointer (some ⟨b48, 0, none⟩)), (9, .pointer (some ⟨b53, 0, none⟩)), (12, .slice A73 r64.1.length c74), (43, .slice A2 l2.length c2), (44, .int .i64 (l2.length : Int)), (45, .int .i64 x45_l1), (121, .bool false), (125, undef), (129, undef), (133, undef), (135, undef)]) kr ?_
            refine WD.skip (i := 17) kr kr ?_
            refine WD.weaken [8, 9, 12, 43, 44, 45, 121, 125, 129, 136] (L' := [(8, .pointer (some ⟨b48, 0, none⟩)), (9, .pointer (some ⟨b53, 0, none⟩)), (12, .slice A73 r64.1.length c74), (43, .slice A2 l2.length c2), (44, .int .i64 (l2.length : Int)), (45, .int .i64 x45_l1), (121, .bool false), (125, undef), (129, undef), (136, undef)]) kr ?_
            refine WD.skip (i := 18) kr kr ?_
            refine WD.weaken [8, 9, 12, 43, 44, 45, 121, 125, 137] (L' := [(8, .pointer (some ⟨b48, 0, none⟩)), (9, .pointer (some ⟨b53, 0, none⟩)), (12, .slice A73 r64.1.length c74), (43, .slice A2 l2.length c2), (44, .int .i64 (l2.length : Int)), (45, .int .i64 x45_l1), (121, .bool false), (125, undef), (137, undef)]) kr ?_
            refine WD.skip (i := 19) kr kr ?_
            refine WD.weaken [8, 9, 12, 43, 44, 45, 121, 138] (L' := [(8, .pointer (some ⟨b48, 0, none⟩)), (9, .pointer (some ⟨b53, 0, none⟩)), (12, .slice A73 r64.1.length c74), (43, .slice A2 l2.length c2), (44, .int .i64 (l2.length : Int)), (45, .int .i64 x45_l1), (121, .bool false), (138, undef)]) kr ?_
            refine WD.pure (i := 20) (v := .bool false) kr kr (fun _ => by kernel_rfl) ?_
            refine WD.weaken [8, 9, 12, 43, 44, 45, 139] (L' := [(8, .pointer (some ⟨b48, 0, none⟩)), (9, .pointer (some ⟨b53, 0, none⟩)), (12, .slice A73 r64.1.length c74), (43, .slice A2 l2.length c2), (44, .int .i64 (l2.length : Int)), (45, .int .i64 x45_l1), (139, .bool false)]) kr ?_
            refine WD.nil kr ?_
            refine At.go ?_
            refine WC.condF kr kr kr ?_
            refine WC.skip kr ?_
            refine At.go ?_
            refine WC.seq kr ?_
            refine WC.reg [0, 1, 2] kr kr ?_
            refine WR.runk [0, 1, 2] [] [8, 9, 12, 43, 44, 45, 141, 142] (L' := [(8, .pointer (some ⟨b48, 0, none⟩)), (9, .pointer (some ⟨b53, 0, none⟩)), (12, .slice A73 r64.1.length c74), (43, .slice A2 l2.length c2), (44, .int .i64 (l2.length : Int)), (45, .int .i64 x45_l1), (141, .int .i64 (r64.1.length : Int)), (142, .int .i64 0)]) (w' := w88) kr ?_
            refine WR.nil ?_
            refine At.go ?_
            refine WC.block kr ?_
            have hS : Sat w88 (rf w0) [osl 5 (r0 (.int .u8)) 1 A73 c74 r64.1, O66 b48 r64.2.2.2, O40 b53 r75.2.2] := hS.sel [2, 1, 0] kr
            obtain ⟨o165, e166, H⟩ := bind_ex H
            refine WC.loop kr ?_
            refine WL.weaken [8, 9, 12, 43, 44, 45, 141, 142] (L' := [(8, .pointer (some ⟨b48, 0, none⟩)), (9, .pointer (some ⟨b53, 0, none⟩)), (12, .slice A73 r64.1.length c74), (43, .slice A2 l2.length c2), (44, .int .i64 (l2.length : Int)), (45, .int .i64 x45_l1), (141, .int .i64 (r64.1.length : Int)), (142, .int .i64 0)]) kr ?_
            refine colophonlaw07_CachePlays.l4_ok w0 A2 c2 l2 b48 b53 x45_l1 r64 r75 o165 (fun w168 hS => ?_) FU r64.1 0 A73 c74 _ hS e166
            refine At.hit ?_
            refine At.blockNormal ?_
            refine At.go ?_
            refine WC.seq kr ?_
            refine WC.reg [0, 1, 2, 3, 4] kr kr ?_
            refine WR.runk [0] [1, 2, 3, 4] [8, 9, 43, 44, 45, 163] (L' := [(8, .pointer (some ⟨b48, 0, none⟩)), (9, .pointer (some ⟨b53, 0, none⟩)), (43, .slice A2 l2.length c2), (44, .int .i64 (l2.length : Int)), (45, .int .i64 x45_l1), (163, .pointer (some ⟨b48, 0, none⟩))]) (w' := w168) kr ?_
            obtain ⟨r170, e171, H⟩ := bind_ex H
            refine WR.st (St.call kr (f := 15) (args := #[.pointer (some ⟨b48, 0, none⟩)]) kr (cache_Cache_Stats.calls w168 (.pointer (some ⟨b48, 0, none⟩)) (some r64.2.2.2) (Sat.rdAny 0 hS rfl (fun _ h => O66.rd _ _ _ h)) r170 e171) ?_)
            rintro _ w177 ⟨rfl, hS178⟩
            have hS : Sat w177 (rf w0) [O66 b48 r64.2.2.2, O40 b53 r75.2.2] := hS.ext hS178
            refine WR.runk [2] [3, 4] [8, 9, 43, 44, 45, 164, 165] (L' := [(8, .pointer (some ⟨b48, 0, none⟩)), (9, .pointer (some ⟨b53, 0, none⟩)), (43, .slice A2 l2.length c2), (44, .int .i64 (l2.length : Int)), (45, .int .i64 x45_l1), (164, .agg #[.int .i64 r170.1, .int .i64 r170.2.1, .int .i64 r170.2.2.1, .int .i64 r170.2.2.2]), (165, .pointer (some ⟨b53, 0, none⟩))]) (w' := w177) kr ?_
            obtain ⟨r179, e180, H⟩ := bind_ex H
            refine WR.st (St.call kr (f := 16) (args := #[.pointer (some ⟨b53, 0, none⟩)]) kr (colophonref07_Cache_Stats.calls w177 (.pointer (some ⟨b53, 0, none⟩)) (some r75.2.2) (Sat.rdAny 1 hS rfl (fun _ h => O40.rd _ _ _ h)) r179 e180) ?_)
            rintro _ w186 ⟨rfl, hS187⟩
            have hS : Sat w186 (rf w0) [O66 b48 r64.2.2.2, O40 b53 r75.2.2] := hS.ext hS187
            refine WR.runk [] [4] [8, 9, 43, 44, 45, 164, 166] (L' := [(8, .pointer (some ⟨b48, 0, none⟩)), (9, .pointer (some ⟨b53, 0, none⟩)), (43, .slice A2 l2.length c2), (44, .int .i64 (l2.length : Int)), (45, .int .i64 x45_l1), (164, .agg #[.int .i64 r170.1, .int .i64 r170.2.1, .int .i64 r170.2.2.1, .int .i64 r170.2.2.2]), (166, .agg #[.int .i64 r179.1, .int .i64 r179.2.1, .int .i64 r179.2.2.1, .int .i64 r179.2.2.2])]) (w' := w186) kr ?_
            refine WR.st (St.ofP (PSt.eqInts (t := 44) (t2 := 44) (X := ([r170.1, r170.2.1, r170.2.2.1, r170.2.2.2] : List Int)) (Y := ([r179.1, r179.2.1, r179.2.2.1, r179.2.2.2] : List Int)) .neq (by decide) (.tmp 164) (.tmp 166) kr kr kr kr kr kr kr kr kr kr ?_))
            refine WR.runk [] [] [8, 9, 43, 44, 45, 167] (L' := [(8, .pointer (some ⟨b48, 0, none⟩)), (9, .pointer (some ⟨b53, 0, none⟩)), (43, .slice A2 l2.length c2), (44, .int .i64 (l2.length : Int)), (45, .int .i64 x45_l1), (167, .bool (!(([r170.1, r170.2.1, r170.2.2.1, r170.2.2.2] : List Int) == ([r179.1, r179.2.1, r179.2.2.1, r179.2.2.2] : List Int))))]) (w' := w186) kr ?_
            refine WR.nil ?_
            refine At.go ?_
            refine WC.cond kr (!(([r170.1, r170.2.1, r170.2.2.1, r170.2.2.2] : List Int) == ([r179.1, r179.2.1, r179.2.2.1, r179.2.2.2] : List Int))) kr kr (fun hb188 => ?_) (fun hb188 => ?_)
            ·replace H := ite_t H hb188
             refine WC.seq kr ?_
             refine WC.reg [0] kr kr ?_
             refine WR.runk [0] [] [6] (L' := [(6, .bool false)]) (w' := w186) kr ?_
             refine WR.nil ?_
             refine At.go ?_
             refine WC.ret kr ?_
             refine At.blockRet ?_
             refine At.thenRet ?_
             refine At.thenRet ?_
             obtain rfl := Option.some.inj H
             have hS : Sat w186 (rf w0) [O66 b48 r64.2.2.2, O40 b53 r75.2.2] := hS.sel [0, 1] kr
             refine At.weaken [6] (L' := [(6, .bool false)]) kr ?_
             exact hn1 (false, r64.2.2.2, r75.2.2) _ rfl hS
            ·replace H := ite_f H hb188
             refine WC.skip kr ?_
             refine At.blockNormal ?_
             refine At.go ?_
             refine WC.reg [0, 1] kr kr ?_
             refine WR.runk [0, 1] [] [8, 9, 43, 44, 45] (L' := [(8, .pointer (some ⟨b48, 0, none⟩)), (9, .pointer (some ⟨b53, 0, none⟩)), (43, .slice A2 l2.length c2), (44, .int .i64 (l2.length : Int)), (45, .int .i64 (wi (x45_l1 + 1)))]) (w' := w186) kr ?_
             refine WR.nil ?_
             have hS : Sat w186 (rf w0) [O66 b48 r64.2.2.2, O40 b53 r75.2.2] := hS.sel [0, 1] kr
             refine At.again ?_
             refine WL.weaken [8, 9, 43, 44, 45] (L' := [(8, .pointer (some ⟨b48, 0, none⟩)), (9, .pointer (some ⟨b53, 0, none⟩)), (43, .slice A2 l2.length c2), (44, .int .i64 (l2.length : Int)), (45, .int .i64 (wi (x45_l1 + 1)))]) kr ?_
             exact ih (wi (x45_l1 + 1)) r64.2.2.2 r75.2.2 _ hS H
         ·replace H := ite_f H hb86
          refine WR.runk [12, 13, 14, 15, 16] [] [8, 9, 11, 12, 16, 43, 44, 45, 118] (L' := [(8, .pointer (some ⟨b48, 0, none⟩)), (9, .pointer (some ⟨b53, 0, none⟩)), (11, .pointer (some ⟨b58, 0, none⟩)), (12, .slice A73 r64.1.length c74), (16, .int .i64 r75.2.1), (43, .slice A2 l2.length c2), (44, .int .i64 (l2.length : Int)), (45, .int .i64 x45_l1), (118, .bool false)]) (w' := w82) kr ?_
          refine WR.nil ?_
          refine At.go ?_
          refine WC.condF kr kr kr ?_
          refine WC.skip kr ?_
          refine At.go ?_
          refine WC.seq kr ?_
          refine WC.seq kr ?_
          refine WC.drawn kr kr 21 kr (fun w189 hw190 => ?_)
          have hS := hS.heap hw190.1 hw190.2
          refine WD.weaken [8, 9, 11, 12, 16, 43, 44, 45] (L' := [(8, .pointer (some ⟨b48, 0, none⟩)), (9, .pointer (some ⟨b53, 0, none⟩)), (11, .pointer (some ⟨b58, 0, none⟩)), (12, .slice A73 r64.1.length c74), (16, .int .i64 r75.2.1), (43, .slice A2 l2.length c2), (44, .int .i64 (l2.length : Int)), (45, .int .i64 x45_l1)]) kr ?_
          refine WD.pure (i := 0) (v := .int .i64 r75.2.1) kr kr (fun _ => by kernel_rfl) ?_
          refine WD.weaken [8, 9, 11, 12, 43, 44, 45, 119] (L' := [(8, .pointer (some ⟨b48, 0, none⟩)), (9, .pointer (some ⟨b53, 0, none⟩)), (11, .pointer (some ⟨b58, 0, none⟩)), (12, .slice A73 r64.1.length c74), (43, .slice A2 l2.length c2), (44, .int .i64 (l2.length : Int)), (45, .int .i64 x45_l1), (119, .int .i64 r75.2.1)]) kr ?_
          refine WD.pure (i := 1) (v := .bool (r75.2.1 == 0)) kr kr (fun _ => by kernel_rfl) ?_
          refine WD.weaken [8, 9, 11, 12, 43, 44, 45, 120] (L' := [(8, .pointer (some ⟨b48, 0, none⟩)), (9, .pointer (some ⟨b53, 0, none⟩)), (11, .pointer (some ⟨b58, 0, none⟩)), (12, .slice A73 r64.1.length c74), (43, .slice A2 l2.length c2), (44, .int .i64 (l2.length : Int)), (45, .int .i64 x45_l1), (120, .bool (r75.2.1 == 0))]) kr ?_
          refine WD.pure (i := 2) (v := .bool (r75.2.1 == 0)) kr kr (fun _ => by kernel_rfl) ?_
          refine WD.weaken [8, 9, 11, 12, 43, 44, 45, 121] (L' := [(8, .pointer (some ⟨b48, 0, none⟩)), (9, .pointer (some ⟨b53, 0, none⟩)), (11, .pointer (some ⟨b58, 0, none⟩)), (12, .slice A73 r64.1.length c74), (43, .slice A2 l2.length c2), (44, .int .i64 (l2.length : Int)), (45, .int .i64 x45_l1), (121, .bool (r75.2.1 == 0))]) kr ?_
          refine WD.split 121 (b := (r75.2.1 == 0)) kr (fun hb191 => ?_) (fun hb191 => ?_)
          ·replace H := ite_t H hb191
           refine WD.weaken [8, 9, 11, 12, 43, 44, 45, 121] (L' := [(8, .pointer (some ⟨b48, 0, none⟩)), (9, .pointer (some ⟨b53, 0, none⟩)), (11, .pointer (some ⟨b58, 0, none⟩)), (12, .slice A73 r64.1.length c74), (43, .slice A2 l2.length c2), (44, .int .i64 (l2.length : Int)), (45, .int .i64 x45_l1), (121, .bool true)]) kr ?_
           refine WD.pure (i := 3) (v := .slice A73 r64.1.length c74) kr kr (fun _ => by kernel_rfl) ?_
           refine WD.weaken [8, 9, 11, 12, 43, 44, 45, 121, 122] (L' := [(8, .pointer (some ⟨b48, 0, none⟩)), (9, .pointer (some ⟨b53, 0, none⟩)), (11, .pointer (some ⟨b58, 0, none⟩)), (12, .slice A73 r64.1.length c74), (43, .slice A2 l2.length c2), (44, .int .i64 (l2.length : Int)), (45, .int .i64 x45_l1), (121, .bool true), (122, .slice A73 r64.1.length c74)]) kr ?_
           refine WD.pure (i := 4) (v := .int .i64 (r64.1.length : Int)) kr kr (fun _ => by kernel_rfl) ?_
           refine WD.weaken [8, 9, 11, 12, 43, 44, 45, 121, 123] (L' := [(8, .pointer (some ⟨b48, 0, none⟩)), (9, .pointer (some ⟨b53, 0, none⟩)), (11, .pointer (some ⟨b58, 0, none⟩)), (12, .slice A73 r64.1.length c74), (43, .slice A2 l2.length c2), (44, .int .i64 (l2.length : Int)), (45, .int .i64 x45_l1), (121, .bool true), (123, .int .i64 (r64.1.length : Int))]) kr ?_
           refine WD.pure (i := 5) (v := .bool ((r64.1.length : Int) != 256)) kr kr (fun _ => by kernel_rfl) ?_
           refine WD.weaken [8, 9, 11, 12, 43, 44, 45, 121, 124] (L' := [(8, .pointer (some ⟨b48, 0, none⟩)), (9, .pointer (some ⟨b53, 0, none⟩)), (11, .pointer (some ⟨b58, 0, none⟩)), (12, .slice A73 r64.1.length c74), (43, .slice A2 l2.length c2), (44, .int .i64 (l2.length : Int)), (45, .int .i64 x45_l1), (121, .bool true), (124, .bool ((r64.1.length : Int) != 256))]) kr ?_
           refine WD.pure (i := 6) (v := .bool ((r64.1.length : Int) != 256)) kr kr (fun _ => by kernel_rfl) ?_
           refine WD.weaken [8, 9, 11, 12, 43, 44, 45, 121, 125] (L' := [(8, .pointer (some ⟨b48, 0, none⟩)), (9, .pointer (some ⟨b53, 0, none⟩)), (11, .pointer (some ⟨b58, 0, none⟩)), (12, .slice A73 r64.1.length c74), (43, .slice A2 l2.length c2), (44, .int .i64 (l2.length : Int)), (45, .int .i64 x45_l1), (121, .bool true), (125, .bool ((r64.1.length : Int) != 256))]) kr ?_
           refine WD.split 125 (b := ((r64.1.length : Int) != 256)) kr (fun hb192 => ?_) (fun hb192 => ?_)
           ·replace H := ite_t H hb192
            refine WD.weaken [8, 9, 11, 12, 43, 44, 45, 121, 125] (L' := [(8, .pointer (some ⟨b48, 0, none⟩)), (9, .pointer (some ⟨b53, 0, none⟩)), (11, .pointer (some ⟨b58, 0, none⟩)), (12, .slice A73 r64.1.length c74), (43, .slice A2 l2.length c2), (44, .int .i64 (l2.length : Int)), (45, .int .i64 x45_l1), (121, .bool true), (125, .bool true)]) kr ?_
            refine WD.skip (i := 7) kr kr ?_
            refine WD.weaken [8, 9, 11, 12, 43, 44, 45, 121, 125, 126] (L' := [(8, .pointer (some ⟨b48, 0, none⟩)), (9, .pointer (some ⟨b53, 0, none⟩)), (11, .pointer (some ⟨b58, 0, none⟩)), (12, .slice A73 r64.1.length c74), (43, .slice A2 l2.length c2), (44, .int .i64 (l2.length : Int)), (45, .int .i64 x45_l1), (121, .bool true), (125, .bool true), (126, undef)]) kr ?_
            refine WD.skip (i := 8) kr kr ?_
            refine WD.weaken [8, 9, 11, 12, 43, 44, 45, 121, 125, 127] (L' := [(8, .pointer (some ⟨b48, 0, none⟩)), (9, .pointer (some ⟨b53, 0, none⟩)), (11, .pointer (some ⟨b58, 0, none⟩)), (12, .slice A73 r64.1.length c74), (43, .slice A2 l2.length c2), (44, .int .i64 (l2.length : Int)), (45, .int .i64 x45_l1), (121, .bool true), (125, .bool true), (127, undef)]) kr ?_
            refine WD.skip (i := 9) kr kr ?_
            refine WD.weaken [8, 9, 11, 12, 43, 44, 45, 121, 125, 128] (L' := [(8, .pointer (some ⟨b48, 0, none⟩)), (9, .pointer (some ⟨b53, 0, none⟩)), (11, .pointer (some ⟨b58, 0, none⟩)), (12, .slice A73 r64.1.length c74), (43, .slice A2 l2.length c2), (44, .int .i64 (l2.length : Int)), (45, .int .i64 x45_l1), (121, .bool true), (125, .bool true), (128, undef)]) kr ?_
            refine WD.skip (i := 10) kr kr ?_
            refine WD.weaken [8, 9, 11, 12, 43, 44, 45, 121, 125, 129] (L' := [(8, .pointer (some ⟨b48, 0, none⟩)), (9, .pointer (some ⟨b53, 0, none⟩)), (11, .pointer (some ⟨b58, 0, none⟩)), (12, .slice A73 r64.1.length c74), (43, .slice A2 l2.length c2), (44, .int .i64 (l2.length : Int)), (45, .int .i64 x45_l1), (121, .bool true), (125, .bool true), (129, undef)]) kr ?_
            refine WD.skip (i := 11) kr kr ?_
            refine WD.weaken [8, 9, 11, 12, 43, 44, 45, 121, 125, 129, 130] (L' := [(8, .pointer (some ⟨b48, 0, none⟩)), (9, .pointer (some ⟨b53, 0, none⟩)), (11, .pointer (some ⟨b58, 0, none⟩)), (12, .slice A73 r64.1.length c74), (43, .slice A2 l2.length c2), (44, .int .i64 (l2.length : Int)), (45, .int .i64 x45_l1), (121, .bool true), (125, .bool true), (129, undef), (130, undef)]) kr ?_
            refine WD.skip (i := 12) kr kr ?_
            refine WD.weaken [8, 9, 11, 12, 43, 44, 45, 121, 125, 129, 131] (L' := [(8, .pointer (some ⟨b48, 0, none⟩)), (9, .pointer (some ⟨b53, 0, none⟩)), (11, .pointer (some ⟨b58, 0, none⟩)), (12, .slice A73 r64.1.length c74), (43, .slice A2 l2.length c2), (44, .int .i64 (l2.length : Int)), (45, .int .i64 x45_l1), (121, .bool true), (125, .bool true), (129, undef), (131, undef)]) kr ?_
            refine WD.skip (i := 13) kr kr ?_
            refine WD.weaken [8, 9, 11, 12, 43, 44, 45, 121, 125, 129, 132] (L' := [(8, .pointer (some ⟨b48, 0, none⟩)), (9, .pointer (some ⟨b53, 0, none⟩)), (11, .pointer (some ⟨b58, 0, none⟩)), (12, .slice A73 r64.1.length c74), (43, .slice A2 l2.length c2), (44, .int .i64 (l2.length : Int)), (45, .int .i64 x45_l1), (121, .bool true), (125, .bool true), (129, undef), (132, undef)]) kr ?_
            refine WD.skip (i := 14) kr kr ?_
            refine WD.weaken [8, 9, 11, 12, 43, 44, 45, 121, 125, 129, 133] (L' := [(8, .pointer (some ⟨b48, 0, none⟩)), (9, .pointer (some ⟨b53, 0, none⟩)), (11, .pointer (some ⟨b58, 0, none⟩)), (12, .slice A73 r64.1.length c74), (43, .slice A2 l2.length c2), (44, .int .i64 (l2.length : Int)), (45, .int .i64 x45_l1), (121, .bool true), (125, .bool true), (129, undef), (133, undef)]) kr ?_
            refine WD.skip (i := 15) kr kr ?_
            refine WD.weaken [8, 9, 12, 43, 44, 45, 121, 125, 129, 133, 134] (L' := [(8, .pointer (some ⟨b48, 0, none⟩)), (9, .pointer (some ⟨b53, 0, none⟩)), (12, .slice A73 r64.1.length c74), (43, .slice A2 l2.length c2), (44, .int .i64 (l2.length : Int)), (45, .int .i64 x45_l1), (121, .bool true), (125, .bool true), (129, undef), (133, undef), (134, undef)]) kr ?_
            refine WD.skip (i := 16) kr kr ?_
            refine WD.weaken [8, 9, 12, 43, 44, 45, 121, 125, 129, 133, 135] (L' := [(8, .pointer (some ⟨b48, 0, none⟩)), (9, .pointer (some ⟨b53, 0, none⟩)), (12, .slice A73 r64.1.length c74), (43, .slice A2 l2.length c2), (44, .int .i64 (l2.length : Int)), (45, .int .i64 x45_l1), (121, .bool true), (125, .bool true), (129, undef), (133, undef), (135, undef)]) kr ?_
            refine WD.skip (i := 17) kr kr ?_
            refine WD.weaken [8, 9, 12, 43, 44, 45, 121, 125, 129, 136] (L' := [(8, .pointer (some ⟨b48, 0, none⟩)), (9, .pointer (some ⟨b53, 0, none⟩)), (12, .slice A73 r64.1.length c74), (43, .slice A2 l2.length c2), (44, .int .i64 (l2.length : Int)), (45, .int .i64 x45_l1), (121, .bool true), (125, .bool true), (129, undef), (136, undef)]) kr ?_
            refine WD.skip (i := 18) kr kr ?_
            refine WD.weaken [8, 9, 12, 43, 44, 45, 121, 125, 137] (L' := [(8, .pointer (some ⟨b48, 0, none⟩)), (9, .pointer (some ⟨b53, 0, none⟩)), (12, .slice A73 r64.1.length c74), (43, .slice A2 l2.length c2), (44, .int .i64 (l2.length : Int)), (45, .int .i64 x45_l1), (121, .bool true), (125, .bool true), (137, undef)]) kr ?_
            refine WD.pure (i := 19) (v := .bool true) kr kr (fun _ => by kernel_rfl) ?_
            refine WD.weaken [8, 9, 12, 43, 44, 45, 121, 138] (L' := [(8, .pointer (some ⟨b48, 0, none⟩)), (9, .pointer (some ⟨b53, 0, none⟩)), (12, .slice A73 r64.1.length c74), (43, .slice A2 l2.length c2), (44, .int .i64 (l2.length : Int)), (45, .int .i64 x45_l1), (121, .bool true), (138, .bool true)]) kr ?_
            refine WD.pure (i := 20) (v := .bool true) kr kr (fun _ => by kernel_rfl) ?_
            refine WD.weaken [8, 9, 12, 43, 44, 45, 139] (L' := [(8, .pointer (some ⟨b48, 0, none⟩)), (9, .pointer (some ⟨b53, 0, none⟩)), (12, .slice A73 r64.1.length c74), (43, .slice A2 l2.length c2), (44, .int .i64 (l2.length : Int)), (45, .int .i64 x45_l1), (139, .bool true)]) kr ?_
            refine WD.nil kr ?_
            refine At.go ?_
            refine WC.condT kr kr kr ?_
            refine WC.seq kr ?_
            refine WC.reg [0] kr kr ?_
            refine WR.runk [0] [] [6] (L' := [(6, .bool false)]) (w' := w189) kr ?_
            refine WR.nil ?_
            refine At.go ?_
            refine WC.ret kr ?_
            refine At.thenRet ?_
            refine At.blockRet ?_
            refine At.thenRet ?_
            refine At.blockRet ?_
            refine At.thenRet ?_
            refine At.thenRet ?_
            obtain rfl := Option.some.inj H
            have hS : Sat w189 (rf w0) [O66 b48 r64.2.2.2, O40 b53 r75.2.2] := hS.sel [1, 0] kr
            refine At.weaken [6] (L' := [(6, .bool false)]) kr ?_
            exact hn1 (false, r64.2.2.2, r75.2.2) _ rfl hS
           ·replace H := ite_f H hb192
            refine WD.weaken [8, 9, 11, 12, 43, 44, 45, 121, 125] (L' := [(8, .pointer (some ⟨b48, 0, none⟩)), (9, .pointer (some ⟨b53, 0, none⟩)), (11, .pointer (some ⟨b58, 0, none⟩)), (12, .slice A73 r64.1.length c74), (43, .slice A2 l2.length c2), (44, .int .i64 (l2.length : Int)), (45, .int .i64 x45_l1), (121, .bool true), (125, .bool false)]) kr ?_
            refine WD.pure (i := 7) (v := .pointer (some ⟨b58, 1, none⟩)) kr kr (fun _ => by kernel_rfl) ?_
            refine WD.weaken [8, 9, 11, 12, 43, 44, 45, 121, 125, 126] (L' := [(8, .pointer (some ⟨b48, 0, none⟩)), (9, .pointer (some ⟨b53, 0, none⟩)), (11, .pointer (some ⟨b58, 0, none⟩)), (12, .slice A73 r64.1.length c74), (43, .slice A2 l2.length c2), (44, .int .i64 (l2.length : Int)), (45, .int .i64 x45_l1), (121, .bool true), (125, .bool false), (126, .pointer (some ⟨b58, 1, none⟩))]) kr ?_
            refine WD.ofR (i := 8) kr (RSt.loadObj (t := 3) (k := 1) (v := .int .i64 v56.2) (.tmp 126) kr kr kr 3 hS rfl kr rfl ?_)
            refine WD.weaken [8, 9, 11, 12, 43, 44, 45, 121, 125, 127] (L' := [(8, .pointer (some ⟨b48, 0, none⟩)), (9, .pointer (some ⟨b53, 0, none⟩)), (11, .pointer (some ⟨b58, 0, none⟩)), (12, .slice A73 r64.1.length c74), (43, .slice A2 l2.length c2), (44, .int .i64 (l2.length : Int)), (45, .int .i64 x45_l1), (121, .bool true), (125, .bool false), (127, .int .i64 v56.2)]) kr ?_
            refine WD.pure (i := 9) (v := .bool (decide (v56.2 > 0))) kr kr (fun _ => by kernel_rfl) ?_
            refine WD.weaken [8, 9, 11, 12, 43, 44, 45, 121, 125, 128] (L' := [(8, .pointer (some ⟨b48, 0, none⟩)), (9, .pointer (some ⟨b53, 0, none⟩)), (11, .pointer (some ⟨b58, 0, none⟩)), (12, .slice A73 r64.1.length c74), (43, .slice A2 l2.length c2), (44, .int .i64 (l2.length : Int)), (45, .int .i64 x45_l1), (121, .bool true), (125, .bool false), (128, .bool (decide (v56.2 > 0)))]) kr ?_
            refine WD.pure (i := 10) (v := .bool (decide (v56.2 > 0))) kr kr (fun _ => by kernel_rfl) ?_
            refine WD.weaken [8, 9, 11, 12, 43, 44, 45, 121, 125, 129] (L' := [(8, .pointer (some ⟨b48, 0, none⟩)), (9, .pointer (some ⟨b53, 0, none⟩)), (11, .pointer (some ⟨b58, 0, none⟩)), (12, .slice A73 r64.1.length c74), (43, .slice A2 l2.length c2), (44, .int .i64 (l2.length : Int)), (45, .int .i64 x45_l1), (121, .bool true), (125, .bool false), (129, .bool (decide (v56.2 > 0)))]) kr ?_
            refine WD.split 129 (b := decide (v56.2 > 0)) kr (fun hb193 => ?_) (fun hb193 => ?_)
            ·replace H := ite_t H hb193
             refine WD.weaken [8, 9, 11, 12, 43, 44, 45, 121, 125, 129] (L' := [(8, .pointer (some ⟨b48, 0, none⟩)), (9, .pointer (some ⟨b53, 0, none⟩)), (11, .pointer (some ⟨b58, 0, none⟩)), (12, .slice A73 r64.1.length c74), (43, .slice A2 l2.length c2), (44, .int .i64 (l2.length : Int)), (45, .int .i64 x45_l1), (121, .bool true), (125, .bool false), (129, .bool true)]) kr ?_
             refine WD.pure (i := 11) (v := .slice A73 r64.1.length c74) kr kr (fun _ => by kernel_rfl) ?_
             refine WD.weaken [8, 9, 11, 12, 43, 44, 45, 121, 125, 129, 130] (L' := [(8, .pointer (some ⟨b48, 0, none⟩)), (9, .pointer (some ⟨b53, 0, none⟩)), (11, .pointer (some ⟨b58, 0, none⟩)), (12, .slice A73 r64.1.length c74), (43, .slice A2 l2.length c2), (44, .int .i64 (l2.length : Int)), (45, .int .i64 x45_l1), (121, .bool true), (125, .bool false), (129, .bool true), (130, .slice A73 r64.1.length c74)]) kr ?_
             obtain ⟨v194, e195, H⟩ := bind_ex H
             refine WD.ofP (i := 12) kr (PSt.idx (k := .i64) (.tmp 130) (.const (.int .i64 0)) kr kr E31 kr kr (Sat.rdAt 2 hS rfl) e195 ?_)
             refine WD.weaken [8, 9, 11, 12, 43, 44, 45, 121, 125, 129, 131] (L' := [(8, .pointer (some ⟨b48, 0, none⟩)), (9, .pointer (some ⟨b53, 0, none⟩)), (11, .pointer (some ⟨b58, 0, none⟩)), (12, .slice A73 r64.1.length c74), (43, .slice A2 l2.length c2), (44, .int .i64 (l2.length : Int)), (45, .int .i64 x45_l1), (121, .bool true), (125, .bool false), (129, .bool true), (131, .pointer (some (adr A73 (0 : Int).toNat 1)))]) kr ?_
             refine WD.ofR (i := 13) kr (RSt.loadInt (t := 5) (.tmp 131) kr kr kr kr (Sat.rdAt 2 hS rfl) e195 ?_)
             refine WD.weaken [8, 9, 11, 12, 43, 44, 45, 121, 125, 129, 132] (L' := [(8, .pointer (some ⟨b48, 0, none⟩)), (9, .pointer (some ⟨b53, 0, none⟩)), (11, .pointer (some ⟨b58, 0, none⟩)), (12, .slice A73 r64.1.length c74), (43, .slice A2 l2.length c2), (44, .int .i64 (l2.length : Int)), (45, .int .i64 x45_l1), (121, .bool true), (125, .bool false), (129, .bool true), (132, .int .u8 v194)]) kr ?_
             refine WD.pure (i := 14) (v := .int .i64 (wi v194)) kr kr (fun _ => by kernel_rfl) ?_
             refine WD.weaken [8, 9, 11, 12, 43, 44, 45, 121, 125, 129, 133] (L' := [(8, .pointer (some ⟨b48, 0, none⟩)), (9, .pointer (some ⟨b53, 0, none⟩)), (11, .pointer (some ⟨b58, 0, none⟩)), (12, .slice A73 r64.1.length c74), (43, .slice A2 l2.length c2), (44, .int .i64 (l2.length : Int)), (45, .int .i64 x45_l1), (121, .bool true), (125, .bool false), (129, .bool true), (133, .int .i64 (wi v194))]) kr ?_
             refine WD.pure (i := 15) (v := .pointer (some ⟨b58, 1, none⟩)) kr kr (fun _ => by kernel_rfl) ?_
             refine WD.weaken [8, 9, 12, 43, 44, 45, 121, 125, 129, 133, 134] (L' := [(8, .pointer (some ⟨b48, 0, none⟩)), (9, .pointer (some ⟨b53, 0, none⟩)), (12, .slice A73 r64.1.length c74), (43, .slice A2 l2.length c2), (44, .int .i64 (l2.length : Int)), (45, .int .i64 x45_l1), (121, .bool true), (125, .bool false), (129, .bool true), (133, .int .i64 (wi v194)), (134, .pointer (some ⟨b58, 1, none⟩))]) kr ?_
             refine WD.ofR (i := 16) kr (RSt.loadObj (t := 3) (k := 1) (v := .int .i64 v56.2) (.tmp 134) kr kr kr 3 hS rfl kr rfl ?_)
             refine WD.weaken [8, 9, 12, 43, 44, 45, 121, 125, 129, 133, 135] (L' := [(8, .pointer (some ⟨b48, 0, none⟩)), (9, .pointer (some ⟨b53, 0, none⟩)), (12, .slice A73 r64.1.length c74), (43, .slice A2 l2.length c2), (44, .int .i64 (l2.length : Int)), (45, .int .i64 x45_l1), (121, .bool true), (125, .bool false), (129, .bool true), (133, .int .i64 (wi v194)), (135, .int .i64 v56.2)]) kr ?_
             refine WD.pure (i := 17) (v := .bool ((wi v194) != v56.2)) kr kr (fun _ => by kernel_rfl) ?_
             refine WD.weaken [8, 9, 12, 43, 44, 45, 121, 125, 129, 136] (L' := [(8, .pointer (some ⟨b48, 0, none⟩)), (9, .pointer (some ⟨b53, 0, none⟩)), (12, .slice A73 r64.1.length c74), (43, .slice A2 l2.length c2), (44, .int .i64 (l2.length : Int)), (45, .int .i64 x45_l1), (121, .bool true), (125, .bool false), (129, .bool true), (136, .bool ((wi v194) != v56.2))]) kr ?_
             refine WD.pure (i := 18) (v := .bool ((wi v194) != v56.2)) kr kr (fun _ => by kernel_rfl) ?_
             refine WD.weaken [8, 9, 12, 43, 44, 45, 121, 125, 137] (L' := [(8, .pointer (some ⟨b48, 0, none⟩)), (9, .pointer (some ⟨b53, 0, none⟩)), (12, .slice A73 r64.1.length c74), (43, .slice A2 l2.length c2), (44, .int .i64 (l2.length : Int)), (45, .int .i64 x45_l1), (121, .bool true), (125, .bool false), (137, .bool ((wi v194) != v56.2))]) kr ?_
             refine WD.pure (i := 19) (v := .bool ((wi v194) != v56.2)) kr kr (fun _ => by kernel_rfl) ?_
             refine WD.weaken [8, 9, 12, 43, 44, 45, 121, 138] (L' := [(8, .pointer (some ⟨b48, 0, none⟩)), (9, .pointer (some ⟨b53, 0, none⟩)), (12, .slice A73 r64.1.length c74), (43, .slice A2 l2.length c2), (44, .int .i64 (l2.length : Int)), (45, .int .i64 x45_l1), (121, .bool true), (138, .bool ((wi v194) != v56.2))]) kr ?_
             refine WD.pure (i := 20) (v := .bool ((wi v194) != v56.2)) kr kr (fun _ => by kernel_rfl) ?_
             refine WD.weaken [8, 9, 12, 43, 44, 45, 139] (L' := [(8, .pointer (some ⟨b48, 0, none⟩)), (9, .pointer (some ⟨b53, 0, none⟩)), (12, .slice A73 r64.1.length c74), (43, .slice A2 l2.length c2), (44, .int .i64 (l2.length : Int)), (45, .int .i64 x45_l1), (139, .bool ((wi v194) != v56.2))]) kr ?_
             refine WD.nil kr ?_
             refine At.go ?_
             refine WC.cond kr ((wi v194) != v56.2) kr kr (fun hb196 => ?_) (fun hb196 => ?_)
             ·replace H := ite_t H hb196
              refine WC.seq kr ?_
              refine WC.reg [0] kr kr ?_
              refine WR.runk [0] [] [6] (L' := [(6, .bool false)]) (w' := w189) kr ?_
              refine WR.nil ?_
              refine At.go ?_
              refine WC.ret kr ?_
              refine At.thenRet ?_
              refine At.blockRet ?_
              refine At.thenRet ?_
              refine At.blockRet ?_
              refine At.thenRet ?_
              refine At.thenRet ?_
              obtain rfl := Option.some.inj H
              have hS : Sat w189 (rf w0) [O66 b48 r64.2.2.2, O40 b53 r75.2.2] := hS.sel [1, 0] kr
              refine At.weaken [6] (L' := [(6, .bool false)]) kr ?_
              exact hn1 (false, r64.2.2.2, r75.2.2) _ rfl hS
             ·replace H := ite_f H hb196
              refine WC.skip kr ?_
              refine At.go ?_
              refine WC.seq kr ?_
              refine WC.reg [0, 1, 2] kr kr ?_
              refine WR.runk [0, 1, 2] [] [8, 9, 12, 43, 44, 45, 141, 142] (L' := [(8, .pointer (some ⟨b48, 0, none⟩)), (9, .pointer (some ⟨b53, 0, none⟩)), (12, .slice A73 r64.1.length c74), (43, .slice A2 l2.length c2), (44, .int .i64 (l2.length : Int)), (45, .int .i64 x45_l1), (141, .int .i64 (r64.1.length : Int)), (142, .int .i64 0)]) (w' := w189) kr ?_
              refine WR.nil ?_
              refine At.go ?_
              refine WC.block kr ?_
              have hS : Sat w189 (rf w0) [osl 5 (r0 (.int .u8)) 1 A73 c74 r64.1, O66 b48 r64.2.2.2, O40 b53 r75.2.2] := hS.sel [2, 1, 0] kr
              obtain ⟨o204, e205, H⟩ := bind_ex H
              refine WC.loop kr ?_
              refine WL.weaken [8, 9, 12, 43, 44, 45, 141, 142] (L' := [(8, .pointer (some ⟨b48, 0, none⟩)), (9, .pointer (some ⟨b53, 0, none⟩)), (12, .slice A73 r64.1.length c74), (43, .slice A2 l2.length c2), (44, .int .i64 (l2.length : Int)), (45, .int .i64 x45_l1), (141, .int .i64 (r64.1.length : Int)), (142, .int .i64 0)]) kr ?_
              refine colophonlaw07_CachePlays.l5_ok w0 A2 c2 l2 b48 b53 x45_l1 r64 r75 o204 (fun w207 hS => ?_) FU r64.1 0 A73 c74 _ hS e205
              refine At.hit ?_
              refine At.blockNormal ?_
              refine At.go ?_
              refine WC.seq kr ?_
              refine WC.reg [0, 1, 2, 3, 4] kr kr ?_
              refine WR.runk [0] [1, 2, 3, 4] [8, 9, 43, 44, 45, 163] (L' := [(8, .pointer (some ⟨b48, 0, none⟩)), (9, .pointer (some ⟨b53, 0, none⟩)), (43, .slice A2 l2.length c2), (44, .int .i64 (l2.length : Int)), (45, .int .i64 x45_l1), (163, .pointer (some ⟨b48, 0, none⟩))]) (w' := w207) kr ?_
              obtain ⟨r209, e210, H⟩ := bind_ex H
              refine WR.st (St.call kr (f := 15) (args := #[.pointer (some ⟨b48, 0, none⟩)]) kr (cache_Cache_Stats.calls w207 (.pointer (some ⟨b48, 0, none⟩)) (some r64.2.2.2) (Sat.rdAny 0 hS rfl (fun _ h => O66.rd _ _ _ h)) r209 e210) ?_)
              rintro _ w216 ⟨rfl, hS217⟩
              have hS : Sat w216 (rf w0) [O66 b48 r64.2.2.2, O40 b53 r75.2.2] := hS.ext hS217
              refine WR.runk [2] [3, 4] [8, 9, 43, 44, 45, 164, 165] (L' := [(8, .pointer (some ⟨b48, 0, none⟩)), (9, .pointer (some ⟨b53, 0, none⟩)), (43, .slice A2 l2.length c2), (44, .int .i64 (l2.length : Int)), (45, .int .i64 x45_l1), (164, .agg #[.int .i64 r209.1, .int .i64 r209.2.1, .int .i64 r209.2.2.1, .int .i64 r209.2.2.2]), (165, .pointer (some ⟨b53, 0, none⟩))]) (w' := w216) kr ?_
              obtain ⟨r218, e219, H⟩ := bind_ex H
              refine WR.st (St.call kr (f := 16) (args := #[.pointer (some ⟨b53, 0, none⟩)]) kr (colophonref07_Cache_Stats.calls w216 (.pointer (some ⟨b53, 0, none⟩)) (some r75.2.2) (Sat.rdAny 1 hS rfl (fun _ h => O40.rd _ _ _ h)) r218 e219) ?_)
              rintro _ w225 ⟨rfl, hS226⟩
              have hS : Sat w225 (rf w0) [O66 b48 r64.2.2.2, O40 b53 r75.2.2] := hS.ext hS226
              refine WR.runk [] [4] [8, 9, 43, 44, 45, 164, 166] (L' := [(8, .pointer (some ⟨b48, 0, none⟩)), (9, .pointer (some ⟨b53, 0, none⟩)), (43, .slice A2 l2.length c2), (44, .int .i64 (l2.length : Int)), (45, .int .i64 x45_l1), (164, .agg #[.int .i64 r209.1, .int .i64 r209.2.1, .int .i64 r209.2.2.1, .int .i64 r209.2.2.2]), (166, .agg #[.int .i64 r218.1, .int .i64 r218.2.1, .int .i64 r218.2.2.1, .int .i64 r218.2.2.2])]) (w' := w225) kr ?_
              refine WR.st (St.ofP (PSt.eqInts (t := 44) (t2 := 44) (X := ([r209.1, r209.2.1, r209.2.2.1, r209.2.2.2] : List Int)) (Y := ([r218.1, r218.2.1, r218.2.2.1, r218.2.2.2] : List Int)) .neq (by decide) (.tmp 164) (.tmp 166) kr kr kr kr kr kr kr kr kr kr ?_))
              refine WR.runk [] [] [8, 9, 43, 44, 45, 167] (L' := [(8, .pointer (some ⟨b48, 0, none⟩)), (9, .pointer (some ⟨b53, 0, none⟩)), (43, .slice A2 l2.length c2), (44, .int .i64 (l2.length : Int)), (45, .int .i64 x45_l1), (167, .bool (!(([r209.1, r209.2.1, r209.2.2.1, r209.2.2.2] : List Int) == ([r218.1, r218.2.1, r218.2.2.1, r218.2.2.2] : List Int))))]) (w' := w225) kr ?_
              refine WR.nil ?_
              refine At.go ?_
              refine WC.cond kr (!(([r209.1, r209.2.1, r209.2.2.1, r209.2.2.2] : List Int) == ([r218.1, r218.2.1, r218.2.2.1, r218.2.2.2] : List Int))) kr kr (fun hb227 => ?_) (fun hb227 => ?_)
              ·replace H := ite_t H hb227
               refine WC.seq kr ?_
               refine WC.reg [0] kr kr ?_
               refine WR.runk [0] [] [6] (L' := [(6, .bool false)]) (w' := w225) kr ?_
               refine WR.nil ?_
               refine At.go ?_
               refine WC.ret kr ?_
               refine At.blockRet ?_
               refine At.thenRet ?_
               refine At.thenRet ?_
               obtain rfl := Option.some.inj H
               have hS : Sat w225 (rf w0) [O66 b48 r64.2.2.2, O40 b53 r75.2.2] := hS.sel [0, 1] kr
               refine At.weaken [6] (L' := [(6, .bool false)]) kr ?_
               exact hn1 (false, r64.2.2.2, r75.2.2) _ rfl hS
              ·replace H := ite_f H hb227
               refine WC.skip kr ?_
               refine At.blockNormal ?_
               refine At.go ?_
               refine WC.reg [0, 1] kr kr ?_
               refine WR.runk [0, 1] [] [8, 9, 43, 44, 45] (L' := [(8, .pointer (some ⟨b48, 0, none⟩)), (9, .pointer (some ⟨b53, 0, none⟩)), (43, .slice A2 l2.length c2), (44, .int .i64 (l2.length : Int)), (45, .int .i64 (wi (x45_l1 + 1)))]) (w' := w225) kr ?_
               refine WR.nil ?_
               have hS : Sat w225 (rf w0) [O66 b48 r64.2.2.2, O40 b53 r75.2.2] := hS.sel [0, 1] kr
               refine At.again ?_
               refine WL.weaken [8, 9, 43, 44, 45] (L' := [(8, .pointer (some ⟨b48, 0, none⟩)), (9, .pointer (some ⟨b53, 0, none⟩)), (43, .slice A2 l2.length c2), (44, .int .i64 (l2.length : Int)), (45, .int .i64 (wi (x45_l1 + 1)))]) kr ?_
               exact ih (wi (x45_l1 + 1)) r64.2.2.2 r75.2.2 _ hS H
            ·replace H := ite_f H hb193
             refine WD.weaken [8, 9, 11, 12, 43, 44, 45, 121, 125, 129] (L' := [(8, .pointer (some ⟨b48, 0, none⟩)), (9, .pointer (some ⟨b53, 0, none⟩)), (11, .pointer (some ⟨b58, 0, none⟩)), (12, .slice A73 r64.1.length c74), (43, .slice A2 l2.length c2), (44, .int .i64 (l2.length : Int)), (45, .int .i64 x45_l1), (121, .bool true), (125, .bool false), (129, .bool false)]) kr ?_
             refine WD.skip (i := 11) kr kr ?_
             refine WD.weaken [8, 9, 11, 12, 43, 44, 45, 121, 125, 129, 130] (L' := [(8, .pointer (some ⟨b48, 0, none⟩)), (9, .pointer (some ⟨b53, 0, none⟩)), (11, .pointer (some ⟨b58, 0, none⟩)), (12, .slice A73 r64.1.length c74), (43, .slice A2 l2.length c2), (44, .int .i64 (l2.length : Int)), (45, .int .i64 x45_l1), (121, .bool true), (125, .bool false), (129, .bool false), (130, undef)]) kr ?_
             refine WD.skip (i := 12) kr kr ?_
             refine WD.weaken [8, 9, 11, 12, 43, 44, 45, 121, 125, 129, 131] (L' := [(8, .pointer (some ⟨b48, 0, none⟩)), (9, .pointer (some ⟨b53, 0, none⟩)), (11, .pointer (some ⟨b58, 0, none⟩)), (12, .slice A73 r64.1.length c74), (43, .slice A2 l2.length c2), (44, .int .i64 (l2.length : Int)), (45, .int .i64 x45_l1), (121, .bool true), (125, .bool false), (129, .bool false), (131, undef)]) kr ?_
             refine WD.skip (i := 13) kr kr ?_
             refine WD.weaken [8, 9, 11, 12, 43, 44, 45, 121, 125, 129, 132] (L' := [(8, .pointer (some ⟨b48, 0, none⟩)), (9, .pointer (some ⟨b53, 0, none⟩)), (11, .pointer (some ⟨b58, 0, none⟩)), (12, .slice A73 r64.1.length c74), (43, .slice A2 l2.length c2), (44, .int .i64 (l2.length : Int)), (45, .int .i64 x45_l1), (121, .bool true), (125, .bool false), (129, .bool false), (132, undef)]) kr ?_
             refine WD.skip (i := 14) kr kr ?_
             refine WD.weaken [8, 9, 11, 12, 43, 44, 45, 121, 125, 129, 133] (L' := [(8, .pointer (some ⟨b48, 0, none⟩)), (9, .pointer (some ⟨b53, 0, none⟩)), (11, .pointer (some ⟨b58, 0, none⟩)), (12, .slice A73 r64.1.length c74), (43, .slice A2 l2.length c2), (44, .int .i64 (l2.length : Int)), (45, .int .i64 x45_l1), (121, .bool true), (125, .bool false), (129, .bool false), (133, undef)]) kr ?_
             refine WD.skip (i := 15) kr kr ?_
             refine WD.weaken [8, 9, 12, 43, 44, 45, 121, 125, 129, 133, 134] (L' := [(8, .pointer (some ⟨b48, 0, none⟩)), (9, .pointer (some ⟨b53, 0, none⟩)), (12, .slice A73 r64.1.length c74), (43, .slice A2 l2.length c2), (44, .int .i64 (l2.length : Int)), (45, .int .i64 x45_l1), (121, .bool true), (125, .bool false), (129, .bool false), (133, undef), (134, undef)]) kr ?_
             refine WD.skip (i := 16) kr kr ?_
             refine WD.weaken [8, 9, 12, 43, 44, 45, 121, 125, 129, 133, 135] (L' := [(8, .pointer (some ⟨b48, 0, none⟩)), (9, .pointer (some ⟨b53, 0, none⟩)), (12, .slice A73 r64.1.length c74), (43, .slice A2 l2.length c2), (44, .int .i64 (l2.length : Int)), (45, .int .i64 x45_l1), (121, .bool true), (125, .bool false), (129, .bool false), (133, undef), (135, undef)]) kr ?_
             refine WD.skip (i := 17) kr kr ?_
             refine WD.weaken [8, 9, 12, 43, 44, 45, 121, 125, 129, 136] (L' := [(8, .pointer (some ⟨b48, 0, none⟩)), (9, .pointer (some ⟨b53, 0, none⟩)), (12, .slice A73 r64.1.length c74), (43, .slice A2 l2.length c2), (44, .int .i64 (l2.length : Int)), (45, .int .i64 x45_l1), (121, .bool true), (125, .bool false), (129, .bool false), (136, undef)]) kr ?_
             refine WD.pure (i := 18) (v := .bool false) kr kr (fun _ => by kernel_rfl) ?_
             refine WD.weaken [8, 9, 12, 43, 44, 45, 121, 125, 137] (L' := [(8, .pointer (some ⟨b48, 0, none⟩)), (9, .pointer (some ⟨b53, 0, none⟩)), (12, .slice A73 r64.1.length c74), (43, .slice A2 l2.length c2), (44, .int .i64 (l2.length : Int)), (45, .int .i64 x45_l1), (121, .bool true), (125, .bool false), (137, .bool false)]) kr ?_
             refine WD.pure (i := 19) (v := .bool false) kr kr (fun _ => by kernel_rfl) ?_
             refine WD.weaken [8, 9, 12, 43, 44, 45, 121, 138] (L' := [(8, .pointer (some ⟨b48, 0, none⟩)), (9, .pointer (some ⟨b53, 0, none⟩)), (12, .slice A73 r64.1.length c74), (43, .slice A2 l2.length c2), (44, .int .i64 (l2.length : Int)), (45, .int .i64 x45_l1), (121, .bool true), (138, .bool false)]) kr ?_
             refine WD.pure (i := 20) (v := .bool false) kr kr (fun _ => by kernel_rfl) ?_
             refine WD.weaken [8, 9, 12, 43, 44, 45, 139] (L' := [(8, .pointer (some ⟨b48, 0, none⟩)), (9, .pointer (some ⟨b53, 0, none⟩)), (12, .slice A73 r64.1.length c74), (43, .slice A2 l2.length c2), (44, .int .i64 (l2.length : Int)), (45, .int .i64 x45_l1), (139, .bool false)]) kr ?_
             refine WD.nil kr ?_
             refine At.go ?_
             refine WC.condF kr kr kr ?_
             refine WC.skip kr ?_
             refine At.go ?_
             refine WC.seq kr ?_
             refine WC.reg [0, 1, 2] kr kr ?_
             refine WR.runk [0, 1, 2] [] [8, 9, 12, 43, 44, 45, 141, 142] (L' := [(8, .pointer (some ⟨b48, 0, none⟩)), (9, .pointer (some ⟨b53, 0, none⟩)), (12, .slice A73 r64.1.length c74), (43, .slice A2 l2.length c2), (44, .int .i64 (l2.length : Int)), (45, .int .i64 x45_l1), (141, .int .i64 (r64.1.length : Int)), (142, .int .i64 0)]) (w' := w189) kr ?_
             refine WR.nil ?_
             refine At.go ?_
             refine WC.block kr ?_
             have hS : Sat w189 (rf w0) [osl 5 (r0 (.int .u8)) 1 A73 c74 r64.1, O66 b48 r64.2.2.2, O40 b53 r75.2.2] := hS.sel [2, 1, 0] kr
             obtain ⟨o235, e236, H⟩ := bind_ex H
             refine WC.loop kr ?_
             refine WL.weaken [8, 9, 12, 43, 44, 45, 141, 142] (L' := [(8, .pointer (some ⟨b48, 0, none⟩)), (9, .pointer (some ⟨b53, 0, none⟩)), (12, .slice A73 r64.1.length c74), (43, .slice A2 l2.length c2), (44, .int .i64 (l2.length : Int)), (45, .int .i64 x45_l1), (141, .int .i64 (r64.1.length : Int)), (142, .int .i64 0)]) kr ?_
             refine colophonlaw07_CachePlays.l6_ok w0 A2 c2 l2 b48 b53 x45_l1 r64 r75 o235 (fun w238 hS => ?_) FU r64.1 0 A73 c74 _ hS e236
             refine At.hit ?_
             refine At.blockNormal ?_
             refine At.go ?_
             refine WC.seq kr ?_
             refine WC.reg [0, 1, 2, 3, 4] kr kr ?_
             refine WR.runk [0] [1, 2, 3, 4] [8, 9, 43, 44, 45, 163] (L' := [(8, .pointer (some ⟨b48, 0, none⟩)), (9, .pointer (some ⟨b53, 0, none⟩)), (43, .slice A2 l2.length c2), (44, .int .i64 (l2.length : Int)), (45, .int .i64 x45_l1), (163, .pointer (some ⟨b48, 0, none⟩))]) (w' := w238) kr ?_
             obtain ⟨r240, e241, H⟩ := bind_ex H
             refine WR.st (St.call kr (f := 15) (args := #[.pointer (some ⟨b48, 0, none⟩)]) kr (cache_Cache_Stats.calls w238 (.pointer (some ⟨b48, 0, none⟩)) (some r64.2.2.2) (Sat.rdAny 0 hS rfl (fun _ h => O66.rd _ _ _ h)) r240 e241) ?_)
             rintro _ w247 ⟨rfl, hS248⟩
             have hS : Sat w247 (rf w0) [O66 b48 r64.2.2.2, O40 b53 r75.2.2] := hS.ext hS248
             refine WR.runk [2] [3, 4] [8, 9, 43, 44, 45, 164, 165] (L' := [(8, .pointer (some ⟨b48, 0, none⟩)), (9, .pointer (some ⟨b53, 0, none⟩)), (43, .slice A2 l2.length c2), (44, .int .i64 (l2.length : Int)), (45, .int .i64 x45_l1), (164, .agg #[.int .i64 r240.1, .int .i64 r240.2.1, .int .i64 r240.2.2.1, .int .i64 r240.2.2.2]), (165, .pointer (some ⟨b53, 0, none⟩))]) (w' := w247) kr ?_
             obtain ⟨r249, e250, H⟩ := bind_ex H
             refine WR.st (St.call kr (f := 16) (args := #[.pointer (some ⟨b53, 0, none⟩)]) kr (colophonref07_Cache_Stats.calls w247 (.pointer (some ⟨b53, 0, none⟩)) (some r75.2.2) (Sat.rdAny 1 hS rfl (fun _ h => O40.rd _ _ _ h)) r249 e250) ?_)
             rintro _ w256 ⟨rfl, hS257⟩
             have hS : Sat w256 (rf w0) [O66 b48 r64.2.2.2, O40 b53 r75.2.2] := hS.ext hS257
             refine WR.runk [] [4] [8, 9, 43, 44, 45, 164, 166] (L' := [(8, .pointer (some ⟨b48, 0, none⟩)), (9, .pointer (some ⟨b53, 0, none⟩)), (43, .slice A2 l2.length c2), (44, .int .i64 (l2.length : Int)), (45, .int .i64 x45_l1), (164, .agg #[.int .i64 r240.1, .int .i64 r240.2.1, .int .i64 r240.2.2.1, .int .i64 r240.2.2.2]), (166, .agg #[.int .i64 r249.1, .int .i64 r249.2.1, .int .i64 r249.2.2.1, .int .i64 r249.2.2.2])]) (w' := w256) kr ?_
             refine WR.st (St.ofP (PSt.eqInts (t := 44) (t2 := 44) (X := ([r240.1, r240.2.1, r240.2.2.1, r240.2.2.2] : List Int)) (Y := ([r249.1, r249.2.1, r249.2.2.1, r249.2.2.2] : List Int)) .neq (by decide) (.tmp 164) (.tmp 166) kr kr kr kr kr kr kr kr kr kr ?_))
             refine WR.runk [] [] [8, 9, 43, 44, 45, 167] (L' := [(8, .pointer (some ⟨b48, 0, none⟩)), (9, .pointer (some ⟨b53, 0, none⟩)), (43, .slice A2 l2.length c2), (44, .int .i64 (l2.length : Int)), (45, .int .i64 x45_l1), (167, .bool (!(([r240.1, r240.2.1, r240.2.2.1, r240.2.2.2] : List Int) == ([r249.1, r249.2.1, r249.2.2.1, r249.2.2.2] : List Int))))]) (w' := w256) kr ?_
             refine WR.nil ?_
             refine At.go ?_
             refine WC.cond kr (!(([r240.1, r240.2.1, r240.2.2.1, r240.2.2.2] : List Int) == ([r249.1, r249.2.1, r249.2.2.1, r249.2.2.2] : List Int))) kr kr (fun hb258 => ?_) (fun hb258 => ?_)
             ·replace H := ite_t H hb258
              refine WC.seq kr ?_
              refine WC.reg [0] kr kr ?_
              refine WR.runk [0] [] [6] (L' := [(6, .bool false)]) (w' := w256) kr ?_
              refine WR.nil ?_
              refine At.go ?_
              refine WC.ret kr ?_
              refine At.blockRet ?_
              refine At.thenRet ?_
              refine At.thenRet ?_
              obtain rfl := Option.some.inj H
              have hS : Sat w256 (rf w0) [O66 b48 r64.2.2.2, O40 b53 r75.2.2] := hS.sel [0, 1] kr
              refine At.weaken [6] (L' := [(6, .bool false)]) kr ?_
              exact hn1 (false, r64.2.2.2, r75.2.2) _ rfl hS
             ·replace H := ite_f H hb258
              refine WC.skip kr ?_
              refine At.blockNormal ?_
              refine At.go ?_
              refine WC.reg [0, 1] kr kr ?_
              refine WR.runk [0, 1] [] [8, 9, 43, 44, 45] (L' := [(8, .pointer (some ⟨b48, 0, none⟩)), (9, .pointer (some ⟨b53, 0, none⟩)), (43, .slice A2 l2.length c2), (44, .int .i64 (l2.length : Int)), (45, .int .i64 (wi (x45_l1 + 1)))]) (w' := w256) kr ?_
              refine WR.nil ?_
              have hS : Sat w256 (rf w0) [O66 b48 r64.2.2.2, O40 b53 r75.2.2] := hS.sel [0, 1] kr
              refine At.again ?_
              refine WL.weaken [8, 9, 43, 44, 45] (L' := [(8, .pointer (some ⟨b48, 0, none⟩)), (9, .pointer (some ⟨b53, 0, none⟩)), (43, .slice A2 l2.length c2), (44, .int .i64 (l2.length : Int)), (45, .int .i64 (wi (x45_l1 + 1)))]) kr ?_
              exact ih (wi (x45_l1 + 1)) r64.2.2.2 r75.2.2 _ hS H
          ·replace H := ite_f H hb191
           refine WD.weaken [8, 9, 11, 12, 43, 44, 45, 121] (L' := [(8, .pointer (some ⟨b48, 0, none⟩)), (9, .pointer (some ⟨b53, 0, none⟩)), (11, .pointer (some ⟨b58, 0, none⟩)), (12, .slice A73 r64.1.length c74), (43, .slice A2 l2.length c2), (44, .int .i64 (l2.length : Int)), (45, .int .i64 x45_l1), (121, .bool false)]) kr ?_
           refine WD.skip (i := 3) kr kr ?_
           refine WD.weaken [8, 9, 11, 12, 43, 44, 45, 121, 122] (L' := [(8, .pointer (some ⟨b48, 0, none⟩)), (9, .pointer (some ⟨b53, 0, none⟩)), (11, .pointer (some ⟨b58, 0, none⟩)), (12, .slice A73 r64.1.length c74), (43, .slice A2 l2.length c2), (44, .int .i64 (l2.length : Int)), (45, .int .i64 x45_l1), (121, .bool false), (122, undef)]) kr ?_
           refine WD.skip (i := 4) kr kr ?_
           refine WD.weaken [8, 9, 11, 12, 43, 44, 45, 121, 123] (L' := [(8, .pointer (some ⟨b48, 0, none⟩)), (9, .pointer (some ⟨b53, 0, none⟩)), (11, .pointer (some ⟨b58, 0, none⟩)), (12, .slice A73 r64.1.length c74), (43, .slice A2 l2.length c2), (44, .int .i64 (l2.length : Int)), (45, .int .i64 x45_l1), (121, .bool false), (123, undef)]) kr ?_
           refine WD.skip (i := 5) kr kr ?_
           refine WD.weaken [8, 9, 11, 12, 43, 44, 45, 121, 124] (L' := [(8, .pointer (some ⟨b48, 0, none⟩)), (9, .pointer (some ⟨b53, 0, none⟩)), (11, .pointer (some ⟨b58, 0, none⟩)), (12, .slice A73 r64.1.length c74), (43, .slice A2 l2.length c2), (44, .int .i64 (l2.length : Int)), (45, .int .i64 x45_l1), (121, .bool false), (124, undef)]) kr ?_
           refine WD.skip (i := 6) kr kr ?_
           refine WD.weaken [8, 9, 11, 12, 43, 44, 45, 121, 125] (L' := [(8, .pointer (some ⟨b48, 0, none⟩)), (9, .pointer (some ⟨b53, 0, none⟩)), (11, .pointer (some ⟨b58, 0, none⟩)), (12, .slice A73 r64.1.length c74), (43, .slice A2 l2.length c2), (44, .int .i64 (l2.length : Int)), (45, .int .i64 x45_l1), (121, .bool false), (125, undef)]) kr ?_
           refine WD.skip (i := 7) kr kr ?_
           refine WD.weaken [8, 9, 11, 12, 43, 44, 45, 121, 125, 126] (L' := [(8, .pointer (some ⟨b48, 0, none⟩)), (9, .pointer (some ⟨b53, 0, none⟩)), (11, .pointer (some ⟨b58, 0, none⟩)), (12, .slice A73 r64.1.length c74), (43, .slice A2 l2.length c2), (44, .int .i64 (l2.length : Int)), (45, .int .i64 x45_l1), (121, .bool false), (125, undef), (126, undef)]) kr ?_
           refine WD.skip (i := 8) kr kr ?_
           refine WD.weaken [8, 9, 11, 12, 43, 44, 45, 121, 125, 127] (L' := [(8, .pointer (some ⟨b48, 0, none⟩)), (9, .pointer (some ⟨b53, 0, none⟩)), (11, .pointer (some ⟨b58, 0, none⟩)), (12, .slice A73 r64.1.length c74), (43, .slice A2 l2.length c2), (44, .int .i64 (l2.length : Int)), (45, .int .i64 x45_l1), (121, .bool false), (125, undef), (127, undef)]) kr ?_
           refine WD.skip (i := 9) kr kr ?_
           refine WD.weaken [8, 9, 11, 12, 43, 44, 45, 121, 125, 128] (L' := [(8, .pointer (some ⟨b48, 0, none⟩)), (9, .pointer (some ⟨b53, 0, none⟩)), (11, .pointer (some ⟨b58, 0, none⟩)), (12, .slice A73 r64.1.length c74), (43, .slice A2 l2.length c2), (44, .int .i64 (l2.length : Int)), (45, .int .i64 x45_l1), (121, .bool false), (125, undef), (128, undef)]) kr ?_
           refine WD.skip (i := 10) kr kr ?_
           refine WD.weaken [8, 9, 11, 12, 43, 44, 45, 121, 125, 129] (L' := [(8, .pointer (some ⟨b48, 0, none⟩)), (9, .pointer (some ⟨b53, 0, none⟩)), (11, .pointer (some ⟨b58, 0, none⟩)), (12, .slice A73 r64.1.length c74), (43, .slice A2 l2.length c2), (44, .int .i64 (l2.length : Int)), (45, .int .i64 x45_l1), (121, .bool false), (125, undef), (129, undef)]) kr ?_
           refine WD.skip (i := 11) kr kr ?_
           refine WD.weaken [8, 9, 11, 12, 43, 44, 45, 121, 125, 129, 130] (L' := [(8, .pointer (some ⟨b48, 0, none⟩)), (9, .pointer (some ⟨b53, 0, none⟩)), (11, .pointer (some ⟨b58, 0, none⟩)), (12, .slice A73 r64.1.length c74), (43, .slice A2 l2.length c2), (44, .int .i64 (l2.length : Int)), (45, .int .i64 x45_l1), (121, .bool false), (125, undef), (129, undef), (130, undef)]) kr ?_
           refine WD.skip (i := 12) kr kr ?_
           refine WD.weaken [8, 9, 11, 12, 43, 44, 45, 121, 125, 129, 131] (L' := [(8, .pointer (some ⟨b48, 0, none⟩)), (9, .pointer (some ⟨b53, 0, none⟩)), (11, .pointer (some ⟨b58, 0, none⟩)), (12, .slice A73 r64.1.length c74), (43, .slice A2 l2.length c2), (44, .int .i64 (l2.length : Int)), (45, .int .i64 x45_l1), (121, .bool false), (125, undef), (129, undef), (131, undef)]) kr ?_
           refine WD.skip (i := 13) kr kr ?_
           refine WD.weaken [8, 9, 11, 12, 43, 44, 45, 121, 125, 129, 132] (L' := [(8, .pointer (some ⟨b48, 0, none⟩)), (9, .pointer (some ⟨b53, 0, none⟩)), (11, .pointer (some ⟨b58, 0, none⟩)), (12, .slice A73 r64.1.length c74), (43, .slice A2 l2.length c2), (44, .int .i64 (l2.length : Int)), (45, .int .i64 x45_l1), (121, .bool false), (125, undef), (129, undef), (132, undef)]) kr ?_
           refine WD.skip (i := 14) kr kr ?_
           refine WD.weaken [8, 9, 11, 12, 43, 44, 45, 121, 125, 129, 133] (L' := [(8, .pointer (some ⟨b48, 0, none⟩)), (9, .pointer (some ⟨b53, 0, none⟩)), (11, .pointer (some ⟨b58, 0, none⟩)), (12, .slice A73 r64.1.length c74), (43, .slice A2 l2.length c2), (44, .int .i64 (l2.length : Int)), (45, .int .i64 x45_l1), (121, .bool false), (125, undef), (129, undef), (133, undef)]) kr ?_
           refine WD.skip (i := 15) kr kr ?_
           refine WD.weaken [8, 9, 12, 43, 44, 45, 121, 125, 129, 133, 134] (L' := [(8, .pointer (some ⟨b48, 0, none⟩)), (9, .pointer (some ⟨b53, 0, none⟩)), (12, .slice A73 r64.1.length c74), (43, .slice A2 l2.length c2), (44, .int .i64 (l2.length : Int)), (45, .int .i64 x45_l1), (121, .bool false), (125, undef), (129, undef), (133, undef), (134, undef)]) kr ?_
           refine WD.skip (i := 16) kr kr ?_
           refine WD.weaken [8, 9, 12, 43, 44, 45, 121, 125, 129, 133, 135] (L' := [(8, .pointer (some ⟨b48, 0, none⟩)), (9, .pointer (some ⟨b53, 0, none⟩)), (12, .slice A73 r64.1.length c74), (43, .slice A2 l2.length c2), (44, .int .i64 (l2.length : Int)), (45, .int .i64 x45_l1), (121, .bool false), (125, undef), (129, undef), (133, undef), (135, undef)]) kr ?_
           refine WD.skip (i := 17) kr kr ?_
           refine WD.weaken [8, 9, 12, 43, 44, 45, 121, 125, 129, 136] (L' := [(8, .pointer (some ⟨b48, 0, none⟩)), (9, .pointer (some ⟨b53, 0, none⟩)), (12, .slice A73 r64.1.length c74), (43, .slice A2 l2.length c2), (44, .int .i64 (l2.length : Int)), (45, .int .i64 x45_l1), (121, .bool false), (125, undef), (129, undef), (136, undef)]) kr ?_
           refine WD.skip (i := 18) kr kr ?_
           refine WD.weaken [8, 9, 12, 43, 44, 45, 121, 125, 137] (L' := [(8, .pointer (some ⟨b48, 0, none⟩)), (9, .pointer (some ⟨b53, 0, none⟩)), (12, .slice A73 r64.1.length c74), (43, .slice A2 l2.length c2), (44, .int .i64 (l2.length : Int)), (45, .int .i64 x45_l1), (121, .bool false), (125, undef), (137, undef)]) kr ?_
           refine WD.skip (i := 19) kr kr ?_
           refine WD.weaken [8, 9, 12, 43, 44, 45, 121, 138] (L' := [(8, .pointer (some ⟨b48, 0, none⟩)), (9, .pointer (some ⟨b53, 0, none⟩)), (12, .slice A73 r64.1.length c74), (43, .slice A2 l2.length c2), (44, .int .i64 (l2.length : Int)), (45, .int .i64 x45_l1), (121, .bool false), (138, undef)]) kr ?_
           refine WD.pure (i := 20) (v := .bool false) kr kr (fun _ => by kernel_rfl) ?_
           refine WD.weaken [8, 9, 12, 43, 44, 45, 139] (L' := [(8, .pointer (some ⟨b48, 0, none⟩)), (9, .pointer (some ⟨b53, 0, none⟩)), (12, .slice A73 r64.1.length c74), (43, .slice A2 l2.length c2), (44, .int .i64 (l2.length : Int)), (45, .int .i64 x45_l1), (139, .bool false)]) kr ?_
           refine WD.nil kr ?_
           refine At.go ?_
           refine WC.condF kr kr kr ?_
           refine WC.skip kr ?_
           refine At.go ?_
           refine WC.seq kr ?_
           refine WC.reg [0, 1, 2] kr kr ?_
           refine WR.runk [0, 1, 2] [] [8, 9, 12, 43, 44, 45, 141, 142] (L' := [(8, .pointer (some ⟨b48, 0, none⟩)), (9, .pointer (some ⟨b53, 0, none⟩)), (12, .slice A73 r64.1.length c74), (43, .slice A2 l2.length c2), (44, .int .i64 (l2.length : Int)), (45, .int .i64 x45_l1), (141, .int .i64 (r64.1.length : Int)), (142, .int .i64 0)]) (w' := w189) kr ?_
           refine WR.nil ?_
           refine At.go ?_
           refine WC.block kr ?_
           have hS : Sat w189 (rf w0) [osl 5 (r0 (.int .u8)) 1 A73 c74 r64.1, O66 b48 r64.2.2.2, O40 b53 r75.2.2] := hS.sel [2, 1, 0] kr
           obtain ⟨o266, e267, H⟩ := bind_ex H
           refine WC.loop kr ?_
           refine WL.weaken [8, 9, 12, 43, 44, 45, 141, 142] (L' := [(8, .pointer (some ⟨b48, 0, none⟩)), (9, .pointer (some ⟨b53, 0, none⟩)), (12, .slice A73 r64.1.length c74), (43, .slice A2 l2.length c2), (44, .int .i64 (l2.length : Int)), (45, .int .i64 x45_l1), (141, .int .i64 (r64.1.length : Int)), (142, .int .i64 0)]) kr ?_
           refine colophonlaw07_CachePlays.l7_ok w0 A2 c2 l2 b48 b53 x45_l1 r64 r75 o266 (fun w269 hS => ?_) FU r64.1 0 A73 c74 _ hS e267
           refine At.hit ?_
           refine At.blockNormal ?_
           refine At.go ?_
           refine WC.seq kr ?_
           refine WC.reg [0, 1, 2, 3, 4] kr kr ?_
           refine WR.runk [0] [1, 2, 3, 4] [8, 9, 43, 44, 45, 163] (L' := [(8, .pointer (some ⟨b48, 0, none⟩)), (9, .pointer (some ⟨b53, 0, none⟩)), (43, .slice A2 l2.length c2), (44, .int .i64 (l2.length : Int)), (45, .int .i64 x45_l1), (163, .pointer (some ⟨b48, 0, none⟩))]) (w' := w269) kr ?_
           obtain ⟨r271, e272, H⟩ := bind_ex H
           refine WR.st (St.call kr (f := 15) (args := #[.pointer (some ⟨b48, 0, none⟩)]) kr (cache_Cache_Stats.calls w269 (.pointer (some ⟨b48, 0, none⟩)) (some r64.2.2.2) (Sat.rdAny 0 hS rfl (fun _ h => O66.rd _ _ _ h)) r271 e272) ?_)
           rintro _ w278 ⟨rfl, hS279⟩
           have hS : Sat w278 (rf w0) [O66 b48 r64.2.2.2, O40 b53 r75.2.2] := hS.ext hS279
           refine WR.runk [2] [3, 4] [8, 9, 43, 44, 45, 164, 165] (L' := [(8, .pointer (some ⟨b48, 0, none⟩)), (9, .pointer (some ⟨b53, 0, none⟩)), (43, .slice A2 l2.length c2), (44, .int .i64 (l2.length : Int)), (45, .int .i64 x45_l1), (164, .agg #[.int .i64 r271.1, .int .i64 r271.2.1, .int .i64 r271.2.2.1, .int .i64 r271.2.2.2]), (165, .pointer (some ⟨b53, 0, none⟩))]) (w' := w278) kr ?_
           obtain ⟨r280, e281, H⟩ := bind_ex H
           refine WR.st (St.call kr (f := 16) (args := #[.pointer (some ⟨b53, 0, none⟩)]) kr (colophonref07_Cache_Stats.calls w278 (.pointer (some ⟨b53, 0, none⟩)) (some r75.2.2) (Sat.rdAny 1 hS rfl (fun _ h => O40.rd _ _ _ h)) r280 e281) ?_)
           rintro _ w287 ⟨rfl, hS288⟩
           have hS : Sat w287 (rf w0) [O66 b48 r64.2.2.2, O40 b53 r75.2.2] := hS.ext hS288
           refine WR.runk [] [4] [8, 9, 43, 44, 45, 164, 166] (L' := [(8, .pointer (some ⟨b48, 0, none⟩)), (9, .pointer (some ⟨b53, 0, none⟩)), (43, .slice A2 l2.length c2), (44, .int .i64 (l2.length : Int)), (45, .int .i64 x45_l1), (164, .agg #[.int .i64 r271.1, .int .i64 r271.2.1, .int .i64 r271.2.2.1, .int .i64 r271.2.2.2]), (166, .agg #[.int .i64 r280.1, .int .i64 r280.2.1, .int .i64 r280.2.2.1, .int .i64 r280.2.2.2])]) (w' := w287) kr ?_
           refine WR.st (St.ofP (PSt.eqInts (t := 44) (t2 := 44) (X := ([r271.1, r271.2.1, r271.2.2.1, r271.2.2.2] : List Int)) (Y := ([r280.1, r280.2.1, r280.2.2.1, r280.2.2.2] : List Int)) .neq (by decide) (.tmp 164) (.tmp 166) kr kr kr kr kr kr kr kr kr kr ?_))
           refine WR.runk [] [] [8, 9, 43, 44, 45, 167] (L' := [(8, .pointer (some ⟨b48, 0, none⟩)), (9, .pointer (some ⟨b53, 0, none⟩)), (43, .slice A2 l2.length c2), (44, .int .i64 (l2.length : Int)), (45, .int .i64 x45_l1), (167, .bool (!(([r271.1, r271.2.1, r271.2.2.1, r271.2.2.2] : List Int) == ([r280.1, r280.2.1, r280.2.2.1, r280.2.2.2] : List Int))))]) (w' := w287) kr ?_
           refine WR.nil ?_
           refine At.go ?_
           refine WC.cond kr (!(([r271.1, r271.2.1, r271.2.2.1, r271.2.2.2] : List Int) == ([r280.1, r280.2.1, r280.2.2.1, r280.2.2.2] : List Int))) kr kr (fun hb289 => ?_) (fun hb289 => ?_)
           ·replace H := ite_t H hb289
            refine WC.seq kr ?_
            refine WC.reg [0] kr kr ?_
            refine WR.runk [0] [] [6] (L' := [(6, .bool false)]) (w' := w287) kr ?_
            refine WR.nil ?_
            refine At.go ?_
            refine WC.ret kr ?_
            refine At.blockRet ?_
            refine At.thenRet ?_
            refine At.thenRet ?_
            obtain rfl := Option.some.inj H
            have hS : Sat w287 (rf w0) [O66 b48 r64.2.2.2, O40 b53 r75.2.2] := hS.sel [0, 1] kr
            refine At.weaken [6] (L' := [(6, .bool false)]) kr ?_
            exact hn1 (false, r64.2.2.2, r75.2.2) _ rfl hS
           ·replace H := ite_f H hb289
            refine WC.skip kr ?_
            refine At.blockNormal ?_
            refine At.go ?_
            refine WC.reg [0, 1] kr kr ?_
            refine WR.runk [0, 1] [] [8, 9, 43, 44, 45] (L' := [(8, .pointer (some ⟨b48, 0, none⟩)), (9, .pointer (some ⟨b53, 0, none⟩)), (43, .slice A2 l2.length c2), (44, .int .i64 (l2.length : Int)), (45, .int .i64 (wi (x45_l1 + 1)))]) (w' := w287) kr ?_
            refine WR.nil ?_
            have hS : Sat w287 (rf w0) [O66 b48 r64.2.2.2, O40 b53 r75.2.2] := hS.sel [0, 1] kr
            refine At.again ?_
            refine WL.weaken [8, 9, 43, 44, 45] (L' := [(8, .pointer (some ⟨b48, 0, none⟩)), (9, .pointer (some ⟨b53, 0, none⟩)), (43, .slice A2 l2.length c2), (44, .int .i64 (l2.length : Int)), (45, .int .i64 (wi (x45_l1 + 1)))]) kr ?_
            exact ih (wi (x45_l1 + 1)) r64.2.2.2 r75.2.2 _ hS H
      ·replace H := ite_f H hb63
       refine WC.seq kr ?_
       refine WC.reg [0, 1] kr kr ?_
       refine WR.runk [0, 1] [] [8, 9, 11, 43, 44, 45, 152] (L' := [(8, .pointer (some ⟨b48, 0, none⟩)), (9, .pointer (some ⟨b53, 0, none⟩)), (11, .pointer (some ⟨b58, 0, none⟩)), (43, .slice A2 l2.length c2), (44, .int .i64 (l2.length : Int)), (45, .int .i64 x45_l1), (152, .bool ((Int.tmod (IntKind.wrap .u64 v56.1) 3) == 1))]) (w' := w61) kr ?_
       refine WR.nil ?_
       refine At.go ?_
       refine WC.cond kr ((Int.tmod (IntKind.wrap .u64 v56.1) 3) == 1) kr kr (fun hb290 => ?_) (fun hb290 => ?_)
       ·replace H := ite_t H hb290
        refine WC.seq kr ?_
        refine WC.drawn kr kr 9 kr (fun w291 hw292 => ?_)
        have hS := hS.heap hw292.1 hw292.2
        refine WD.weaken [8, 9, 11, 43, 44, 45] (L' := [(8, .pointer (some ⟨b48, 0, none⟩)), (9, .pointer (some ⟨b53, 0, none⟩)), (11, .pointer (some ⟨b58, 0, none⟩)), (43, .slice A2 l2.length c2), (44, .int .i64 (l2.length : Int)), (45, .int .i64 x45_l1)]) kr ?_
        refine WD.pure (i := 0) (v := .pointer (some ⟨b48, 0, none⟩)) kr kr (fun _ => by kernel_rfl) ?_
        refine WD.weaken [8, 9, 11, 43, 44, 45, 154] (L' := [(8, .pointer (some ⟨b48, 0, none⟩)), (9, .pointer (some ⟨b53, 0, none⟩)), (11, .pointer (some ⟨b58, 0, none⟩)), (43, .slice A2 l2.length c2), (44, .int .i64 (l2.length : Int)), (45, .int .i64 x45_l1), (154, .pointer (some ⟨b48, 0, none⟩))]) kr ?_
        refine WD.pure (i := 1) (v := .pointer (some ⟨b58, 1, none⟩)) kr kr (fun _ => by kernel_rfl) ?_
        refine WD.weaken [8, 9, 11, 43, 44, 45, 154, 155] (L' := [(8, .pointer (some ⟨b48, 0, none⟩)), (9, .pointer (some ⟨b53, 0, none⟩)), (11, .pointer (some ⟨b58, 0, none⟩)), (43, .slice A2 l2.length c2), (44, .int .i64 (l2.length : Int)), (45, .int .i64 x45_l1), (154, .pointer (some ⟨b48, 0, none⟩)), (155, .pointer (some ⟨b58, 1, none⟩))]) kr ?_
        refine WD.ofR (i := 2) kr (RSt.loadObj (t := 3) (k := 1) (v := .int .i64 v56.2) (.tmp 155) kr kr kr 0 hS rfl kr rfl ?_)
        refine WD.weaken [8, 9, 11, 43, 44, 45, 154, 156] (L' := [(8, .pointer (some ⟨b48, 0, none⟩)), (9, .pointer (some ⟨b53, 0, none⟩)), (11, .pointer (some ⟨b58, 0, none⟩)), (43, .slice A2 l2.length c2), (44, .int .i64 (l2.length : Int)), (45, .int .i64 x45_l1), (154, .pointer (some ⟨b48, 0, none⟩)), (156, .int .i64 v56.2)]) kr ?_
        refine WD.pure (i := 4) (v := .pointer (some ⟨b53, 0, none⟩)) kr kr (fun _ => by kernel_rfl) ?_
        refine WD.weaken [8, 9, 11, 43, 44, 45, 154, 156, 158] (L' := [(8, .pointer (some ⟨b48, 0, none⟩)), (9, .pointer (some ⟨b53, 0, none⟩)), (11, .pointer (some ⟨b58, 0, none⟩)), (43, .slice A2 l2.length c2), (44, .int .i64 (l2.length : Int)), (45, .int .i64 x45_l1), (154, .pointer (some ⟨b48, 0, none⟩)), (156, .int .i64 v56.2), (158, .pointer (some ⟨b53, 0, none⟩))]) kr ?_
        refine WD.pure (i := 5) (v := .pointer (some ⟨b58, 1, none⟩)) kr kr (fun _ => by kernel_rfl) ?_
        refine WD.weaken [8, 9, 43, 44, 45, 154, 156, 158, 159] (L' := [(8, .pointer (some ⟨b48, 0, none⟩)), (9, .pointer (some ⟨b53, 0, none⟩)), (43, .slice A2 l2.length c2), (44, .int .i64 (l2.length : Int)), (45, .int .i64 x45_l1), (154, .pointer (some ⟨b48, 0, none⟩)), (156, .int .i64 v56.2), (158, .pointer (some ⟨b53, 0, none⟩)), (159, .pointer (some ⟨b58, 1, none⟩))]) kr ?_
        refine WD.ofR (i := 6) kr (RSt.loadObj (t := 3) (k := 1) (v := .int .i64 v56.2) (.tmp 159) kr kr kr 0 hS rfl kr rfl ?_)
        refine WD.weaken [8, 9, 43, 44, 45, 154, 156, 158, 160] (L' := [(8, .pointer (some ⟨b48, 0, none⟩)), (9, .pointer (some ⟨b53, 0, none⟩)), (43, .slice A2 l2.length c2), (44, .int .i64 (l2.length : Int)), (45, .int .i64 x45_l1), (154, .pointer (some ⟨b48, 0, none⟩)), (156, .int .i64 v56.2), (158, .pointer (some ⟨b53, 0, none⟩)), (160, .int .i64 v56.2)]) kr ?_
        have hS : Sat w291 (rf w0) [O66 b48 q49_l1, pts b58 (.cells #[.int .i64 v56.1, .int .i64 v56.2] 30 (0, 0)), O40 b53 q54_l1] := hS.sel [1, 0, 2] kr
        obtain ⟨r293, e294, H⟩ := bind_ex H
        obtain ⟨B299, hso298, hsub296, hcs297, hb295⟩ := Sat.lend [O66 b48 q49_l1] (cs := [pts b58 (.cells #[.int .i64 v56.1, .int .i64 v56.2] 30 (0, 0)), O40 b53 q54_l1]) hS
        refine WD.act (i := 3) kr (St.call kr (f := 12) (args := #[.pointer (some ⟨b48, 0, none⟩), .int .i64 v56.2]) kr (cache_Cache_Drop.calls B299 w291 b48 q49_l1 hso298 v56.2 r293 e294) ?_)
        rintro _ w300 ⟨rfl, hS301⟩
        have hS : Sat w300 (rf w0) [O66 b48 r293.2, pts b58 (.cells #[.int .i64 v56.1, .int .i64 v56.2] 30 (0, 0)), O40 b53 q54_l1] := hb295 _ _ hS301
        refine ⟨(asked.cons (RSt.run (n := 169) (RSt.loadObj (t := 3) (k := 1) (v := .int .i64 v56.2) (.tmp 159) kr kr kr 1 hS rfl kr rfl rfl)) (asked.anc kr (asked.nil _ _))), ?_⟩
        refine WD.weaken [8, 9, 43, 44, 45, 157, 158, 160] (L' := [(8, .pointer (some ⟨b48, 0, none⟩)), (9, .pointer (some ⟨b53, 0, none⟩)), (43, .slice A2 l2.length c2), (44, .int .i64 (l2.length : Int)), (45, .int .i64 x45_l1), (157, .bool r293.1), (158, .pointer (some ⟨b53, 0, none⟩)), (160, .int .i64 v56.2)]) kr ?_
        have hS : Sat w300 (rf w0) [O40 b53 q54_l1, O66 b48 r293.2, pts b58 (.cells #[.int .i64 v56.1, .int .i64 v56.2] 30 (0, 0))] := hS.sel [2, 0, 1] kr
        obtain ⟨r302, e303, H⟩ := bind_ex H
        obtain ⟨B308, hso307, hsub305, hcs306, hb304⟩ := Sat.lend [O40 b53 q54_l1] (cs := [O66 b48 r293.2, pts b58 (.cells #[.int .i64 v56.1, .int .i64 v56.2] 30 (0, 0))]) hS
        refine WD.act (i := 7) kr (St.call kr (f := 13) (args := #[.pointer (some ⟨b53, 0, none⟩), .int .i64 v56.2]) kr (colophonref07_Cache_Drop.calls B308 w300 b53 q54_l1 hso307 v56.2 r302 e303) ?_)
        rintro _ w309 ⟨rfl, hS310⟩
        have hS : Sat w309 (rf w0) [O40 b53 r302.2, O66 b48 r293.2, pts b58 (.cells #[.int .i64 v56.1, .int .i64 v56.2] 30 (0, 0))] := hb304 _ _ hS310
        refine ⟨(asked.anc kr (asked.anc kr (asked.nil _ _))), ?_⟩
        refine WD.weaken [8, 9, 43, 44, 45, 157, 161] (L' := [(8, .pointer (some ⟨b48, 0, none⟩)), (9, .pointer (some ⟨b53, 0, none⟩)), (43, .slice A2 l2.length c2), (44, .int .i64 (l2.length : Int)), (45, .int .i64 x45_l1), (157, .bool r293.1), (161, .bool r302.1)]) kr ?_
        refine WD.pure (i := 8) (v := .bool (r293.1 != r302.1)) kr kr (fun _ => by kernel_rfl) ?_
        refine WD.weaken [8, 9, 43, 44, 45, 162] (L' := [(8, .pointer (some ⟨b48, 0, none⟩)), (9, .pointer (some ⟨b53, 0, none⟩)), (43, .slice A2 l2.length c2), (44, .int .i64 (l2.length : Int)), (45, .int .i64 x45_l1), (162, .bool (r293.1 != r302.1))]) kr ?_
        refine WD.nil kr ?_
        refine At.go ?_
        refine WC.cond kr (r293.1 != r302.1) kr kr (fun hb311 => ?_) (fun hb311 => ?_)
        ·replace H := ite_t H hb311
         refine WC.seq kr ?_
         refine WC.reg [0] kr kr ?_
         refine WR.runk [0] [] [6] (L' := [(6, .bool false)]) (w' := w309) kr ?_
         refine WR.nil ?_
         refine At.go ?_
         refine WC.ret kr ?_
         refine At.blockRet ?_
         refine At.thenRet ?_
         refine At.blockRet ?_
         refine At.thenRet ?_
         refine At.thenRet ?_
         obtain rfl := Option.some.inj H
         have hS : Sat w309 (rf w0) [O66 b48 r293.2, O40 b53 r302.2] := hS.sel [1, 0] kr
         refine At.weaken [6] (L' := [(6, .bool false)]) kr ?_
         exact hn1 (false, r293.2, r302.2) _ rfl hS
        ·replace H := ite_f H hb311
         refine WC.skip kr ?_
         refine At.blockNormal ?_
         refine At.go ?_
         refine WC.seq kr ?_
         refine WC.reg [0, 1, 2, 3, 4] kr kr ?_
         refine WR.runk [0] [1, 2, 3, 4] [8, 9, 43, 44, 45, 163] (L' := [(8, .pointer (some ⟨b48, 0, none⟩)), (9, .pointer (some ⟨b53, 0, none⟩)), (43, .slice A2 l2.length c2), (44, .int .i64 (l2.length : Int)), (45, .int .i64 x45_l1), (163, .pointer (some ⟨b48, 0, none⟩))]) (w' := w309) kr ?_
         obtain ⟨r312, e313, H⟩ := bind_ex H
         refine WR.st (St.call kr (f := 15) (args := #[.pointer (some ⟨b48, 0, none⟩)]) kr (cache_Cache_Stats.calls w309 (.pointer (some ⟨b48, 0, none⟩)) (some r293.2) (Sat.rdAny 1 hS rfl (fun _ h => O66.rd _ _ _ h)) r312 e313) ?_)
         rintro _ w319 ⟨rfl, hS320⟩
         have hS : Sat w319 (rf w0) [O40 b53 r302.2, O66 b48 r293.2, pts b58 (.cells #[.int .i64 v56.1, .int .i64 v56.2] 30 (0, 0))] := hS.ext hS320
         refine WR.runk [2] [3, 4] [8, 9, 43, 44, 45, 164, 165] (L' := [(8, .pointer (some ⟨b48, 0, none⟩)), (9, .pointer (some ⟨b53, 0, none⟩)), (43, .slice A2 l2.length c2), (44, .int .i64 (l2.length : Int)), (45, .int .i64 x45_l1), (164, .agg #[.int .i64 r312.1, .int .i64 r312.2.1, .int .i64 r312.2.2.1, .int .i64 r312.2.2.2]), (165, .pointer (some ⟨b53, 0, none⟩))]) (w' := w319) kr ?_
         obtain ⟨r321, e322, H⟩ := bind_ex H
         refine WR.st (St.call kr (f := 16) (args := #[.pointer (some ⟨b53, 0, none⟩)]) kr (colophonref07_Cache_Stats.calls w319 (.pointer (some ⟨b53, 0, none⟩)) (some r302.2) (Sat.rdAny 0 hS rfl (fun _ h => O40.rd _ _ _ h)) r321 e322) ?_)
         rintro _ w328 ⟨rfl, hS329⟩
         have hS : Sat w328 (rf w0) [O40 b53 r302.2, O66 b48 r293.2, pts b58 (.cells #[.int .i64 v56.1, .int .i64 v56.2] 30 (0, 0))] := hS.ext hS329
         refine WR.runk [] [4] [8, 9, 43, 44, 45, 164, 166] (L' := [(8, .pointer (some ⟨b48, 0, none⟩)), (9, .pointer (some ⟨b53, 0, none⟩)), (43, .slice A2 l2.length c2), (44, .int .i64 (l2.length : Int)), (45, .int .i64 x45_l1), (164, .agg #[.int .i64 r312.1, .int .i64 r312.2.1, .int .i64 r312.2.2.1, .int .i64 r312.2.2.2]), (166, .agg #[.int .i64 r321.1, .int .i64 r321.2.1, .int .i64 r321.2.2.1, .int .i64 r321.2.2.2])]) (w' := w328) kr ?_
         refine WR.st (St.ofP (PSt.eqInts (t := 44) (t2 := 44) (X := ([r312.1, r312.2.1, r312.2.2.1, r312.2.2.2] : List Int)) (Y := ([r321.1, r321.2.1, r321.2.2.1, r321.2.2.2] : List Int)) .neq (by decide) (.tmp 164) (.tmp 166) kr kr kr kr kr kr kr kr kr kr ?_))
         refine WR.runk [] [] [8, 9, 43, 44, 45, 167] (L' := [(8, .pointer (some ⟨b48, 0, none⟩)), (9, .pointer (some ⟨b53, 0, none⟩)), (43, .slice A2 l2.length c2), (44, .int .i64 (l2.length : Int)), (45, .int .i64 x45_l1), (167, .bool (!(([r312.1, r312.2.1, r312.2.2.1, r312.2.2.2] : List Int) == ([r321.1, r321.2.1, r321.2.2.1, r321.2.2.2] : List Int))))]) (w' := w328) kr ?_
         refine WR.nil ?_
         refine At.go ?_
         refine WC.cond kr (!(([r312.1, r312.2.1, r312.2.2.1, r312.2.2.2] : List Int) == ([r321.1, r321.2.1, r321.2.2.1, r321.2.2.2] : List Int))) kr kr (fun hb330 => ?_) (fun hb330 => ?_)
         ·replace H := ite_t H hb330
          refine WC.seq kr ?_
          refine WC.reg [0] kr kr ?_
          refine WR.runk [0] [] [6] (L' := [(6, .bool false)]) (w' := w328) kr ?_
          refine WR.nil ?_
          refine At.go ?_
          refine WC.ret kr ?_
          refine At.blockRet ?_
          refine At.thenRet ?_
          refine At.thenRet ?_
          obtain rfl := Option.some.inj H
          have hS : Sat w328 (rf w0) [O66 b48 r293.2, O40 b53 r302.2] := hS.sel [1, 0] kr
          refine At.weaken [6] (L' := [(6, .bool false)]) kr ?_
          exact hn1 (false, r293.2, r302.2) _ rfl hS
         ·replace H := ite_f H hb330
          refine WC.skip kr ?_
          refine At.blockNormal ?_
          refine At.go ?_
          refine WC.reg [0, 1] kr kr ?_
          refine WR.runk [0, 1] [] [8, 9, 43, 44, 45] (L' := [(8, .pointer (some ⟨b48, 0, none⟩)), (9, .pointer (some ⟨b53, 0, none⟩)), (43, .slice A2 l2.length c2), (44, .int .i64 (l2.length : Int)), (45, .int .i64 (wi (x45_l1 + 1)))]) (w' := w328) kr ?_
          refine WR.nil ?_
          have hS : Sat w328 (rf w0) [O66 b48 r293.2, O40 b53 r302.2] := hS.sel [1, 0] kr
          refine At.again ?_
          refine WL.weaken [8, 9, 43, 44, 45] (L' := [(8, .pointer (some ⟨b48, 0, none⟩)), (9, .pointer (some ⟨b53, 0, none⟩)), (43, .slice A2 l2.length c2), (44, .int .i64 (l2.length : Int)), (45, .int .i64 (wi (x45_l1 + 1)))]) kr ?_
          exact ih (wi (x45_l1 + 1)) r293.2 r302.2 _ hS H
       ·replace H := ite_f H hb290
        refine WC.seq kr ?_
        refine WC.reg [0] kr kr ?_
        refine WR.runk [0] [] [8, 9, 11, 18, 43, 44, 45] (L' := [(8, .pointer (some ⟨b48, 0, none⟩)), (9, .pointer (some ⟨b53, 0, none⟩)), (11, .pointer (some ⟨b58, 0, none⟩)), (18, .bool false), (43, .slice A2 l2.length c2), (44, .int .i64 (l2.length : Int)), (45, .int .i64 x45_l1)]) (w' := w61) kr ?_
        refine WR.nil ?_
        refine At.go ?_
        refine WC.seq kr ?_
        refine WC.seq kr ?_
        refine WC.reg [0, 1, 2, 3, 4, 5] kr kr ?_
        refine WR.runk [0, 1, 2] [3, 4, 5] [8, 9, 11, 18, 43, 44, 45, 58] (L' := [(8, .pointer (some ⟨b48, 0, none⟩)), (9, .pointer (some ⟨b53, 0, none⟩)), (11, .pointer (some ⟨b58, 0, none⟩)), (18, .bool false), (43, .slice A2 l2.length c2), (44, .int .i64 (l2.length : Int)), (45, .int .i64 x45_l1), (58, .pointer (some ⟨b53, 1, none⟩))]) (w' := w61) kr ?_
        have hS : Sat w61 (rf w0) [O40 b53 q54_l1, pts b58 (.cells #[.int .i64 v56.1, .int .i64 v56.2] 30 (0, 0)), O66 b48 q49_l1] := hS.sel [2, 0, 1] kr
        obtain ⟨A331, c332, hS⟩ := O40.open hS
        have hS : Sat w61 (rf w0) [pts b53 (.cells #[.int .i64 q54_l1.1, .slice A331 q54_l1.2.1.length c332, .int .i64 q54_l1.2.2.1, .int .i64 q54_l1.2.2.2.1, .int .i64 q54_l1.2.2.2.2] 40 (0, 0)), osl 42 (r0 (.pair (.int .i64) (.pair (.int .i64) .bool))) 3 A331 c332 q54_l1.2.1, pts b58 (.cells #[.int .i64 v56.1, .int .i64 v56.2] 30 (0, 0)), O66 b48 q49_l1] := hS
        refine WR.st (St.ofR (RSt.loadObj (t := 38) (k := 1) (v := .slice A331 q54_l1.2.1.length c332) (.tmp 58) kr kr kr 0 hS rfl kr rfl ?_))
        refine WR.runk [4, 5] [] [8, 9, 11, 18, 43, 44, 45, 59, 60, 61] (L' := [(8, .pointer (some ⟨b48, 0, none⟩)), (9, .pointer (some ⟨b53, 0, none⟩)), (11, .pointer (some ⟨b58, 0, none⟩)), (18, .bool false), (43, .slice A2 l2.length c2), (44, .int .i64 (l2.length : Int)), (45, .int .i64 x45_l1), (59, .slice A331 q54_l1.2.1.length c332), (60, .int .i64 (q54_l1.2.1.length : Int)), (61, .int .i64 0)]) (w' := w61) kr ?_
        refine WR.nil ?_
        refine At.go ?_
        refine WC.block kr ?_
        have hS : Sat w61 (rf w0) [pts b58 (.cells #[.int .i64 v56.1, .int .i64 v56.2] 30 (0, 0)), pts b53 (.cells #[.int .i64 q54_l1.1, .slice A331 q54_l1.2.1.length c332, .int .i64 q54_l1.2.2.1, .int .i64 q54_l1.2.2.2.1, .int .i64 q54_l1.2.2.2.2] 40 (0, 0)), osl 42 (r0 (.pair (.int .i64) (.pair (.int .i64) .bool))) 3 A331 c332 q54_l1.2.1, O66 b48 q49_l1] := hS.sel [2, 0, 1, 3] kr
        have hS : Sat w61 (rf w0) [O30 b58 (v56.1, v56.2), pts b53 (.cells #[.int .i64 q54_l1.1, .slice A331 q54_l1.2.1.length c332, .int .i64 q54_l1.2.2.1, .int .i64 q54_l1.2.2.2.1, .int .i64 q54_l1.2.2.2.2] 40 (0, 0)), osl 42 (r0 (.pair (.int .i64) (.pair (.int .i64) .bool))) 3 A331 c332 q54_l1.2.1, O66 b48 q49_l1] := O30.close (v56.1, v56.2) hS
        have hS : Sat w61 (rf w0) [osl 42 (r0 (.pair (.int .i64) (.pair (.int .i64) .bool))) 3 A331 c332 q54_l1.2.1, O66 b48 q49_l1, O30 b58 (v56.1, v56.2), pts b53 (.cells #[.int .i64 q54_l1.1, .slice A331 q54_l1.2.1.length c332, .int .i64 q54_l1.2.2.1, .int .i64 q54_l1.2.2.2.1, .int .i64 q54_l1.2.2.2.2] 40 (0, 0))] := hS.sel [2, 3, 0, 1] kr
        obtain ⟨o342, e343, H⟩ := bind_ex H
        refine WC.loop kr ?_
        refine WL.weaken [8, 9, 11, 18, 43, 44, 45, 59, 60, 61] (L' := [(8, .pointer (some ⟨b48, 0, none⟩)), (9, .pointer (some ⟨b53, 0, none⟩)), (11, .pointer (some ⟨b58, 0, none⟩)), (18, .bool false), (43, .slice A2 l2.length c2), (44, .int .i64 (l2.length : Int)), (45, .int .i64 x45_l1), (59, .slice A331 q54_l1.2.1.length c332), (60, .int .i64 (q54_l1.2.1.length : Int)), (61, .int .i64 0)]) kr ?_
        refine colophonlaw07_CachePlays.l8_ok w0 A2 c2 l2 b48 b53 x45_l1 q49_l1 q54_l1 v56 b58 A331 c332 o342 (fun w345 hS => ?_) FU false 0 _ hS e343
        refine At.hit ?_
        refine At.go ?_
        refine WC.seq kr ?_
        refine WC.reg [0, 1, 2, 3, 4, 5] kr kr ?_
        refine WR.runk [0, 1] [2, 3, 4, 5] [8, 9, 18, 43, 44, 45, 79, 80] (L' := [(8, .pointer (some ⟨b48, 0, none⟩)), (9, .pointer (some ⟨b53, 0, none⟩)), (18, .bool o342), (43, .slice A2 l2.length c2), (44, .int .i64 (l2.length : Int)), (45, .int .i64 x45_l1), (79, .pointer (some ⟨b48, 0, none⟩)), (80, .pointer (some ⟨b58, 1, none⟩))]) (w' := w345) kr ?_
        have hS : Sat w345 (rf w0) [O30 b58 (v56.1, v56.2), O66 b48 q49_l1, pts b53 (.cells #[.int .i64 q54_l1.1, .slice A331 q54_l1.2.1.length c332, .int .i64 q54_l1.2.2.1, .int .i64 q54_l1.2.2.2.1, .int .i64 q54_l1.2.2.2.2] 40 (0, 0)), osl 42 (r0 (.pair (.int .i64) (.pair (.int .i64) .bool))) 3 A331 c332 q54_l1.2.1] := hS.sel [1, 0, 2, 3] kr
        have hS := O30.open hS
        have hS : Sat w345 (rf w0) [pts b58 (.cells #[.int .i64 v56.1, .int .i64 v56.2] 30 (0, 0)), O66 b48 q49_l1, pts b53 (.cells #[.int .i64 q54_l1.1, .slice A331 q54_l1.2.1.length c332, .int .i64 q54_l1.2.2.1, .int .i64 q54_l1.2.2.2.1, .int .i64 q54_l1.2.2.2.2] 40 (0, 0)), osl 42 (r0 (.pair (.int .i64) (.pair (.int .i64) .bool))) 3 A331 c332 q54_l1.2.1] := hS
        refine WR.st (St.ofR (RSt.loadObj (t := 3) (k := 1) (v := .int .i64 v56.2) (.tmp 80) kr kr kr 0 hS rfl kr rfl ?_))
        refine WR.runk [] [3, 4, 5] [8, 9, 18, 43, 44, 45, 79, 81] (L' := [(8, .pointer (some ⟨b48, 0, none⟩)), (9, .pointer (some ⟨b53, 0, none⟩)), (18, .bool o342), (43, .slice A2 l2.length c2), (44, .int .i64 (l2.length : Int)), (45, .int .i64 x45_l1), (79, .pointer (some ⟨b48, 0, none⟩)), (81, .int .i64 v56.2)]) (w' := w345) kr ?_
        obtain ⟨r347, e348, H⟩ := bind_ex H
        refine WR.st (St.call kr (f := 14) (args := #[.pointer (some ⟨b48, 0, none⟩), .int .i64 v56.2]) kr (cache_Cache_Has.calls w345 (.pointer (some ⟨b48, 0, none⟩)) (some q49_l1) (Sat.rdAny 1 hS rfl (fun _ h => O66.rd _ _ _ h)) v56.2 r347 e348) ?_)
        rintro _ w354 ⟨rfl, hS355⟩
        have hS : Sat w354 (rf w0) [pts b58 (.cells #[.int .i64 v56.1, .int .i64 v56.2] 30 (0, 0)), O66 b48 q49_l1, pts b53 (.cells #[.int .i64 q54_l1.1, .slice A331 q54_l1.2.1.length c332, .int .i64 q54_l1.2.2.1, .int .i64 q54_l1.2.2.2.1, .int .i64 q54_l1.2.2.2.2] 40 (0, 0)), osl 42 (r0 (.pair (.int .i64) (.pair (.int .i64) .bool))) 3 A331 c332 q54_l1.2.1] := hS.ext hS355
        refine WR.runk [4, 5] [] [8, 9, 43, 44, 45, 84] (L' := [(8, .pointer (some ⟨b48, 0, none⟩)), (9, .pointer (some ⟨b53, 0, none⟩)), (43, .slice A2 l2.length c2), (44, .int .i64 (l2.length : Int)), (45, .int .i64 x45_l1), (84, .bool (r347 != o342))]) (w' := w354) kr ?_
        refine WR.nil ?_
        refine At.go ?_
        refine WC.cond kr (r347 != o342) kr kr (fun hb356 => ?_) (fun hb356 => ?_)
        ·replace H := ite_t H hb356
         refine WC.seq kr ?_
         refine WC.reg [0] kr kr ?_
         refine WR.runk [0] [] [6] (L' := [(6, .bool false)]) (w' := w354) kr ?_
         refine WR.nil ?_
         refine At.go ?_
         refine WC.ret kr ?_
         refine At.blockRet ?_
         refine At.thenRet ?_
         refine At.blockRet ?_
         refine At.thenRet ?_
         refine At.thenRet ?_
         obtain rfl := Option.some.inj H
         have hS : Sat w354 (rf w0) [pts b53 (.cells #[.int .i64 q54_l1.1, .slice A331 q54_l1.2.1.length c332, .int .i64 q54_l1.2.2.1, .int .i64 q54_l1.2.2.2.1, .int .i64 q54_l1.2.2.2.2] 40 (0, 0)), osl 42 (r0 (.pair (.int .i64) (.pair (.int .i64) .bool))) 3 A331 c332 q54_l1.2.1, pts b58 (.cells #[.int .i64 v56.1, .int .i64 v56.2] 30 (0, 0)), O66 b48 q49_l1] := hS.sel [2, 3, 0, 1] kr
         have hS : Sat w354 (rf w0) [O40 b53 q54_l1, pts b58 (.cells #[.int .i64 v56.1, .int .i64 v56.2] 30 (0, 0)), O66 b48 q49_l1] := O40.close q54_l1 A331 c332 hS
         have hS : Sat w354 (rf w0) [O66 b48 q49_l1, O40 b53 q54_l1] := hS.sel [2, 0] kr
         refine At.weaken [6] (L' := [(6, .bool false)]) kr ?_
         exact hn1 (false, q49_l1, q54_l1) _ rfl hS
        ·replace H := ite_f H hb356
         refine WC.skip kr ?_
         refine At.blockNormal ?_
         refine At.go ?_
         refine WC.seq kr ?_
         refine WC.reg [0, 1, 2, 3, 4] kr kr ?_
         refine WR.runk [0] [1, 2, 3, 4] [8, 9, 43, 44, 45, 163] (L' := [(8, .pointer (some ⟨b48, 0, none⟩)), (9, .pointer (some ⟨b53, 0, none⟩)), (43, .slice A2 l2.length c2), (44, .int .i64 (l2.length : Int)), (45, .int .i64 x45_l1), (163, .pointer (some ⟨b48, 0, none⟩))]) (w' := w354) kr ?_
         obtain ⟨r357, e358, H⟩ := bind_ex H
         refine WR.st (St.call kr (f := 15) (args := #[.pointer (some ⟨b48, 0, none⟩)]) kr (cache_Cache_Stats.calls w354 (.pointer (some ⟨b48, 0, none⟩)) (some q49_l1) (Sat.rdAny 1 hS rfl (fun _ h => O66.rd _ _ _ h)) r357 e358) ?_)
         rintro _ w364 ⟨rfl, hS365⟩
         have hS : Sat w364 (rf w0) [pts b58 (.cells #[.int .i64 v56.1, .int .i64 v56.2] 30 (0, 0)), O66 b48 q49_l1, pts b53 (.cells #[.int .i64 q54_l1.1, .slice A331 q54_l1.2.1.length c332, .int .i64 q54_l1.2.2.1, .int .i64 q54_l1.2.2.2.1, .int .i64 q54_l1.2.2.2.2] 40 (0, 0)), osl 42 (r0 (.pair (.int .i64) (.pair (.int .i64) .bool))) 3 A331 c332 q54_l1.2.1] := hS.ext hS365
         refine WR.runk [2] [3, 4] [8, 9, 43, 44, 45, 164, 165] (L' := [(8, .pointer (some ⟨b48, 0, none⟩)), (9, .pointer (some ⟨b53, 0, none⟩)), (43, .slice A2 l2.length c2), (44, .int .i64 (l2.length : Int)), (45, .int .i64 x45_l1), (164, .agg #[.int .i64 r357.1, .int .i64 r357.2.1, .int .i64 r357.2.2.1, .int .i64 r357.2.2.2]), (165, .pointer (some ⟨b53, 0, none⟩))]) (w' := w364) kr ?_
         obtain ⟨r366, e367, H⟩ := bind_ex H
         refine WR.st (St.call kr (f := 16) (args := #[.pointer (some ⟨b53, 0, none⟩)]) kr (colophonref07_Cache_Stats.calls w364 (.pointer (some ⟨b53, 0, none⟩)) (some (q54_l1.1, q54_l1.2.1, q54_l1.2.2.1, q54_l1.2.2.2.1, q54_l1.2.2.2.2)) (P40.mk (y := (q54_l1.1, q54_l1.2.1, q54_l1.2.2.1, q54_l1.2.2.2.1, q54_l1.2.2.2.2)) (Sat.blockAt 2 hS rfl) (Sat.rdAt 3 hS rfl)) r366 e367) ?_)
         rintro _ w373 ⟨rfl, hS374⟩
         have hS : Sat w373 (rf w0) [pts b58 (.cells #[.int .i64 v56.1, .int .i64 v56.2] 30 (0, 0)), O66 b48 q49_l1, pts b53 (.cells #[.int .i64 q54_l1.1, .slice A331 q54_l1.2.1.length c332, .int .i64 q54_l1.2.2.1, .int .i64 q54_l1.2.2.2.1, .int .i64 q54_l1.2.2.2.2] 40 (0, 0)), osl 42 (r0 (.pair (.int .i64) (.pair (.int .i64) .bool))) 3 A331 c332 q54_l1.2.1] := hS.ext hS374
         refine WR.runk [] [4] [8, 9, 43, 44, 45, 164, 166] (L' := [(8, .pointer (some ⟨b48, 0, none⟩)), (9, .pointer (some ⟨b53, 0, none⟩)), (43, .slice A2 l2.length c2), (44, .int .i64 (l2.length : Int)), (45, .int .i64 x45_l1), (164, .agg #[.int .i64 r357.1, .int .i64 r357.2.1, .int .i64 r357.2.2.1, .int .i64 r357.2.2.2]), (166, .agg #[.int .i64 r366.1, .int .i64 r366.2.1, .int .i64 r366.2.2.1, .int .i64 r366.2.2.2])]) (w' := w373) kr ?_
         refine WR.st (St.ofP (PSt.eqInts (t := 44) (t2 := 44) (X := ([r357.1, r357.2.1, r357.2.2.1, r357.2.2.2] : List Int)) (Y := ([r366.1, r366.2.1, r366.2.2.1, r366.2.2.2] : List Int)) .neq (by decide) (.tmp 164) (.tmp 166) kr kr kr kr kr kr kr kr kr kr ?_))
         refine WR.runk [] [] [8, 9, 43, 44, 45, 167] (L' := [(8, .pointer (some ⟨b48, 0, none⟩)), (9, .pointer (some ⟨b53, 0, none⟩)), (43, .slice A2 l2.length c2), (44, .int .i64 (l2.length : Int)), (45, .int .i64 x45_l1), (167, .bool (!(([r357.1, r357.2.1, r357.2.2.1, r357.2.2.2] : List Int) == ([r366.1, r366.2.1, r366.2.2.1, r366.2.2.2] : List Int))))]) (w' := w373) kr ?_
         refine WR.nil ?_
         refine At.go ?_
         refine WC.cond kr (!(([r357.1, r357.2.1, r357.2.2.1, r357.2.2.2] : List Int) == ([r366.1, r366.2.1, r366.2.2.1, r366.2.2.2] : List Int))) kr kr (fun hb375 => ?_) (fun hb375 => ?_)
         ·replace H := ite_t H hb375
          refine WC.seq kr ?_
          refine WC.reg [0] kr kr ?_
          refine WR.runk [0] [] [6] (L' := [(6, .bool false)]) (w' := w373) kr ?_
          refine WR.nil ?_
          refine At.go ?_
          refine WC.ret kr ?_
          refine At.blockRet ?_
          refine At.thenRet ?_
          refine At.thenRet ?_
          obtain rfl := Option.some.inj H
          have hS : Sat w373 (rf w0) [pts b53 (.cells #[.int .i64 q54_l1.1, .slice A331 q54_l1.2.1.length c332, .int .i64 q54_l1.2.2.1, .int .i64 q54_l1.2.2.2.1, .int .i64 q54_l1.2.2.2.2] 40 (0, 0)), osl 42 (r0 (.pair (.int .i64) (.pair (.int .i64) .bool))) 3 A331 c332 q54_l1.2.1, pts b58 (.cells #[.int .i64 v56.1, .int .i64 v56.2] 30 (0, 0)), O66 b48 q49_l1] := hS.sel [2, 3, 0, 1] kr
          have hS : Sat w373 (rf w0) [O40 b53 q54_l1, pts b58 (.cells #[.int .i64 v56.1, .int .i64 v56.2] 30 (0, 0)), O66 b48 q49_l1] := O40.close q54_l1 A331 c332 hS
          have hS : Sat w373 (rf w0) [O66 b48 q49_l1, O40 b53 q54_l1] := hS.sel [2, 0] kr
          refine At.weaken [6] (L' := [(6, .bool false)]) kr ?_
          exact hn1 (false, q49_l1, q54_l1) _ rfl hS
         ·replace H := ite_f H hb375
          refine WC.skip kr ?_
          refine At.blockNormal ?_
          refine At.go ?_
          refine WC.reg [0, 1] kr kr ?_
          refine WR.runk [0, 1] [] [8, 9, 43, 44, 45] (L' := [(8, .pointer (some ⟨b48, 0, none⟩)), (9, .pointer (some ⟨b53, 0, none⟩)), (43, .slice A2 l2.length c2), (44, .int .i64 (l2.length : Int)), (45, .int .i64 (wi (x45_l1 + 1)))]) (w' := w373) kr ?_
          refine WR.nil ?_
          have hS : Sat w373 (rf w0) [pts b53 (.cells #[.int .i64 q54_l1.1, .slice A331 q54_l1.2.1.length c332, .int .i64 q54_l1.2.2.1, .int .i64 q54_l1.2.2.2.1, .int .i64 q54_l1.2.2.2.2] 40 (0, 0)), osl 42 (r0 (.pair (.int .i64) (.pair (.int .i64) .bool))) 3 A331 c332 q54_l1.2.1, pts b58 (.cells #[.int .i64 v56.1, .int .i64 v56.2] 30 (0, 0)), O66 b48 q49_l1] := hS.sel [2, 3, 0, 1] kr
          have hS : Sat w373 (rf w0) [O40 b53 q54_l1, pts b58 (.cells #[.int .i64 v56.1, .int .i64 v56.2] 30 (0, 0)), O66 b48 q49_l1] := O40.close q54_l1 A331 c332 hS
          have hS : Sat w373 (rf w0) [O66 b48 q49_l1, O40 b53 q54_l1] := hS.sel [2, 0] kr
          refine At.again ?_
          refine WL.weaken [8, 9, 43, 44, 45] (L' := [(8, .pointer (some ⟨b48, 0, none⟩)), (9, .pointer (some ⟨b53, 0, none⟩)), (43, .slice A2 l2.length c2), (44, .int .i64 (l2.length : Int)), (45, .int .i64 (wi (x45_l1 + 1)))]) kr ?_
          exact ih (wi (x45_l1 + 1)) q49_l1 q54_l1 _ hS H
    ·replace H := ite_f H hb55
     refine WC.exit kr ?_
     refine At.thenExit ?_
     refine At.thenExit ?_
     obtain rfl := Option.some.inj H
     have hS : Sat w (rf w0) [O66 b48 q49_l1, O40 b53 q54_l1] := hS.sel [0, 1] kr
     refine At.weaken [] (L' := []) kr ?_
     exact hn0 (q49_l1, q54_l1) _ rfl hS
theorem colophonlaw07_CachePlays.calls (w0 : World) (a0 : Int) (a1 : Int) (A2 : Option Addr) (c2 : Nat) (l2 : List (Int × Int)) (R2 : rdS (r0 (.pair (.int .i64) (.int .i64))) 2 (hp w0) A2 c2 l2) (r : Bool) (H : colophonlaw07_CachePlays.f a0 a1 l2 = some r) :
    Calls Try.prog 3 #[.int .i64 a0, .int .i64 a1, .slice A2 l2.length c2] w0 (fun e w' => ∃ v, e = .returned v ∧ colophonlaw07_CachePlays.post w0 r v w') := by
  have hS : Sat w0 (rf w0) [] := Sat.start w0
  unfold colophonlaw07_CachePlays.f at H
  refine calls_of_WC (vs := [.int .i64 a0, .int .i64 a1, .slice A2 l2.length c2]) Try.func3 (c := C3) (n := 169) kr kr kr ?_
  refine WC.seq kr ?_
  refine WC.reg [0] kr kr ?_
  refine WR.runk [0] [] [0, 1, 2] (L' := [(0, .int .i64 a0), (1, .int .i64 a1), (2, .slice A2 l2.length c2)]) (w' := w0) kr ?_
  refine WR.nil ?_
  refine At.go ?_
  refine WC.seq kr ?_
  refine WC.seq kr ?_
  refine WC.reg [0, 1] kr kr ?_
  obtain ⟨r1, e2, H⟩ := bind_ex H
  refine WR.st (St.call kr (f := 7) (args := #[]) kr (colophonlaw07_first.calls w0  r1 e2) ?_)
  rintro _ w8 ⟨rfl, hS9⟩
  have hS : Sat w8 (rf w0) [] := hS.ext hS9
  refine WR.runk [1] [] [0, 1, 2, 22] (L' := [(0, .int .i64 a0), (1, .int .i64 a1), (2, .slice A2 l2.length c2), (22, .bool (!r1))]) (w' := w8) kr ?_
  refine WR.nil ?_
  refine At.go ?_
  refine WC.cond kr (!r1) kr kr (fun hb10 => ?_) (fun hb10 => ?_)
  ·replace H := ite_t H hb10
   refine WC.seq kr ?_
   refine WC.reg [0] kr kr ?_
   refine WR.runk [0] [] [6] (L' := [(6, .bool false)]) (w' := w8) kr ?_
   refine WR.nil ?_
   refine At.go ?_
   refine WC.ret kr ?_
   refine At.thenRet ?_
   obtain rfl := Option.some.inj H
   have hS : Sat w8 (rf w0) [] := hS.sel [] kr
   exact At.body [.bool false] kr ⟨_, rfl, rfl, hS⟩
  ·replace H := ite_f H hb10
   refine WC.skip kr ?_
   refine At.go ?_
   refine WC.seq kr ?_
   refine WC.reg [0, 1, 2, 3, 4, 5] kr kr ?_
   refine WR.runk [0, 1, 2, 3, 4, 5] [] [1, 2, 7] (L' := [(1, .int .i64 a1), (2, .slice A2 l2.length c2), (7, .int .i64 (wi (1 + (wi (Int.tmod (IntKind.wrap .u64 a0) 20)))))]) (w' := w8) kr ?_
   refine WR.nil ?_
   refine At.go ?_
   refine WC.seq kr ?_
   refine WC.reg [0, 1, 2, 3] kr kr ?_
   refine WR.runk [0, 1] [2, 3] [1, 2, 7, 28, 29] (L' := [(1, .int .i64 a1), (2, .slice A2 l2.length c2), (7, .int .i64 (wi (1 + (wi (Int.tmod (IntKind.wrap .u64 a0) 20))))), (28, .int .i64 (wi (1 + (wi (Int.tmod (IntKind.wrap .u64 a0) 20))))), (29, .int .i64 a1)]) (w' := w8) kr ?_
   obtain ⟨r11, e12, H⟩ := bind_ex H
   refine WR.st (St.call kr (f := 8) (args := #[.int .i64 (wi (1 + (wi (Int.tmod (IntKind.wrap .u64 a0) 20)))), .int .i64 a1]) kr (colophonlaw07_made.calls w8 (wi (1 + (wi (Int.tmod (IntKind.wrap .u64 a0) 20)))) a1 r11 e12) ?_)
   rintro pv20 w18 ⟨_, rfl, hS19⟩
   have hS : Sat w18 (rf w0) [optP O66 pv20 r11] := hS.ext hS19
   refine WR.runk [3] [] [1, 2, 7, 8] (L' := [(1, .int .i64 a1), (2, .slice A2 l2.length c2), (7, .int .i64 (wi (1 + (wi (Int.tmod (IntKind.wrap .u64 a0) 20))))), (8, pv20)]) (w' := w18) kr ?_
   refine WR.nil ?_
   refine At.go ?_
   refine WC.seq kr ?_
   refine WC.seq kr ?_
   refine WC.reg [0, 1, 2, 3, 4, 5] kr kr ?_
   refine WR.runk [0, 1, 2] [3, 4, 5] [1, 2, 7, 8, 33] (L' := [(1, .int .i64 a1), (2, .slice A2 l2.length c2), (7, .int .i64 (wi (1 + (wi (Int.tmod (IntKind.wrap .u64 a0) 20))))), (8, pv20), (33, .bool (decide (a1 < 1)))]) (w' := w18) kr ?_
   refine WR.split 33 (b := decide (a1 < 1)) kr (fun hb21 => ?_) (fun hb21 => ?_)
   ·replace H := ite_t H hb21
    refine WR.runk [3, 4, 5] [] [1, 2, 7, 8, 36] (L' := [(1, .int .i64 a1), (2, .slice A2 l2.length c2), (7, .int .i64 (wi (1 + (wi (Int.tmod (IntKind.wrap .u64 a0) 20))))), (8, pv20), (36, .bool true)]) (w' := w18) kr ?_
    refine WR.nil ?_
    refine At.go ?_
    refine WC.condT kr kr kr ?_
    refine WC.seq kr ?_
    refine WC.reg [0, 1, 2] kr kr ?_
    refine WR.runk [0] [1, 2] [37] (L' := [(37, pv20)]) (w' := w18) kr ?_
    rcases hr23 : r11 with _ | y22
    ·rw [hr23] at H
     dsimp only at H
     have hv24 := optP.none hS hr23
     subst hv24
     have hS : Sat w18 (rf w0) [] := hS.sel [] kr
     refine WR.runk [1, 2] [] [6] (L' := [(6, .bool true)]) (w' := w18) kr ?_
     refine WR.nil ?_
     refine At.go ?_
     refine WC.ret kr ?_
     refine At.thenRet ?_
     obtain rfl := Option.some.inj H
     have hS : Sat w18 (rf w0) [] := hS.sel [] kr
     exact At.body [.bool true] kr ⟨_, rfl, rfl, hS⟩
    ·rw [hr23] at H
     dsimp only at H
     obtain ⟨b25, hv24, hN27⟩ := optP.some hS hr23
     subst hv24
     have hS : Sat w18 (rf w0) [O66 b25 y22] := hN27
     refine WR.runk [1, 2] [] [6] (L' := [(6, .bool false)]) (w' := w18) kr ?_
     refine WR.nil ?_
     refine At.go ?_
     refine WC.ret kr ?_
     refine At.thenRet ?_
     obtain rfl := Option.some.inj H
     have hS : Sat w18 (rf w0) [] := hS.sel [] kr
     exact At.body [.bool false] kr ⟨_, rfl, rfl, hS⟩
   ·replace H := ite_f H hb21
    refine WR.runk [3, 4, 5] [] [1, 2, 7, 8, 36] (L' := [(1, .int .i64 a1), (2, .slice A2 l2.length c2), (7, .int .i64 (wi (1 + (wi (Int.tmod (IntKind.wrap .u64 a0) 20))))), (8, pv20), (36, .bool (decide (a1 > 4096)))]) (w' := w18) kr ?_
    refine WR.nil ?_
    refine At.go ?_
    refine WC.cond kr (decide (a1 > 4096)) kr kr (fun hb28 => ?_) (fun hb28 => ?_)
    ·replace H := ite_t H hb28
     refine WC.seq kr ?_
     refine WC.reg [0, 1, 2] kr kr ?_
     refine WR.runk [0] [1, 2] [37] (L' := [(37, pv20)]) (w' := w18) kr ?_
     rcases hr30 : r11 with _ | y29
     ·rw [hr30] at H
      dsimp only at H
      have hv31 := optP.none hS hr30
      subst hv31
      have hS : Sat w18 (rf w0) [] := hS.sel [] kr
      refine WR.runk [1, 2] [] [6] (L' := [(6, .bool true)]) (w' := w18) kr ?_
      refine WR.nil ?_
      refine At.go ?_
      refine WC.ret kr ?_
      refine At.thenRet ?_
      obtain rfl := Option.some.inj H
      have hS : Sat w18 (rf w0) [] := hS.sel [] kr
      exact At.body [.bool true] kr ⟨_, rfl, rfl, hS⟩
     ·rw [hr30] at H
      dsimp only at H
      obtain ⟨b32, hv31, hN34⟩ := optP.some hS hr30
      subst hv31
      have hS : Sat w18 (rf w0) [O66 b32 y29] := hN34
      refine WR.runk [1, 2] [] [6] (L' := [(6, .bool false)]) (w' := w18) kr ?_
      refine WR.nil ?_
      refine At.go ?_
      refine WC.ret kr ?_
      refine At.thenRet ?_
      obtain rfl := Option.some.inj H
      have hS : Sat w18 (rf w0) [] := hS.sel [] kr
      exact At.body [.bool false] kr ⟨_, rfl, rfl, hS⟩
    ·replace H := ite_f H hb28
     refine WC.skip kr ?_
     refine At.go ?_
     refine WC.seq kr ?_
     refine WC.reg [0, 1, 2, 3, 4] kr kr ?_
     refine WR.runk [0, 1, 2] [3, 4] [2, 8, 40, 41] (L' := [(2, .slice A2 l2.length c2), (8, pv20), (40, .int .i64 (wi ((wi (1 + (wi (Int.tmod (IntKind.wrap .u64 a0) 20)))) + 1))), (41, .int .i64 a1)]) (w' := w18) kr ?_
     obtain ⟨r35, e36, H⟩ := bind_ex H
     refine WR.st (St.call kr (f := 9) (args := #[.int .i64 (wi ((wi (1 + (wi (Int.tmod (IntKind.wrap .u64 a0) 20)))) + 1)), .int .i64 a1]) kr (colophonref07_New.calls w18 (wi ((wi (1 + (wi (Int.tmod (IntKind.wrap .u64 a0) 20)))) + 1)) a1 r35 e36) ?_)
     rintro pv44 w42 ⟨_, rfl, hS43⟩
     have hS : Sat w42 (rf w0) [optP O40 pv44 r35, optP O66 pv20 r11] := hS.ext hS43
     refine WR.runk [4] [] [2, 8, 9] (L' := [(2, .slice A2 l2.length c2), (8, pv20), (9, pv44)]) (w' := w42) kr ?_
     refine WR.nil ?_
     refine At.go ?_
     refine WC.seq kr ?_
     refine WC.seq kr ?_
     refine WC.reg [0, 1, 2] kr kr ?_
     refine WR.runk [0, 1, 2] [] [8, 9, 43, 44, 45] (L' := [(8, pv20), (9, pv44), (43, .slice A2 l2.length c2), (44, .int .i64 (l2.length : Int)), (45, .int .i64 0)]) (w' := w42) kr ?_
     refine WR.nil ?_
     refine At.go ?_
     refine WC.block kr ?_
     have hS : Sat w42 (rf w0) [optP O66 pv20 r11, optP O40 pv44 r35] := hS.sel [1, 0] kr
     obtain ⟨y45, hr46, H⟩ := bind_ex H
     obtain ⟨b48, hv47, hN387⟩ := optP.some hS hr46
     subst hv47
     have hS : Sat w42 (rf w0) [O66 b48 y45, optP O40 pv44 r35] := hN387
     have hS : Sat w42 (rf w0) [optP O40 pv44 r35, O66 b48 y45] := hS.sel [1, 0] kr
     obtain ⟨y50, hr51, H⟩ := bind_ex H
     obtain ⟨b53, hv52, hN386⟩ := optP.some hS hr51
     subst hv52
     have hS : Sat w42 (rf w0) [O40 b53 y50, O66 b48 y45] := hN386
     have hS : Sat w42 (rf w0) [O66 b48 y45, O40 b53 y50] := hS.sel [1, 0] kr
     obtain ⟨o376, e377, H⟩ := bind_ex H
     refine WC.loop kr ?_
     refine WL.weaken [8, 9, 43, 44, 45] (L' := [(8, .pointer (some ⟨b48, 0, none⟩)), (9, .pointer (some ⟨b53, 0, none⟩)), (43, .slice A2 l2.length c2), (44, .int .i64 (l2.length : Int)), (45, .int .i64 0)]) kr ?_
     refine colophonlaw07_CachePlays.l1_ok w0 A2 c2 l2 b48 b53 R2 o376 (fun o378 w380 ho381 hS => ?_) (fun o382 w384 ho385 hS => ?_) FU 0 y45 y50 _ hS e377
     ·subst ho381
      dsimp only at H
      refine At.hit ?_
      refine At.go ?_
      refine WC.seq kr ?_
      refine WC.reg [0] kr kr ?_
      refine WR.runk [0] [] [6] (L' := [(6, .bool true)]) (w' := w380) kr ?_
      refine WR.nil ?_
      refine At.go ?_
      refine WC.ret kr ?_
      obtain rfl := Option.some.inj H
      have hS : Sat w380 (rf w0) [] := hS.sel [] kr
      exact At.body [.bool true] kr ⟨_, rfl, rfl, hS⟩
     ·subst ho385
      dsimp only at H
      refine At.blockRet ?_
      refine At.thenRet ?_
      obtain rfl := Option.some.inj H
      have hS : Sat w384 (rf w0) [] := hS.sel [] kr
      exact At.body [.bool o382.1] kr ⟨_, rfl, rfl, hS⟩
end Go.Proofs.Ytbcdcpkofgfofaa
