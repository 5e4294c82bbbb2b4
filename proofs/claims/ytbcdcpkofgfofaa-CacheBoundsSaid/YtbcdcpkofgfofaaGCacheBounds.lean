/-
  Printed by gen.py (my own tool): for each Go function a plain Lean function and the proof that a call of it does what that function says.
-/
import Derived.Test.YtbcdcpkofgfofaaGP1d
set_option linter.unusedVariables false
set_option linter.unusedSimpArgs false
set_option maxRecDepth 100000
namespace Go.Proofs.Ytbcdcpkofgfofaa
open Go Go.Gol
/-! ### 4 colophon/colophonlaw07.CacheBounds -/
def colophonlaw07_CacheBounds.l2 (r38 : Bool × ((Option ((List (List Int)) × (List Int) × (List Int))) × (List (Int × (List Int) × Bool × Int)) × Int × Int × Int)) (y52 : List Int) : Nat → Int → Int → Option (Sum Bool Int)
  | 0, _, _ => none
  | k + 1, x14_l2, x81_l2 => (if decide (x81_l2 < 21) then ((at? y52 x81_l2).bind fun v59 => (if decide (v59 > 0) then ((cache_Cache_Has.f (some r38.2) x81_l2).bind fun r62 => (if (!r62) then some (.inl false) else colophonlaw07_CacheBounds.l2 r38 y52 k (wi (x14_l2 + 1)) (wi (x81_l2 + 1)))) else colophonlaw07_CacheBounds.l2 r38 y52 k x14_l2 (wi (x81_l2 + 1)))) else some (.inr x14_l2))
def colophonlaw07_CacheBounds.l3 (r98 : (List Int) × Bool × Int × ((Option ((List (List Int)) × (List Int) × (List Int))) × (List (Int × (List Int) × Bool × Int)) × Int × Int × Int)) (y114 : List Int) : Nat → Int → Int → Option (Sum Bool Int)
  | 0, _, _ => none
  | k + 1, x14_l3, x81_l3 => (if decide (x81_l3 < 21) then ((at? y114 x81_l3).bind fun v121 => (if decide (v121 > 0) then ((cache_Cache_Has.f (some r98.2.2.2) x81_l3).bind fun r124 => (if (!r124) then some (.inl false) else colophonlaw07_CacheBounds.l3 r98 y114 k (wi (x14_l3 + 1)) (wi (x81_l3 + 1)))) else colophonlaw07_CacheBounds.l3 r98 y114 k x14_l3 (wi (x81_l3 + 1)))) else some (.inr x14_l3))
def colophonlaw07_CacheBounds.l4 (q23_l1 : List Int) (r98 : (List Int) × Bool × Int × ((Option ((List (List Int)) × (List Int) × (List Int))) × (List (Int × (List Int) × Bool × Int)) × Int × Int × Int)) : Nat → Int → Int → Option (Sum Bool Int)
  | 0, _, _ => none
  | k + 1, x14_l4, x81_l4 => (if decide (x81_l4 < 21) then ((at? q23_l1 x81_l4).bind fun v162 => (if decide (v162 > 0) then ((cache_Cache_Has.f (some r98.2.2.2) x81_l4).bind fun r165 => (if (!r165) then some (.inl false) else colophonlaw07_CacheBounds.l4 q23_l1 r98 k (wi (x14_l4 + 1)) (wi (x81_l4 + 1)))) else colophonlaw07_CacheBounds.l4 q23_l1 r98 k x14_l4 (wi (x81_l4 + 1)))) else some (.inr x14_l4))
def colophonlaw07_CacheBounds.l1 (a0 : Int) (l1 : List Int) : Nat → Int → ((Option ((List (List Int)) × (List Int) × (List Int))) × (List (Int × (List Int) × Bool × Int)) × Int × Int × Int) → (List Int) → Option (Sum (((Option ((List (List Int)) × (List Int) × (List Int))) × (List (Int × (List Int) × Bool × Int)) × Int × Int × Int) × (List Int)) (Bool × ((Option ((List (List Int)) × (List Int) × (List Int))) × (List (Int × (List Int) × Bool × Int)) × Int × Int × Int) × (List Int)))
  | 0, _, _, _ => none
  | k + 1, x35_l1, q28_l1, q23_l1 => (if decide (x35_l1 < (l1.length : Int)) then ((at? l1 x35_l1).bind fun v30 => (if decide (x35_l1 ≥ 120) then some (.inl (q28_l1, q23_l1)) else (if ((Int.tmod (IntKind.wrap .u64 (Int.tdiv (IntKind.wrap .u64 v30) 21)) 3) == 0) then ((at? q23_l1 (wi (Int.tmod (IntKind.wrap .u64 v30) 21))).bind fun v36 => ((cache_Cache_Drop.f q28_l1 (wi (Int.tmod (IntKind.wrap .u64 v30) 21))).bind fun r38 => (if (r38.1 != (decide (v36 > 0))) then some (.inr (false, r38.2, q23_l1)) else ((at? q23_l1 (wi (Int.tmod (IntKind.wrap .u64 v30) 21))).bind fun v48 => ((at? q23_l1 (wi (Int.tmod (IntKind.wrap .u64 v30) 21))).bind fun v50 => ((set? q23_l1 (wi (Int.tmod (IntKind.wrap .u64 v30) 21)) (imax 0 (wi (v48 - 1)))).bind fun y52 => ((colophonlaw07_CacheBounds.l2 r38 y52 FU 0 0).bind fun o72 => (match o72 with | .inl o74 => some (.inr (o74, r38.2, y52)) | .inr o78 => ((cache_Cache_Stats.f (some r38.2)).bind fun r82 => (if decide (r82.2.2.1 > wi (1 + (wi (Int.tmod (IntKind.wrap .u64 a0) 6)))) then some (.inr (false, r38.2, y52)) else (if (r82.2.2.2 != o78) then some (.inr (false, r38.2, y52)) else (if decide (o78 > wi (1 + (wi (Int.tmod (IntKind.wrap .u64 a0) 6)))) then some (.inr (false, r38.2, y52)) else colophonlaw07_CacheBounds.l1 a0 l1 k (wi (x35_l1 + 1)) r38.2 y52)))))))))))) else ((cache_Cache_Hold.f q28_l1 (wi (Int.tmod (IntKind.wrap .u64 v30) 21))).bind fun r98 => (if (r98.2.2.1 == 0) then ((at? q23_l1 (wi (Int.tmod (IntKind.wrap .u64 v30) 21))).bind fun v110 => ((at? q23_l1 (wi (Int.tmod (IntKind.wrap .u64 v30) 21))).bind fun v112 => ((set? q23_l1 (wi (Int.tmod (IntKind.wrap .u64 v30) 21)) (wi (v110 + 1))).bind fun y114 => ((colophonlaw07_CacheBounds.l3 r98 y114 FU 0 0).bind fun o134 => (match o134 with | .inl o136 => some (.inr (o136, r98.2.2.2, y114)) | .inr o140 => ((cache_Cache_Stats.f (some r98.2.2.2)).bind fun r144 => (if decide (r144.2.2.1 > wi (1 + (wi (Int.tmod (IntKind.wrap .u64 a0) 6)))) then some (.inr (false, r98.2.2.2, y114)) else (if (r144.2.2.2 != o140) then some (.inr (false, r98.2.2.2, y114)) else (if decide (o140 > wi (1 + (wi (Int.tmod (IntKind.wrap .u64 a0) 6)))) then some (.inr (false, r98.2.2.2, y114)) else colophonlaw07_CacheBounds.l1 a0 l1 k (wi (x35_l1 + 1)) r98.2.2.2 y114))))))))) else ((colophonlaw07_CacheBounds.l4 q23_l1 r98 FU 0 0).bind fun o175 => (match o175 with | .inl o177 => some (.inr (o177, r98.2.2.2, q23_l1)) | .inr o181 => ((cache_Cache_Stats.f (some r98.2.2.2)).bind fun r185 => (if decide (r185.2.2.1 > wi (1 + (wi (Int.tmod (IntKind.wrap .u64 a0) 6)))) then some (.inr (false, r98.2.2.2, q23_l1)) else (if (r185.2.2.2 != o181) then some (.inr (false, r98.2.2.2, q23_l1)) else (if decide (o181 > wi (1 + (wi (Int.tmod (IntKind.wrap .u64 a0) 6)))) then some (.inr (false, r98.2.2.2, q23_l1)) else colophonlaw07_CacheBounds.l1 a0 l1 k (wi (x35_l1 + 1)) r98.2.2.2 q23_l1))))))))))) else some (.inl (q28_l1, q23_l1)))
def colophonlaw07_CacheBounds.f (a0 : Int) (l1 : List Int) : Option Bool := (colophonlaw07_first.f.bind fun r1 => (if (!r1) then some false else ((colophonlaw07_made.f 20 (wi (1 + (wi (Int.tmod (IntKind.wrap .u64 a0) 6))))).bind fun r11 => (r11.bind fun y24 => ((colophonlaw07_CacheBounds.l1 a0 l1 FU 0 y24 (List.replicate 21 (0 : Int))).bind fun o201 => (match o201 with | .inl o203 => ((cache_Cache_Hold_nil0.f 0).bind fun r207 => (if (r207.2.2 == 1) then (if (1 == 1) then ((cache_Cache_Drop_nil0.f 0).bind fun r220 => (if (!r220) then ((cache_Cache_Has.f none 0).bind fun r230 => (if (!r230) then ((cache_Cache_Stats.f none).bind fun r240 => some (([r240.1, r240.2.1, r240.2.2.1, r240.2.2.2] : List Int) == ([0, 0, 0, 0] : List Int))) else some false)) else some false)) else some false) else some false)) | .inr o249 => some o249.1))))))
def colophonlaw07_CacheBounds.post (w : World) (r : Bool) (v : Value) (w' : World) : Prop := v = (.bool r : Value) ∧ Sat w' (rf w) []
theorem colophonlaw07_CacheBounds.l2_ok {Q} (w0 : World) (a0 : Int) (A1 : Option Addr) (c1 : Nat) (l1 : List Int) (b21 : Nat) (b27 : Nat) (x35_l1 : Int) (r38 : Bool × ((Option ((List (List Int)) × (List Int) × (List Int))) × (List (Int × (List Int) × Bool × Int)) × Int × Int × Int)) (y52 : List Int) (hl57 : List.length y52 = 21) (out : Sum Bool Int) (hn0 : ∀ (o0 : Bool) (w : World), out = (.inl o0) → Sat w (rf w0) [O66 b27 r38.2, oar 48 (r0 (.int .i64)) 1 21 b21 y52] → At Q .ret 144 [(4, .bool o0)] w) (hn1 : ∀ (o1 : Int) (w : World), out = (.inr o1) → Sat w (rf w0) [O66 b27 r38.2, oar 48 (r0 (.int .i64)) 1 21 b21 y52] → At Q (.exit 2) 144 [(5, .int .i64 (wi (1 + (wi (Int.tmod (IntKind.wrap .u64 a0) 6))))), (6, .pointer (some ⟨b27, 0, none⟩)), (7, .pointer (some ⟨b21, 0, none⟩)), (14, .int .i64 o1), (33, .slice A1 l1.length c1), (34, .int .i64 (l1.length : Int)), (35, .int .i64 x35_l1)] w) :
    ∀ (k : Nat) (x14_l2 : Int) (x81_l2 : Int) (w : World), Sat w (rf w0) [O66 b27 r38.2, oar 48 (r0 (.int .i64)) 1 21 b21 y52] → colophonlaw07_CacheBounds.l2 r38 y52 k x14_l2 x81_l2 = some out → WL Try.prog (cbody (cbody (cr (cl (cr (cr (cr (cr (cr (cbody (cl (cr (cr (cbody (cbody (cr (cl (cr (cr (cr (cr (cr C4)))))))))))))))))))))) Q 144 [(5, .int .i64 (wi (1 + (wi (Int.tmod (IntKind.wrap .u64 a0) 6))))), (6, .pointer (some ⟨b27, 0, none⟩)), (7, .pointer (some ⟨b21, 0, none⟩)), (14, .int .i64 x14_l2), (33, .slice A1 l1.length c1), (34, .int .i64 (l1.length : Int)), (35, .int .i64 x35_l1), (80, (aInts .i64 y52)), (81, .int .i64 x81_l2)] w := by
  intro k
  induction k with
  | zero => intro x14_l2 x81_l2 w hS H; exact absurd (show none = some out from H) (by simp)
  | succ k ih =>
    intro x14_l2 x81_l2 w hS H
    unfold colophonlaw07_CacheBounds.l2 at H
    refine WL.round ?_
    refine WC.seq kr ?_
    refine WC.reg [0] kr kr ?_
    refine WR.runk [0] [] [5, 6, 7, 14, 33, 34, 35, 80, 81, 82] (L' := [(5, .int .i64 (wi (1 + (wi (Int.tmod (IntKind.wrap .u64 a0) 6))))), (6, .pointer (some ⟨b27, 0, none⟩)), (7, .pointer (some ⟨b21, 0, none⟩)), (14, .int .i64 x14_l2), (33, .slice A1 l1.length c1), (34, .int .i64 (l1.length : Int)), (35, .int .i64 x35_l1), (80, (aInts .i64 y52)), (81, .int .i64 x81_l2), (82, .bool (decide (x81_l2 < 21)))]) (w' := w) kr ?_
    refine WR.nil ?_
    refine At.go ?_
    refine WC.seq kr ?_
    refine WC.cond kr (decide (x81_l2 < 21)) kr kr (fun hb58 => ?_) (fun hb58 => ?_)
    ·replace H := ite_t H hb58
     refine WC.skip kr ?_
     refine At.go ?_
     refine WC.seq kr ?_
     refine WC.block kr ?_
     refine WC.seq kr ?_
     refine WC.reg [0, 1, 2, 3] kr kr ?_
     refine WR.runk [0] [1, 2, 3] [5, 6, 7, 14, 33, 34, 35, 80, 81, 83] (L' := [(5, .int .i64 (wi (1 + (wi (Int.tmod (IntKind.wrap .u64 a0) 6))))), (6, .pointer (some ⟨b27, 0, none⟩)), (7, .pointer (some ⟨b21, 0, none⟩)), (14, .int .i64 x14_l2), (33, .slice A1 l1.length c1), (34, .int .i64 (l1.length : Int)), (35, .int .i64 x35_l1), (80, (aInts .i64 y52)), (81, .int .i64 x81_l2), (83, .int .i64 x81_l2)]) (w' := w) kr ?_
     obtain ⟨v59, e60, H⟩ := bind_ex H
     refine WR.st (St.ofP (PSt.idxAgg (t := 48) (e := 3) (kk := .i64) (k := .i64) (.tmp 80) (.tmp 81) kr kr kr kr kr hl57 kr kr e60 ?_))
     refine WR.runk [2, 3] [] [5, 6, 7, 14, 15, 16, 33, 34, 35, 80, 81] (L' := [(5, .int .i64 (wi (1 + (wi (Int.tmod (IntKind.wrap .u64 a0) 6))))), (6, .pointer (some ⟨b27, 0, none⟩)), (7, .pointer (some ⟨b21, 0, none⟩)), (14, .int .i64 x14_l2), (15, .int .i64 x81_l2), (16, .int .i64 v59), (33, .slice A1 l1.length c1), (34, .int .i64 (l1.length : Int)), (35, .int .i64 x35_l1), (80, (aInts .i64 y52)), (81, .int .i64 x81_l2)]) (w' := w) kr ?_
     refine WR.nil ?_
     refine At.go ?_
     refine WC.seq kr ?_
     refine WC.reg [0, 1] kr kr ?_
     refine WR.runk [0, 1] [] [5, 6, 7, 14, 15, 33, 34, 35, 80, 81, 86] (L' := [(5, .int .i64 (wi (1 + (wi (Int.tmod (IntKind.wrap .u64 a0) 6))))), (6, .pointer (some ⟨b27, 0, none⟩)), (7, .pointer (some ⟨b21, 0, none⟩)), (14, .int .i64 x14_l2), (15, .int .i64 x81_l2), (33, .slice A1 l1.length c1), (34, .int .i64 (l1.length : Int)), (35, .int .i64 x35_l1), (80, (aInts .i64 y52)), (81, .int .i64 x81_l2), (86, .bool (decide (v59 > 0)))]) (w' := w) kr ?_
     refine WR.nil ?_
     refine At.go ?_
     refine WC.cond kr (decide (v59 > 0)) kr kr (fun hb61 => ?_) (fun hb61 => ?_)
     ·replace H := ite_t H hb61
      refine WC.seq kr ?_
      refine WC.reg [0, 1, 2] kr kr ?_
      refine WR.runk [0, 1, 2] [] [5, 6, 7, 14, 15, 33, 34, 35, 80, 81] (L' := [(5, .int .i64 (wi (1 + (wi (Int.tmod (IntKind.wrap .u64 a0) 6))))), (6, .pointer (some ⟨b27, 0, none⟩)), (7, .pointer (some ⟨b21, 0, none⟩)), (14, .int .i64 (wi (x14_l2 + 1))), (15, .int .i64 x81_l2), (33, .slice A1 l1.length c1), (34, .int .i64 (l1.length : Int)), (35, .int .i64 x35_l1), (80, (aInts .i64 y52)), (81, .int .i64 x81_l2)]) (w' := w) kr ?_
      refine WR.nil ?_
      refine At.go ?_
      refine WC.seq kr ?_
      refine WC.reg [0, 1, 2, 3] kr kr ?_
      refine WR.runk [0, 1] [2, 3] [5, 6, 7, 14, 33, 34, 35, 80, 81, 89, 90] (L' := [(5, .int .i64 (wi (1 + (wi (Int.tmod (IntKind.wrap .u64 a0) 6))))), (6, .pointer (some ⟨b27, 0, none⟩)), (7, .pointer (some ⟨b21, 0, none⟩)), (14, .int .i64 (wi (x14_l2 + 1))), (33, .slice A1 l1.length c1), (34, .int .i64 (l1.length : Int)), (35, .int .i64 x35_l1), (80, (aInts .i64 y52)), (81, .int .i64 x81_l2), (89, .pointer (some ⟨b27, 0, none⟩)), (90, .int .i64 x81_l2)]) (w' := w) kr ?_
      obtain ⟨r62, e63, H⟩ := bind_ex H
      refine WR.st (St.call kr (f := 14) (args := #[.pointer (some ⟨b27, 0, none⟩), .int .i64 x81_l2]) kr (cache_Cache_Has.calls w (.pointer (some ⟨b27, 0, none⟩)) (some r38.2) (Sat.rdAny 0 hS rfl (fun _ h => O66.rd _ _ _ h)) x81_l2 r62 e63) ?_)
      rintro _ w69 ⟨rfl, hS70⟩
      have hS : Sat w69 (rf w0) [O66 b27 r38.2, oar 48 (r0 (.int .i64)) 1 21 b21 y52] := hS.ext hS70
      refine WR.runk [3] [] [5, 6, 7, 14, 33, 34, 35, 80, 81, 92] (L' := [(5, .int .i64 (wi (1 + (wi (Int.tmod (IntKind.wrap .u64 a0) 6))))), (6, .pointer (some ⟨b27, 0, none⟩)), (7, .pointer (some ⟨b21, 0, none⟩)), (14, .int .i64 (wi (x14_l2 + 1))), (33, .slice A1 l1.length c1), (34, .int .i64 (l1.length : Int)), (35, .int .i64 x35_l1), (80, (aInts .i64 y52)), (81, .int .i64 x81_l2), (92, .bool (!r62))]) (w' := w69) kr ?_
      refine WR.nil ?_
      refine At.go ?_
      refine WC.cond kr (!r62) kr kr (fun hb71 => ?_) (fun hb71 => ?_)
      ·replace H := ite_t H hb71
       refine WC.seq kr ?_
       refine WC.reg [0] kr kr ?_
       refine WR.runk [0] [] [4] (L' := [(4, .bool false)]) (w' := w69) kr ?_
       refine WR.nil ?_
       refine At.go ?_
       refine WC.ret kr ?_
       refine At.blockRet ?_
       refine At.thenRet ?_
       refine At.thenRet ?_
       obtain rfl := Option.some.inj H
       have hS : Sat w69 (rf w0) [O66 b27 r38.2, oar 48 (r0 (.int .i64)) 1 21 b21 y52] := hS.sel [0, 1] kr
       refine At.weaken [4] (L' := [(4, .bool false)]) kr ?_
       exact hn0 false _ rfl hS
      ·replace H := ite_f H hb71
       refine WC.skip kr ?_
       refine At.blockNormal ?_
       refine At.go ?_
       refine WC.reg [0, 1] kr kr ?_
       refine WR.runk [0, 1] [] [5, 6, 7, 14, 33, 34, 35, 80, 81] (L' := [(5, .int .i64 (wi (1 + (wi (Int.tmod (IntKind.wrap .u64 a0) 6))))), (6, .pointer (some ⟨b27, 0, none⟩)), (7, .pointer (some ⟨b21, 0, none⟩)), (14, .int .i64 (wi (x14_l2 + 1))), (33, .slice A1 l1.length c1), (34, .int .i64 (l1.length : Int)), (35, .int .i64 x35_l1), (80, (aInts .i64 y52)), (81, .int .i64 (wi (x81_l2 + 1)))]) (w' := w69) kr ?_
       refine WR.nil ?_
       have hS : Sat w69 (rf w0) [O66 b27 r38.2, oar 48 (r0 (.int .i64)) 1 21 b21 y52] := hS.sel [0, 1] kr
       refine At.again ?_
       refine WL.weaken [5, 6, 7, 14, 33, 34, 35, 80, 81] (L' := [(5, .int .i64 (wi (1 + (wi (Int.tmod (IntKind.wrap .u64 a0) 6))))), (6, .pointer (some ⟨b27, 0, none⟩)), (7, .pointer (some ⟨b21, 0, none⟩)), (14, .int .i64 (wi (x14_l2 + 1))), (33, .slice A1 l1.length c1), (34, .int .i64 (l1.length : Int)), (35, .int .i64 x35_l1), (80, (aInts .i64 y52)), (81, .int .i64 (wi (x81_l2 + 1)))]) kr ?_
       exact ih (wi (x14_l2 + 1)) (wi (x81_l2 + 1)) _ hS H
     ·replace H := ite_f H hb61
      refine WC.skip kr ?_
      refine At.blockNormal ?_
      refine At.go ?_
      refine WC.reg [0, 1] kr kr ?_
      refine WR.runk [0, 1] [] [5, 6, 7, 14, 33, 34, 35, 80, 81] (L' := [(5, .int .i64 (wi (1 + (wi (Int.tmod (IntKind.wrap .u64 a0) 6))))), (6, .pointer (some ⟨b27, 0, none⟩)), (7, .pointer (some ⟨b21, 0, none⟩)), (14, .int .i64 x14_l2), (33, .slice A1 l1.length c1), (34, .int .i64 (l1.length : Int)), (35, .int .i64 x35_l1), (80, (aInts .i64 y52)), (81, .int .i64 (wi (x81_l2 + 1)))]) (w' := w) kr ?_
      refine WR.nil ?_
      have hS : Sat w (rf w0) [O66 b27 r38.2, oar 48 (r0 (.int .i64)) 1 21 b21 y52] := hS.sel [0, 1] kr
      refine At.again ?_
      refine WL.weaken [5, 6, 7, 14, 33, 34, 35, 80, 81] (L' := [(5, .int .i64 (wi (1 + (wi (Int.tmod (IntKind.wrap .u64 a0) 6))))), (6, .pointer (some ⟨b27, 0, none⟩)), (7, .pointer (some ⟨b21, 0, none⟩)), (14, .int .i64 x14_l2), (33, .slice A1 l1.length c1), (34, .int .i64 (l1.length : Int)), (35, .int .i64 x35_l1), (80, (aInts .i64 y52)), (81, .int .i64 (wi (x81_l2 + 1)))]) kr ?_
      exact ih x14_l2 (wi (x81_l2 + 1)) _ hS H
    ·replace H := ite_f H hb58
     refine WC.exit kr ?_
     refine At.thenExit ?_
     refine At.thenExit ?_
     obtain rfl := Option.some.inj H
     have hS : Sat w (rf w0) [O66 b27 r38.2, oar 48 (r0 (.int .i64)) 1 21 b21 y52] := hS.sel [0, 1] kr
     refine At.weaken [5, 6, 7, 14, 33, 34, 35] (L' := [(5, .int .i64 (wi (1 + (wi (Int.tmod (IntKind.wrap .u64 a0) 6))))), (6, .pointer (some ⟨b27, 0, none⟩)), (7, .pointer (some ⟨b21, 0, none⟩)), (14, .int .i64 x14_l2), (33, .slice A1 l1.length c1), (34, .int .i64 (l1.length : Int)), (35, .int .i64 x35_l1)]) kr ?_
     exact hn1 x14_l2 _ rfl hS
theorem colophonlaw07_CacheBounds.l3_ok {Q} (w0 : World) (a0 : Int) (A1 : Option Addr) (c1 : Nat) (l1 : List Int) (b21 : Nat) (b27 : Nat) (x35_l1 : Int) (r98 : (List Int) × Bool × Int × ((Option ((List (List Int)) × (List Int) × (List Int))) × (List (Int × (List Int) × Bool × Int)) × Int × Int × Int)) (y114 : List Int) (hl119 : List.length y114 = 21) (out : Sum Bool Int) (hn0 : ∀ (o0 : Bool) (w : World), out = (.inl o0) → Sat w (rf w0) [O66 b27 r98.2.2.2, oar 48 (r0 (.int .i64)) 1 21 b21 y114] → At Q .ret 144 [(4, .bool o0)] w) (hn1 : ∀ (o1 : Int) (w : World), out = (.inr o1) → Sat w (rf w0) [O66 b27 r98.2.2.2, oar 48 (r0 (.int .i64)) 1 21 b21 y114] → At Q (.exit 2) 144 [(5, .int .i64 (wi (1 + (wi (Int.tmod (IntKind.wrap .u64 a0) 6))))), (6, .pointer (some ⟨b27, 0, none⟩)), (7, .pointer (some ⟨b21, 0, none⟩)), (14, .int .i64 o1), (33, .slice A1 l1.length c1), (34, .int .i64 (l1.length : Int)), (35, .int .i64 x35_l1)] w) :
    ∀ (k : Nat) (x14_l3 : Int) (x81_l3 : Int) (w : World), Sat w (rf w0) [O66 b27 r98.2.2.2, oar 48 (r0 (.int .i64)) 1 21 b21 y114] → colophonlaw07_CacheBounds.l3 r98 y114 k x14_l3 x81_l3 = some out → WL Try.prog (cbody (cbody (cr (cl (cr (cr (cr (cr (cr (cbody (cl (cr (cr (cbody (cbody (cr (cl (cr (cr (cr (cr (cr C4)))))))))))))))))))))) Q 144 [(5, .int .i64 (wi (1 + (wi (Int.tmod (IntKind.wrap .u64 a0) 6))))), (6, .pointer (some ⟨b27, 0, none⟩)), (7, .pointer (some ⟨b21, 0, none⟩)), (14, .int .i64 x14_l3), (33, .slice A1 l1.length c1), (34, .int .i64 (l1.length : Int)), (35, .int .i64 x35_l1), (80, (aInts .i64 y114)), (81, .int .i64 x81_l3)] w := by
  intro k
  induction k with
  | zero => intro x14_l3 x81_l3 w hS H; exact absurd (show none = some out from H) (by simp)
  | succ k ih =>
    intro x14_l3 x81_l3 w hS H
    unfold colophonlaw07_CacheBounds.l3 at H
    refine WL.round ?_
    refine WC.seq kr ?_
    refine WC.reg [0] kr kr ?_
    refine WR.runk [0] [] [5, 6, 7, 14, 33, 34, 35, 80, 81, 82] (L' := [(5, .int .i64 (wi (1 + (wi (Int.tmod (IntKind.wrap .u64 a0) 6))))), (6, .pointer (some ⟨b27, 0, none⟩)), (7, .pointer (some ⟨b21, 0, none⟩)), (14, .int .i64 x14_l3), (33, .slice A1 l1.length c1), (34, .int .i64 (l1.length : Int)), (35, .int .i64 x35_l1), (80, (aInts .i64 y114)), (81, .int .i64 x81_l3), (82, .bool (decide (x81_l3 < 21)))]) (w' := w) kr ?_
    refine WR.nil ?_
    refine At.go ?_
    refine WC.seq kr ?_
    refine WC.cond kr (decide (x81_l3 < 21)) kr kr (fun hb120 => ?_) (fun hb120 => ?_)
    ·replace H := ite_t H hb120
     refine WC.skip kr ?_
     refine At.go ?_
     refine WC.seq kr ?_
     refine WC.block kr ?_
     refine WC.seq kr ?_
     refine WC.reg [0, 1, 2, 3] kr kr ?_
     refine WR.runk [0] [1, 2, 3] [5, 6, 7, 14, 33, 34, 35, 80, 81, 83] (L' := [(5, .int .i64 (wi (1 + (wi (Int.tmod (IntKind.wrap .u64 a0) 6))))), (6, .pointer (some ⟨b27, 0, none⟩)), (7, .pointer (some ⟨b21, 0, none⟩)), (14, .int .i64 x14_l3), (33, .slice A1 l1.length c1), (34, .int .i64 (l1.length : Int)), (35, .int .i64 x35_l1), (80, (aInts .i64 y114)), (81, .int .i64 x81_l3), (83, .int .i64 x81_l3)]) (w' := w) kr ?_
     obtain ⟨v121, e122, H⟩ := bind_ex H
     refine WR.st (St.ofP (PSt.idxAgg (t := 48) (e := 3) (kk := .i64) (k := .i64) (.tmp 80) (.tmp 81) kr kr kr kr kr hl119 kr kr e122 ?_))
     refine WR.runk [2, 3] [] [5, 6, 7, 14, 15, 16, 33, 34, 35, 80, 81] (L' := [(5, .int .i64 (wi (1 + (wi (Int.tmod (IntKind.wrap .u64 a0) 6))))), (6, .pointer (some ⟨b27, 0, none⟩)), (7, .pointer (some ⟨b21, 0, none⟩)), (14, .int .i64 x14_l3), (15, .int .i64 x81_l3), (16, .int .i64 v121), (33, .slice A1 l1.length c1), (34, .int .i64 (l1.length : Int)), (35, .int .i64 x35_l1), (80, (aInts .i64 y114)), (81, .int .i64 x81_l3)]) (w' := w) kr ?_
     refine WR.nil ?_
     refine At.go ?_
     refine WC.seq kr ?_
     refine WC.reg [0, 1] kr kr ?_
     refine WR.runk [0, 1] [] [5, 6, 7, 14, 15, 33, 34, 35, 80, 81, 86] (L' := [(5, .int .i64 (wi (1 + (wi (Int.tmod (IntKind.wrap .u64 a0) 6))))), (6, .pointer (some ⟨b27, 0, none⟩)), (7, .pointer (some ⟨b21, 0, none⟩)), (14, .int .i64 x14_l3), (15, .int .i64 x81_l3), (33, .slice A1 l1.length c1), (34, .int .i64 (l1.length : Int)), (35, .int .i64 x35_l1), (80, (aInts .i64 y114)), (81, .int .i64 x81_l3), (86, .bool (decide (v121 > 0)))]) (w' := w) kr ?_
     refine WR.nil ?_
     refine At.go ?_
     refine WC.cond kr (decide (v121 > 0)) kr kr (fun hb123 => ?_) (fun hb123 => ?_)
     ·replace H := ite_t H hb123
      refine WC.seq kr ?_
      refine WC.reg [0, 1, 2] kr kr ?_
      refine WR.runk [0, 1, 2] [] [5, 6, 7, 14, 15, 33, 34, 35, 80, 81] (L' := [(5, .int .i64 (wi (1 + (wi (Int.tmod (IntKind.wrap .u64 a0) 6))))), (6, .pointer (some ⟨b27, 0, none⟩)), (7, .pointer (some ⟨b21, 0, none⟩)), (14, .int .i64 (wi (x14_l3 + 1))), (15, .int .i64 x81_l3), (33, .slice A1 l1.length c1), (34, .int .i64 (l1.length : Int)), (35, .int .i64 x35_l1), (80, (aInts .i64 y114)), (81, .int .i64 x81_l3)]) (w' := w) kr ?_
      refine WR.nil ?_
      refine At.go ?_
      refine WC.seq kr ?_
      refine WC.reg [0, 1, 2, 3] kr kr ?_
      refine WR.runk [0, 1] [2, 3] [5, 6, 7, 14, 33, 34, 35, 80, 81, 89, 90] (L' := [(5, .int .i64 (wi (1 + (wi (Int.tmod (IntKind.wrap .u64 a0) 6))))), (6, .pointer (some ⟨b27, 0, none⟩)), (7, .pointer (some ⟨b21, 0, none⟩)), (14, .int .i64 (wi (x14_l3 + 1))), (33, .slice A1 l1.length c1), (34, .int .i64 (l1.length : Int)), (35, .int .i64 x35_l1), (80, (aInts .i64 y114)), (81, .int .i64 x81_l3), (89, .pointer (some ⟨b27, 0, none⟩)), (90, .int .i64 x81_l3)]) (w' := w) kr ?_
      obtain ⟨r124, e125, H⟩ := bind_ex H
      refine WR.st (St.call kr (f := 14) (args := #[.pointer (some ⟨b27, 0, none⟩), .int .i64 x81_l3]) kr (cache_Cache_Has.calls w (.pointer (some ⟨b27, 0, none⟩)) (some r98.2.2.2) (Sat.rdAny 0 hS rfl (fun _ h => O66.rd _ _ _ h)) x81_l3 r124 e125) ?_)
      rintro _ w131 ⟨rfl, hS132⟩
      have hS : Sat w131 (rf w0) [O66 b27 r98.2.2.2, oar 48 (r0 (.int .i64)) 1 21 b21 y114] := hS.ext hS132
      refine WR.runk [3] [] [5, 6, 7, 14, 33, 34, 35, 80, 81, 92] (L' := [(5, .int .i64 (wi (1 + (wi (Int.tmod (IntKind.wrap .u64 a0) 6))))), (6, .pointer (some ⟨b27, 0, none⟩)), (7, .pointer (some ⟨b21, 0, none⟩)), (14, .int .i64 (wi (x14_l3 + 1))), (33, .slice A1 l1.length c1), (34, .int .i64 (l1.length : Int)), (35, .int .i64 x35_l1), (80, (aInts .i64 y114)), (81, .int .i64 x81_l3), (92, .bool (!r124))]) (w' := w131) kr ?_
      refine WR.nil ?_
      refine At.go ?_
      refine WC.cond kr (!r124) kr kr (fun hb133 => ?_) (fun hb133 => ?_)
      ·replace H := ite_t H hb133
       refine WC.seq kr ?_
       refine WC.reg [0] kr kr ?_
       refine WR.runk [0] [] [4] (L' := [(4, .bool false)]) (w' := w131) kr ?_
       refine WR.nil ?_
       refine At.go ?_
       refine WC.ret kr ?_
       refine At.blockRet ?_
       refine At.thenRet ?_
       refine At.thenRet ?_
       obtain rfl := Option.some.inj H
       have hS : Sat w131 (rf w0) [O66 b27 r98.2.2.2, oar 48 (r0 (.int .i64)) 1 21 b21 y114] := hS.sel [0, 1] kr
       refine At.weaken [4] (L' := [(4, .bool false)]) kr ?_
       exact hn0 false _ rfl hS
      ·replace H := ite_f H hb133
       refine WC.skip kr ?_
       refine At.blockNormal ?_
       refine At.go ?_
       refine WC.reg [0, 1] kr kr ?_
       refine WR.runk [0, 1] [] [5, 6, 7, 14, 33, 34, 35, 80, 81] (L' := [(5, .int .i64 (wi (1 + (wi (Int.tmod (IntKind.wrap .u64 a0) 6))))), (6, .pointer (some ⟨b27, 0, none⟩)), (7, .pointer (some ⟨b21, 0, none⟩)), (14, .int .i64 (wi (x14_l3 + 1))), (33, .slice A1 l1.length c1), (34, .int .i64 (l1.length : Int)), (35, .int .i64 x35_l1), (80, (aInts .i64 y114)), (81, .int .i64 (wi (x81_l3 + 1)))]) (w' := w131) kr ?_
       refine WR.nil ?_
       have hS : Sat w131 (rf w0) [O66 b27 r98.2.2.2, oar 48 (r0 (.int .i64)) 1 21 b21 y114] := hS.sel [0, 1] kr
       refine At.again ?_
       refine WL.weaken [5, 6, 7, 14, 33, 34, 35, 80, 81] (L' := [(5, .int .i64 (wi (1 + (wi (Int.tmod (IntKind.wrap .u64 a0) 6))))), (6, .pointer (some ⟨b27, 0, none⟩)), (7, .pointer (some ⟨b21, 0, none⟩)), (14, .int .i64 (wi (x14_l3 + 1))), (33, .slice A1 l1.length c1), (34, .int .i64 (l1.length : Int)), (35, .int .i64 x35_l1), (80, (aInts .i64 y114)), (81, .int .i64 (wi (x81_l3 + 1)))]) kr ?_
       exact ih (wi (x14_l3 + 1)) (wi (x81_l3 + 1)) _ hS H
     ·replace H := ite_f H hb123
      refine WC.skip kr ?_
      refine At.blockNormal ?_
      refine At.go ?_
      refine WC.reg [0, 1] kr kr ?_
      refine WR.runk [0, 1] [] [5, 6, 7, 14, 33, 34, 35, 80, 81] (L' := [(5, .int .i64 (wi (1 + (wi (Int.tmod (IntKind.wrap .u64 a0) 6))))), (6, .pointer (some ⟨b27, 0, none⟩)), (7, .pointer (some ⟨b21, 0, none⟩)), (14, .int .i64 x14_l3), (33, .slice A1 l1.length c1), (34, .int .i64 (l1.length : Int)), (35, .int .i64 x35_l1), (80, (aInts .i64 y114)), (81, .int .i64 (wi (x81_l3 + 1)))]) (w' := w) kr ?_
      refine WR.nil ?_
      have hS : Sat w (rf w0) [O66 b27 r98.2.2.2, oar 48 (r0 (.int .i64)) 1 21 b21 y114] := hS.sel [0, 1] kr
      refine At.again ?_
      refine WL.weaken [5, 6, 7, 14, 33, 34, 35, 80, 81] (L' := [(5, .int .i64 (wi (1 + (wi (Int.tmod (IntKind.wrap .u64 a0) 6))))), (6, .pointer (some ⟨b27, 0, none⟩)), (7, .pointer (some ⟨b21, 0, none⟩)), (14, .int .i64 x14_l3), (33, .slice A1 l1.length c1), (34, .int .i64 (l1.length : Int)), (35, .int .i64 x35_l1), (80, (aInts .i64 y114)), (81, .int .i64 (wi (x81_l3 + 1)))]) kr ?_
      exact ih x14_l3 (wi (x81_l3 + 1)) _ hS H
    ·replace H := ite_f H hb120
     refine WC.exit kr ?_
     refine At.thenExit ?_
     refine At.thenExit ?_
     obtain rfl := Option.some.inj H
     have hS : Sat w (rf w0) [O66 b27 r98.2.2.2, oar 48 (r0 (.int .i64)) 1 21 b21 y114] := hS.sel [0, 1] kr
     refine At.weaken [5, 6, 7, 14, 33, 34, 35] (L' := [(5, .int .i64 (wi (1 + (wi (Int.tmod (IntKind.wrap .u64 a0) 6))))), (6, .pointer (some ⟨b27, 0, none⟩)), (7, .pointer (some ⟨b21, 0, none⟩)), (14, .int .i64 x14_l3), (33, .slice A1 l1.length c1), (34, .int .i64 (l1.length : Int)), (35, .int .i64 x35_l1)]) kr ?_
     exact hn1 x14_l3 _ rfl hS
theorem colophonlaw07_CacheBounds.l4_ok {Q} (w0 : World) (a0 : Int) (A1 : Option Addr) (c1 : Nat) (l1 : List Int) (b21 : Nat) (b27 : Nat) (x35_l1 : Int) (q23_l1 : List Int) (r98 : (List Int) × Bool × Int × ((Option ((List (List Int)) × (List Int) × (List Int))) × (List (Int × (List Int) × Bool × Int)) × Int × Int × Int)) (hl160 : List.length q23_l1 = 21) (out : Sum Bool Int) (hn0 : ∀ (o0 : Bool) (w : World), out = (.inl o0) → Sat w (rf w0) [O66 b27 r98.2.2.2, oar 48 (r0 (.int .i64)) 1 21 b21 q23_l1] → At Q .ret 144 [(4, .bool o0)] w) (hn1 : ∀ (o1 : Int) (w : World), out = (.inr o1) → Sat w (rf w0) [O66 b27 r98.2.2.2, oar 48 (r0 (.int .i64)) 1 21 b21 q23_l1] → At Q (.exit 2) 144 [(5, .int .i64 (wi (1 + (wi (Int.tmod (IntKind.wrap .u64 a0) 6))))), (6, .pointer (some ⟨b27, 0, none⟩)), (7, .pointer (some ⟨b21, 0, none⟩)), (14, .int .i64 o1), (33, .slice A1 l1.length c1), (34, .int .i64 (l1.length : Int)), (35, .int .i64 x35_l1)] w) :
    ∀ (k : Nat) (x14_l4 : Int) (x81_l4 : Int) (w : World), Sat w (rf w0) [O66 b27 r98.2.2.2, oar 48 (r0 (.int .i64)) 1 21 b21 q23_l1] → colophonlaw07_CacheBounds.l4 q23_l1 r98 k x14_l4 x81_l4 = some out → WL Try.prog (cbody (cbody (cr (cl (cr (cr (cr (cr (cr (cbody (cl (cr (cr (cbody (cbody (cr (cl (cr (cr (cr (cr (cr C4)))))))))))))))))))))) Q 144 [(5, .int .i64 (wi (1 + (wi (Int.tmod (IntKind.wrap .u64 a0) 6))))), (6, .pointer (some ⟨b27, 0, none⟩)), (7, .pointer (some ⟨b21, 0, none⟩)), (14, .int .i64 x14_l4), (33, .slice A1 l1.length c1), (34, .int .i64 (l1.length : Int)), (35, .int .i64 x35_l1), (80, (aInts .i64 q23_l1)), (81, .int .i64 x81_l4)] w := by
  intro k
  induction k with
  | zero => intro x14_l4 x81_l4 w hS H; exact absurd (show none = some out from H) (by simp)
  | succ k ih =>
    intro x14_l4 x81_l4 w hS H
    unfold colophonlaw07_CacheBounds.l4 at H
    refine WL.round ?_
    refine WC.seq kr ?_
    refine WC.reg [0] kr kr ?_
    refine WR.runk [0] [] [5, 6, 7, 14, 33, 34, 35, 80, 81, 82] (L' := [(5, .int .i64 (wi (1 + (wi (Int.tmod (IntKind.wrap .u64 a0) 6))))), (6, .pointer (some ⟨b27, 0, none⟩)), (7, .pointer (some ⟨b21, 0, none⟩)), (14, .int .i64 x14_l4), (33, .slice A1 l1.length c1), (34, .int .i64 (l1.length : Int)), (35, .int .i64 x35_l1), (80, (aInts .i64 q23_l1)), (81, .int .i64 x81_l4), (82, .bool (decide (x81_l4 < 21)))]) (w' := w) kr ?_
    refine WR.nil ?_
    refine At.go ?_
    refine WC.seq kr ?_
    refine WC.cond kr (decide (x81_l4 < 21)) kr kr (fun hb161 => ?_) (fun hb161 => ?_)
    ·replace H := ite_t H hb161
     refine WC.skip kr ?_
     refine At.go ?_
     refine WC.seq kr ?_
     refine WC.block kr ?_
     refine WC.seq kr ?_
     refine WC.reg [0, 1, 2, 3] kr kr ?_
     refine WR.runk [0] [1, 2, 3] [5, 6, 7, 14, 33, 34, 35, 80, 81, 83] (L' := [(5, .int .i64 (wi (1 + (wi (Int.tmod (IntKind.wrap .u64 a0) 6))))), (6, .pointer (some ⟨b27, 0, none⟩)), (7, .pointer (some ⟨b21, 0, none⟩)), (14, .int .i64 x14_l4), (33, .slice A1 l1.length c1), (34, .int .i64 (l1.length : Int)), (35, .int .i64 x35_l1), (80, (aInts .i64 q23_l1)), (81, .int .i64 x81_l4), (83, .int .i64 x81_l4)]) (w' := w) kr ?_
     obtain ⟨v162, e163, H⟩ := bind_ex H
     refine WR.st (St.ofP (PSt.idxAgg (t := 48) (e := 3) (kk := .i64) (k := .i64) (.tmp 80) (.tmp 81) kr kr kr kr kr hl160 kr kr e163 ?_))
     refine WR.runk [2, 3] [] [5, 6, 7, 14, 15, 16, 33, 34, 35, 80, 81] (L' := [(5, .int .i64 (wi (1 + (wi (Int.tmod (IntKind.wrap .u64 a0) 6))))), (6, .pointer (some ⟨b27, 0, none⟩)), (7, .pointer (some ⟨b21, 0, none⟩)), (14, .int .i64 x14_l4), (15, .int .i64 x81_l4), (16, .int .i64 v162), (33, .slice A1 l1.length c1), (34, .int .i64 (l1.length : Int)), (35, .int .i64 x35_l1), (80, (aInts .i64 q23_l1)), (81, .int .i64 x81_l4)]) (w' := w) kr ?_
     refine WR.nil ?_
     refine At.go ?_
     refine WC.seq kr ?_
     refine WC.reg [0, 1] kr kr ?_
     refine WR.runk [0, 1] [] [5, 6, 7, 14, 15, 33, 34, 35, 80, 81, 86] (L' := [(5, .int .i64 (wi (1 + (wi (Int.tmod (IntKind.wrap .u64 a0) 6))))), (6, .pointer (some ⟨b27, 0, none⟩)), (7, .pointer (some ⟨b21, 0, none⟩)), (14, .int .i64 x14_l4), (15, .int .i64 x81_l4), (33, .slice A1 l1.length c1), (34, .int .i64 (l1.length : Int)), (35, .int .i64 x35_l1), (80, (aInts .i64 q23_l1)), (81, .int .i64 x81_l4), (86, .bool (decide (v162 > 0)))]) (w' := w) kr ?_
     refine WR.nil ?_
     refine At.go ?_
     refine WC.cond kr (decide (v162 > 0)) kr kr (fun hb164 => ?_) (fun hb164 => ?_)
     ·replace H := ite_t H hb164
      refine WC.seq kr ?_
      refine WC.reg [0, 1, 2] kr kr ?_
      refine WR.runk [0, 1, 2] [] [5, 6, 7, 14, 15, 33, 34, 35, 80, 81] (L' := [(5, .int .i64 (wi (1 + (wi (Int.tmod (IntKind.wrap .u64 a0) 6))))), (6, .pointer (some ⟨b27, 0, none⟩)), (7, .pointer (some ⟨b21, 0, none⟩)), (14, .int .i64 (wi (x14_l4 + 1))), (15, .int .i64 x81_l4), (33, .slice A1 l1.length c1), (34, .int .i64 (l1.length : Int)), (35, .int .i64 x35_l1), (80, (aInts .i64 q23_l1)), (81, .int .i64 x81_l4)]) (w' := w) kr ?_
      refine WR.nil ?_
      refine At.go ?_
      refine WC.seq kr ?_
      refine WC.reg [0, 1, 2, 3] kr kr ?_
      refine WR.runk [0, 1] [2, 3] [5, 6, 7, 14, 33, 34, 35, 80, 81, 89, 90] (L' := [(5, .int .i64 (wi (1 + (wi (Int.tmod (IntKind.wrap .u64 a0) 6))))), (6, .pointer (some ⟨b27, 0, none⟩)), (7, .pointer (some ⟨b21, 0, none⟩)), (14, .int .i64 (wi (x14_l4 + 1))), (33, .slice A1 l1.length c1), (34, .int .i64 (l1.length : Int)), (35, .int .i64 x35_l1), (80, (aInts .i64 q23_l1)), (81, .int .i64 x81_l4), (89, .pointer (some ⟨b27, 0, none⟩)), (90, .int .i64 x81_l4)]) (w' := w) kr ?_
      obtain ⟨r165, e166, H⟩ := bind_ex H
      refine WR.st (St.call kr (f := 14) (args := #[.pointer (some ⟨b27, 0, none⟩), .int .i64 x81_l4]) kr (cache_Cache_Has.calls w (.pointer (some ⟨b27, 0, none⟩)) (some r98.2.2.2) (Sat.rdAny 0 hS rfl (fun _ h => O66.rd _ _ _ h)) x81_l4 r165 e166) ?_)
      rintro _ w172 ⟨rfl, hS173⟩
      have hS : Sat w172 (rf w0) [O66 b27 r98.2.2.2, oar 48 (r0 (.int .i64)) 1 21 b21 q23_l1] := hS.ext hS173
      refine WR.runk [3] [] [5, 6, 7, 14, 33, 34, 35, 80, 81, 92] (L' := [(5, .int .i64 (wi (1 + (wi (Int.tmod (IntKind.wrap .u64 a0) 6))))), (6, .pointer (some ⟨b27, 0, none⟩)), (7, .pointer (some ⟨b21, 0, none⟩)), (14, .int .i64 (wi (x14_l4 + 1))), (33, .slice A1 l1.length c1), (34, .int .i64 (l1.length : Int)), (35, .int .i64 x35_l1), (80, (aInts .i64 q23_l1)), (81, .int .i64 x81_l4), (92, .bool (!r165))]) (w' := w172) kr ?_
      refine WR.nil ?_
      refine At.go ?_
      refine WC.cond kr (!r165) kr kr (fun hb174 => ?_) (fun hb174 => ?_)
      ·replace H := ite_t H hb174
       refine WC.seq kr ?_
       refine WC.reg [0] kr kr ?_
       refine WR.runk [0] [] [4] (L' := [(4, .bool false)]) (w' := w172) kr ?_
       refine WR.nil ?_
       refine At.go ?_
       refine WC.ret kr ?_
       refine At.blockRet ?_
       refine At.thenRet ?_
       refine At.thenRet ?_
       obtain rfl := Option.some.inj H
       have hS : Sat w172 (rf w0) [O66 b27 r98.2.2.2, oar 48 (r0 (.int .i64)) 1 21 b21 q23_l1] := hS.sel [0, 1] kr
       refine At.weaken [4] (L' := [(4, .bool false)]) kr ?_
       exact hn0 false _ rfl hS
      ·replace H := ite_f H hb174
       refine WC.skip kr ?_
       refine At.blockNormal ?_
       refine At.go ?_
       refine WC.reg [0, 1] kr kr ?_
       refine WR.runk [0, 1] [] [5, 6, 7, 14, 33, 34, 35, 80, 81] (L' := [(5, .int .i64 (wi (1 + (wi (Int.tmod (IntKind.wrap .u64 a0) 6))))), (6, .pointer (some ⟨b27, 0, none⟩)), (7, .pointer (some ⟨b21, 0, none⟩)), (14, .int .i64 (wi (x14_l4 + 1))), (33, .slice A1 l1.length c1), (34, .int .i64 (l1.length : Int)), (35, .int .i64 x35_l1), (80, (aInts .i64 q23_l1)), (81, .int .i64 (wi (x81_l4 + 1)))]) (w' := w172) kr ?_
       refine WR.nil ?_
       have hS : Sat w172 (rf w0) [O66 b27 r98.2.2.2, oar 48 (r0 (.int .i64)) 1 21 b21 q23_l1] := hS.sel [0, 1] kr
       refine At.again ?_
       refine WL.weaken [5, 6, 7, 14, 33, 34, 35, 80, 81] (L' := [(5, .int .i64 (wi (1 + (wi (Int.tmod (IntKind.wrap .u64 a0) 6))))), (6, .pointer (some ⟨b27, 0, none⟩)), (7, .pointer (some ⟨b21, 0, none⟩)), (14, .int .i64 (wi (x14_l4 + 1))), (33, .slice A1 l1.length c1), (34, .int .i64 (l1.length : Int)), (35, .int .i64 x35_l1), (80, (aInts .i64 q23_l1)), (81, .int .i64 (wi (x81_l4 + 1)))]) kr ?_
       exact ih (wi (x14_l4 + 1)) (wi (x81_l4 + 1)) _ hS H
     ·replace H := ite_f H hb164
      refine WC.skip kr ?_
      refine At.blockNormal ?_
      refine At.go ?_
      refine WC.reg [0, 1] kr kr ?_
      refine WR.runk [0, 1] [] [5, 6, 7, 14, 33, 34, 35, 80, 81] (L' := [(5, .int .i64 (wi (1 + (wi (Int.tmod (IntKind.wrap .u64 a0) 6))))), (6, .pointer (some ⟨b27, 0, none⟩)), (7, .pointer (some ⟨b21, 0, none⟩)), (14, .int .i64 x14_l4), (33, .slice A1 l1.length c1), (34, .int .i64 (l1.length : Int)), (35, .int .i64 x35_l1), (80, (aInts .i64 q23_l1)), (81, .int .i64 (wi (x81_l4 + 1)))]) (w' := w) kr ?_
      refine WR.nil ?_
      have hS : Sat w (rf w0) [O66 b27 r98.2.2.2, oar 48 (r0 (.int .i64)) 1 21 b21 q23_l1] := hS.sel [0, 1] kr
      refine At.again ?_
      refine WL.weaken [5, 6, 7, 14, 33, 34, 35, 80, 81] (L' := [(5, .int .i64 (wi (1 + (wi (Int.tmod (IntKind.wrap .u64 a0) 6))))), (6, .pointer (some ⟨b27, 0, none⟩)), (7, .pointer (some ⟨b21, 0, none⟩)), (14, .int .i64 x14_l4), (33, .slice A1 l1.length c1), (34, .int .i64 (l1.length : Int)), (35, .int .i64 x35_l1), (80, (aInts .i64 q23_l1)), (81, .int .i64 (wi (x81_l4 + 1)))]) kr ?_
      exact ih x14_l4 (wi (x81_l4 + 1)) _ hS H
    ·replace H := ite_f H hb161
     refine WC.exit kr ?_
     refine At.thenExit ?_
     refine At.thenExit ?_
     obtain rfl := Option.some.inj H
     have hS : Sat w (rf w0) [O66 b27 r98.2.2.2, oar 48 (r0 (.int .i64)) 1 21 b21 q23_l1] := hS.sel [0, 1] kr
     refine At.weaken [5, 6, 7, 14, 33, 34, 35] (L' := [(5, .int .i64 (wi (1 + (wi (Int.tmod (IntKind.wrap .u64 a0) 6))))), (6, .pointer (some ⟨b27, 0, none⟩)), (7, .pointer (some ⟨b21, 0, none⟩)), (14, .int .i64 x14_l4), (33, .slice A1 l1.length c1), (34, .int .i64 (l1.length : Int)), (35, .int .i64 x35_l1)]) kr ?_
     exact hn1 x14_l4 _ rfl hS
theorem colophonlaw07_CacheBounds.l1_ok {Q} (w0 : World) (a0 : Int) (A1 : Option Addr) (c1 : Nat) (l1 : List Int) (b21 : Nat) (b27 : Nat) (R1 : rdS (r0 (.int .i64)) 1 (hp w0) A1 c1 l1) (out : Sum (((Option ((List (List Int)) × (List Int) × (List Int))) × (List (Int × (List Int) × Bool × Int)) × Int × Int × Int) × (List Int)) (Bool × ((Option ((List (List Int)) × (List Int) × (List Int))) × (List (Int × (List Int) × Bool × Int)) × Int × Int × Int) × (List Int))) (hn0 : ∀ (o0 : ((Option ((List (List Int)) × (List Int) × (List Int))) × (List (Int × (List Int) × Bool × Int)) × Int × Int × Int) × (List Int)) (w : World), out = (.inl o0) → Sat w (rf w0) [O66 b27 o0.1, oar 48 (r0 (.int .i64)) 1 21 b21 o0.2] → At Q (.exit 0) 144 [] w) (hn1 : ∀ (o1 : Bool × ((Option ((List (List Int)) × (List Int) × (List Int))) × (List (Int × (List Int) × Bool × Int)) × Int × Int × Int) × (List Int)) (w : World), out = (.inr o1) → Sat w (rf w0) [O66 b27 o1.2.1, oar 48 (r0 (.int .i64)) 1 21 b21 o1.2.2] → At Q .ret 144 [(4, .bool o1.1)] w) :
    ∀ (k : Nat) (x35_l1 : Int) (q28_l1 : (Option ((List (List Int)) × (List Int) × (List Int))) × (List (Int × (List Int) × Bool × Int)) × Int × Int × Int) (q23_l1 : List Int) (w : World), Sat w (rf w0) [O66 b27 q28_l1, oar 48 (r0 (.int .i64)) 1 21 b21 q23_l1] → colophonlaw07_CacheBounds.l1 a0 l1 k x35_l1 q28_l1 q23_l1 = some out → WL Try.prog (cbody (cbody (cr (cl (cr (cr (cr (cr (cr C4))))))))) Q 144 [(5, .int .i64 (wi (1 + (wi (Int.tmod (IntKind.wrap .u64 a0) 6))))), (6, .pointer (some ⟨b27, 0, none⟩)), (7, .pointer (some ⟨b21, 0, none⟩)), (33, .slice A1 l1.length c1), (34, .int .i64 (l1.length : Int)), (35, .int .i64 x35_l1)] w := by
  intro k
  induction k with
  | zero => intro x35_l1 q28_l1 q23_l1 w hS H; exact absurd (show none = some out from H) (by simp)
  | succ k ih =>
    intro x35_l1 q28_l1 q23_l1 w hS H
    unfold colophonlaw07_CacheBounds.l1 at H
    refine WL.round ?_
    refine WC.seq kr ?_
    refine WC.reg [0] kr kr ?_
    refine WR.runk [0] [] [5, 6, 7, 33, 34, 35, 36] (L' := [(5, .int .i64 (wi (1 + (wi (Int.tmod (IntKind.wrap .u64 a0) 6))))), (6, .pointer (some ⟨b27, 0, none⟩)), (7, .pointer (some ⟨b21, 0, none⟩)), (33, .slice A1 l1.length c1), (34, .int .i64 (l1.length : Int)), (35, .int .i64 x35_l1), (36, .bool (decide (x35_l1 < (l1.length : Int))))]) (w' := w) kr ?_
    refine WR.nil ?_
    refine At.go ?_
    refine WC.seq kr ?_
    refine WC.cond kr (decide (x35_l1 < (l1.length : Int))) kr kr (fun hb29 => ?_) (fun hb29 => ?_)
    ·replace H := ite_t H hb29
     refine WC.skip kr ?_
     refine At.go ?_
     refine WC.seq kr ?_
     refine WC.block kr ?_
     refine WC.seq kr ?_
     refine WC.reg [0, 1, 2, 3, 4] kr kr ?_
     refine WR.runk [0] [1, 2, 3, 4] [5, 6, 7, 33, 34, 35, 37] (L' := [(5, .int .i64 (wi (1 + (wi (Int.tmod (IntKind.wrap .u64 a0) 6))))), (6, .pointer (some ⟨b27, 0, none⟩)), (7, .pointer (some ⟨b21, 0, none⟩)), (33, .slice A1 l1.length c1), (34, .int .i64 (l1.length : Int)), (35, .int .i64 x35_l1), (37, .int .i64 x35_l1)]) (w' := w) kr ?_
     obtain ⟨v30, e31, H⟩ := bind_ex H
     refine WR.st (St.ofP (PSt.idx (k := .i64) (.tmp 33) (.tmp 35) kr kr E47 kr kr (rdS.up R1 hS.sub0) e31 ?_))
     refine WR.runk [] [2, 3, 4] [5, 6, 7, 33, 34, 35, 37, 38] (L' := [(5, .int .i64 (wi (1 + (wi (Int.tmod (IntKind.wrap .u64 a0) 6))))), (6, .pointer (some ⟨b27, 0, none⟩)), (7, .pointer (some ⟨b21, 0, none⟩)), (33, .slice A1 l1.length c1), (34, .int .i64 (l1.length : Int)), (35, .int .i64 x35_l1), (37, .int .i64 x35_l1), (38, .pointer (some (adr A1 x35_l1.toNat 1)))]) (w' := w) kr ?_
     refine WR.st (St.ofR (RSt.loadInt (t := 3) (.tmp 38) kr kr kr kr (rdS.up R1 hS.sub0) e31 ?_))
     refine WR.runk [3, 4] [] [5, 6, 7, 8, 9, 33, 34, 35] (L' := [(5, .int .i64 (wi (1 + (wi (Int.tmod (IntKind.wrap .u64 a0) 6))))), (6, .pointer (some ⟨b27, 0, none⟩)), (7, .pointer (some ⟨b21, 0, none⟩)), (8, .int .i64 x35_l1), (9, .int .i64 v30), (33, .slice A1 l1.length c1), (34, .int .i64 (l1.length : Int)), (35, .int .i64 x35_l1)]) (w' := w) kr ?_
     refine WR.nil ?_
     refine At.go ?_
     refine WC.seq kr ?_
     refine WC.seq kr ?_
     refine WC.reg [0, 1] kr kr ?_
     refine WR.runk [0, 1] [] [5, 6, 7, 9, 33, 34, 35, 41] (L' := [(5, .int .i64 (wi (1 + (wi (Int.tmod (IntKind.wrap .u64 a0) 6))))), (6, .pointer (some ⟨b27, 0, none⟩)), (7, .pointer (some ⟨b21, 0, none⟩)), (9, .int .i64 v30), (33, .slice A1 l1.length c1), (34, .int .i64 (l1.length : Int)), (35, .int .i64 x35_l1), (41, .bool (decide (x35_l1 ≥ 120)))]) (w' := w) kr ?_
     refine WR.nil ?_
     refine At.go ?_
     refine WC.cond kr (decide (x35_l1 ≥ 120)) kr kr (fun hb32 => ?_) (fun hb32 => ?_)
     ·replace H := ite_t H hb32
      refine WC.exit kr ?_
      refine At.thenExit ?_
      refine At.miss kr ?_
      refine At.thenExit ?_
      refine At.thenExit ?_
      obtain rfl := Option.some.inj H
      have hS : Sat w (rf w0) [O66 b27 q28_l1, oar 48 (r0 (.int .i64)) 1 21 b21 q23_l1] := hS.sel [0, 1] kr
      refine At.weaken [] (L' := []) kr ?_
      exact hn0 (q28_l1, q23_l1) _ rfl hS
     ·replace H := ite_f H hb32
      refine WC.skip kr ?_
      refine At.go ?_
      refine WC.seq kr ?_
      refine WC.reg [0, 1, 2, 3, 4] kr kr ?_
      refine WR.runk [0, 1, 2, 3, 4] [] [5, 6, 7, 9, 10, 33, 34, 35] (L' := [(5, .int .i64 (wi (1 + (wi (Int.tmod (IntKind.wrap .u64 a0) 6))))), (6, .pointer (some ⟨b27, 0, none⟩)), (7, .pointer (some ⟨b21, 0, none⟩)), (9, .int .i64 v30), (10, .int .i64 (wi (Int.tmod (IntKind.wrap .u64 v30) 21))), (33, .slice A1 l1.length c1), (34, .int .i64 (l1.length : Int)), (35, .int .i64 x35_l1)]) (w' := w) kr ?_
      refine WR.nil ?_
      refine At.go ?_
      refine WC.seq kr ?_
      refine WC.seq kr ?_
      refine WC.reg [0, 1, 2, 3, 4] kr kr ?_
      refine WR.runk [0, 1, 2, 3, 4] [] [5, 6, 7, 10, 33, 34, 35, 50] (L' := [(5, .int .i64 (wi (1 + (wi (Int.tmod (IntKind.wrap .u64 a0) 6))))), (6, .pointer (some ⟨b27, 0, none⟩)), (7, .pointer (some ⟨b21, 0, none⟩)), (10, .int .i64 (wi (Int.tmod (IntKind.wrap .u64 v30) 21))), (33, .slice A1 l1.length c1), (34, .int .i64 (l1.length : Int)), (35, .int .i64 x35_l1), (50, .bool ((Int.tmod (IntKind.wrap .u64 (Int.tdiv (IntKind.wrap .u64 v30) 21)) 3) == 0))]) (w' := w) kr ?_
      refine WR.nil ?_
      refine At.go ?_
      refine WC.cond kr ((Int.tmod (IntKind.wrap .u64 (Int.tdiv (IntKind.wrap .u64 v30) 21)) 3) == 0) kr kr (fun hb33 => ?_) (fun hb33 => ?_)
      ·replace H := ite_t H hb33
       refine WC.seq kr ?_
       refine WC.seq kr ?_
       refine WC.drawn kr kr 8 kr (fun w34 hw35 => ?_)
       have hS := hS.heap hw35.1 hw35.2
       refine WD.weaken [5, 6, 7, 10, 33, 34, 35] (L' := [(5, .int .i64 (wi (1 + (wi (Int.tmod (IntKind.wrap .u64 a0) 6))))), (6, .pointer (some ⟨b27, 0, none⟩)), (7, .pointer (some ⟨b21, 0, none⟩)), (10, .int .i64 (wi (Int.tmod (IntKind.wrap .u64 v30) 21))), (33, .slice A1 l1.length c1), (34, .int .i64 (l1.length : Int)), (35, .int .i64 x35_l1)]) kr ?_
       refine WD.pure (i := 0) (v := .pointer (some ⟨b27, 0, none⟩)) kr kr (fun _ => by kernel_rfl) ?_
       refine WD.weaken [5, 6, 7, 10, 33, 34, 35, 51] (L' := [(5, .int .i64 (wi (1 + (wi (Int.tmod (IntKind.wrap .u64 a0) 6))))), (6, .pointer (some ⟨b27, 0, none⟩)), (7, .pointer (some ⟨b21, 0, none⟩)), (10, .int .i64 (wi (Int.tmod (IntKind.wrap .u64 v30) 21))), (33, .slice A1 l1.length c1), (34, .int .i64 (l1.length : Int)), (35, .int .i64 x35_l1), (51, .pointer (some ⟨b27, 0, none⟩))]) kr ?_
       refine WD.pure (i := 1) (v := .int .i64 (wi (Int.tmod (IntKind.wrap .u64 v30) 21))) kr kr (fun _ => by kernel_rfl) ?_
       refine WD.weaken [5, 6, 7, 10, 33, 34, 35, 51, 52] (L' := [(5, .int .i64 (wi (1 + (wi (Int.tmod (IntKind.wrap .u64 a0) 6))))), (6, .pointer (some ⟨b27, 0, none⟩)), (7, .pointer (some ⟨b21, 0, none⟩)), (10, .int .i64 (wi (Int.tmod (IntKind.wrap .u64 v30) 21))), (33, .slice A1 l1.length c1), (34, .int .i64 (l1.length : Int)), (35, .int .i64 x35_l1), (51, .pointer (some ⟨b27, 0, none⟩)), (52, .int .i64 (wi (Int.tmod (IntKind.wrap .u64 v30) 21)))]) kr ?_
       refine WD.pure (i := 3) (v := .int .i64 (wi (Int.tmod (IntKind.wrap .u64 v30) 21))) kr kr (fun _ => by kernel_rfl) ?_
       refine WD.weaken [5, 6, 7, 10, 33, 34, 35, 51, 52, 54] (L' := [(5, .int .i64 (wi (1 + (wi (Int.tmod (IntKind.wrap .u64 a0) 6))))), (6, .pointer (some ⟨b27, 0, none⟩)), (7, .pointer (some ⟨b21, 0, none⟩)), (10, .int .i64 (wi (Int.tmod (IntKind.wrap .u64 v30) 21))), (33, .slice A1 l1.length c1), (34, .int .i64 (l1.length : Int)), (35, .int .i64 x35_l1), (51, .pointer (some ⟨b27, 0, none⟩)), (52, .int .i64 (wi (Int.tmod (IntKind.wrap .u64 v30) 21))), (54, .int .i64 (wi (Int.tmod (IntKind.wrap .u64 v30) 21)))]) kr ?_
       obtain ⟨v36, e37, H⟩ := bind_ex H
       refine WD.ofP (i := 4) kr (PSt.idxArr (k := .i64) (t := 48) (e := 3) (sz := 1) (b := b21) (.tmp 7) (.tmp 54) kr kr kr kr kr kr kr (Sat.oarAt 1 hS rfl).2 e37 ?_)
       refine WD.weaken [5, 6, 7, 10, 33, 34, 35, 51, 52, 55] (L' := [(5, .int .i64 (wi (1 + (wi (Int.tmod (IntKind.wrap .u64 a0) 6))))), (6, .pointer (some ⟨b27, 0, none⟩)), (7, .pointer (some ⟨b21, 0, none⟩)), (10, .int .i64 (wi (Int.tmod (IntKind.wrap .u64 v30) 21))), (33, .slice A1 l1.length c1), (34, .int .i64 (l1.length : Int)), (35, .int .i64 x35_l1), (51, .pointer (some ⟨b27, 0, none⟩)), (52, .int .i64 (wi (Int.tmod (IntKind.wrap .u64 v30) 21))), (55, .pointer (some (adr (some ⟨b21, 0, none⟩) (wi (Int.tmod (IntKind.wrap .u64 v30) 21)).toNat 1)))]) kr ?_
       refine WD.ofR (i := 5) kr (RSt.loadInt (t := 3) (.tmp 55) kr kr kr kr (Sat.oarAt 1 hS rfl).1 e37 ?_)
       refine WD.weaken [5, 6, 7, 10, 33, 34, 35, 51, 52, 56] (L' := [(5, .int .i64 (wi (1 + (wi (Int.tmod (IntKind.wrap .u64 a0) 6))))), (6, .pointer (some ⟨b27, 0, none⟩)), (7, .pointer (some ⟨b21, 0, none⟩)), (10, .int .i64 (wi (Int.tmod (IntKind.wrap .u64 v30) 21))), (33, .slice A1 l1.length c1), (34, .int .i64 (l1.length : Int)), (35, .int .i64 x35_l1), (51, .pointer (some ⟨b27, 0, none⟩)), (52, .int .i64 (wi (Int.tmod (IntKind.wrap .u64 v30) 21))), (56, .int .i64 v36)]) kr ?_
       refine WD.pure (i := 6) (v := .bool (decide (v36 > 0))) kr kr (fun _ => by kernel_rfl) ?_
       refine WD.weaken [5, 6, 7, 10, 33, 34, 35, 51, 52, 57] (L' := [(5, .int .i64 (wi (1 + (wi (Int.tmod (IntKind.wrap .u64 a0) 6))))), (6, .pointer (some ⟨b27, 0, none⟩)), (7, .pointer (some ⟨b21, 0, none⟩)), (10, .int .i64 (wi (Int.tmod (IntKind.wrap .u64 v30) 21))), (33, .slice A1 l1.length c1), (34, .int .i64 (l1.length : Int)), (35, .int .i64 x35_l1), (51, .pointer (some ⟨b27, 0, none⟩)), (52, .int .i64 (wi (Int.tmod (IntKind.wrap .u64 v30) 21))), (57, .bool (decide (v36 > 0)))]) kr ?_
       obtain ⟨r38, e39, H⟩ := bind_ex H
       obtain ⟨B44, hso43, hsub41, hcs42, hb40⟩ := Sat.lend [O66 b27 q28_l1] (cs := [oar 48 (r0 (.int .i64)) 1 21 b21 q23_l1]) hS
       refine WD.act (i := 2) kr (St.call kr (f := 12) (args := #[.pointer (some ⟨b27, 0, none⟩), .int .i64 (wi (Int.tmod (IntKind.wrap .u64 v30) 21))]) kr (cache_Cache_Drop.calls B44 w34 b27 q28_l1 hso43 (wi (Int.tmod (IntKind.wrap .u64 v30) 21)) r38 e39) ?_)
       rintro _ w45 ⟨rfl, hS46⟩
       have hS : Sat w45 (rf w0) [O66 b27 r38.2, oar 48 (r0 (.int .i64)) 1 21 b21 q23_l1] := hb40 _ _ hS46
       refine ⟨(asked.cons (RSt.run (n := 144) (RSt.loadInt (t := 3) (.tmp 55) kr kr kr kr (Sat.oarAt 1 hS rfl).1 e37 rfl)) (asked.nil _ _)), ?_⟩
       refine WD.weaken [5, 6, 7, 10, 33, 34, 35, 53, 57] (L' := [(5, .int .i64 (wi (1 + (wi (Int.tmod (IntKind.wrap .u64 a0) 6))))), (6, .pointer (some ⟨b27, 0, none⟩)), (7, .pointer (some ⟨b21, 0, none⟩)), (10, .int .i64 (wi (Int.tmod (IntKind.wrap .u64 v30) 21))), (33, .slice A1 l1.length c1), (34, .int .i64 (l1.length : Int)), (35, .int .i64 x35_l1), (53, .bool r38.1), (57, .bool (decide (v36 > 0)))]) kr ?_
       refine WD.pure (i := 7) (v := .bool (r38.1 != (decide (v36 > 0)))) kr kr (fun _ => by kernel_rfl) ?_
       refine WD.weaken [5, 6, 7, 10, 33, 34, 35, 58] (L' := [(5, .int .i64 (wi (1 + (wi (Int.tmod (IntKind.wrap .u64 a0) 6))))), (6, .pointer (some ⟨b27, 0, none⟩)), (7, .pointer (some ⟨b21, 0, none⟩)), (10, .int .i64 (wi (Int.tmod (IntKind.wrap .u64 v30) 21))), (33, .slice A1 l1.length c1), (34, .int .i64 (l1.length : Int)), (35, .int .i64 x35_l1), (58, .bool (r38.1 != (decide (v36 > 0))))]) kr ?_
       refine WD.nil kr ?_
       refine At.go ?_
       refine WC.cond kr (r38.1 != (decide (v36 > 0))) kr kr (fun hb47 => ?_) (fun hb47 => ?_)
       ·replace H := ite_t H hb47
        refine WC.seq kr ?_
        refine WC.reg [0] kr kr ?_
        refine WR.runk [0] [] [4] (L' := [(4, .bool false)]) (w' := w45) kr ?_
        refine WR.nil ?_
        refine At.go ?_
        refine WC.ret kr ?_
        refine At.thenRet ?_
        refine At.thenRet ?_
        refine At.blockRet ?_
        refine At.thenRet ?_
        refine At.thenRet ?_
        obtain rfl := Option.some.inj H
        have hS : Sat w45 (rf w0) [O66 b27 r38.2, oar 48 (r0 (.int .i64)) 1 21 b21 q23_l1] := hS.sel [0, 1] kr
        refine At.weaken [4] (L' := [(4, .bool false)]) kr ?_
        exact hn1 (false, r38.2, q23_l1) _ rfl hS
       ·replace H := ite_f H hb47
        refine WC.skip kr ?_
        refine At.go ?_
        refine WC.reg [0, 1, 2, 3, 4, 5, 6, 7] kr kr ?_
        refine WR.runk [0, 1] [2, 3, 4, 5, 6, 7] [5, 6, 7, 33, 34, 35, 59, 60] (L' := [(5, .int .i64 (wi (1 + (wi (Int.tmod (IntKind.wrap .u64 a0) 6))))), (6, .pointer (some ⟨b27, 0, none⟩)), (7, .pointer (some ⟨b21, 0, none⟩)), (33, .slice A1 l1.length c1), (34, .int .i64 (l1.length : Int)), (35, .int .i64 x35_l1), (59, .int .i64 (wi (Int.tmod (IntKind.wrap .u64 v30) 21))), (60, .int .i64 (wi (Int.tmod (IntKind.wrap .u64 v30) 21)))]) (w' := w45) kr ?_
        obtain ⟨v48, e49, H⟩ := bind_ex H
        refine WR.st (St.ofP (PSt.idxArr (k := .i64) (t := 48) (e := 3) (sz := 1) (b := b21) (.tmp 7) (.tmp 60) kr kr kr kr kr kr kr (Sat.oarAt 1 hS rfl).2 e49 ?_))
        refine WR.runk [] [3, 4, 5, 6, 7] [5, 6, 7, 33, 34, 35, 59, 61] (L' := [(5, .int .i64 (wi (1 + (wi (Int.tmod (IntKind.wrap .u64 a0) 6))))), (6, .pointer (some ⟨b27, 0, none⟩)), (7, .pointer (some ⟨b21, 0, none⟩)), (33, .slice A1 l1.length c1), (34, .int .i64 (l1.length : Int)), (35, .int .i64 x35_l1), (59, .int .i64 (wi (Int.tmod (IntKind.wrap .u64 v30) 21))), (61, .pointer (some (adr (some ⟨b21, 0, none⟩) (wi (Int.tmod (IntKind.wrap .u64 v30) 21)).toNat 1)))]) (w' := w45) kr ?_
        refine WR.st (St.ofR (RSt.loadInt (t := 3) (.tmp 61) kr kr kr kr (Sat.oarAt 1 hS rfl).1 e49 ?_))
        refine WR.runk [4, 5] [6, 7] [5, 6, 7, 33, 34, 35, 59, 64] (L' := [(5, .int .i64 (wi (1 + (wi (Int.tmod (IntKind.wrap .u64 a0) 6))))), (6, .pointer (some ⟨b27, 0, none⟩)), (7, .pointer (some ⟨b21, 0, none⟩)), (33, .slice A1 l1.length c1), (34, .int .i64 (l1.length : Int)), (35, .int .i64 x35_l1), (59, .int .i64 (wi (Int.tmod (IntKind.wrap .u64 v30) 21))), (64, .int .i64 (imax 0 (wi (v48 - 1))))]) (w' := w45) kr ?_
        obtain ⟨v50, e51, H⟩ := bind_ex H
        refine WR.st (St.ofP (PSt.idxArr (k := .i64) (t := 48) (e := 3) (sz := 1) (b := b21) (.tmp 7) (.tmp 59) kr kr kr kr kr kr kr (Sat.oarAt 1 hS rfl).2 e51 ?_))
        refine WR.runk [] [7] [5, 6, 7, 33, 34, 35, 64, 65] (L' := [(5, .int .i64 (wi (1 + (wi (Int.tmod (IntKind.wrap .u64 a0) 6))))), (6, .pointer (some ⟨b27, 0, none⟩)), (7, .pointer (some ⟨b21, 0, none⟩)), (33, .slice A1 l1.length c1), (34, .int .i64 (l1.length : Int)), (35, .int .i64 x35_l1), (64, .int .i64 (imax 0 (wi (v48 - 1)))), (65, .pointer (some (adr (some ⟨b21, 0, none⟩) (wi (Int.tmod (IntKind.wrap .u64 v30) 21)).toNat 1)))]) (w' := w45) kr ?_
        have hS : Sat w45 (rf w0) [oar 48 (r0 (.int .i64)) 1 21 b21 q23_l1, O66 b27 r38.2] := hS.sel [1, 0] kr
        obtain ⟨y52, e53, H⟩ := bind_ex H
        obtain ⟨hl55, hS⟩ := oar.op hS
        refine WR.st (St.storeElem' (t := 3) (.tmp 65) (.tmp 64) kr kr kr hS kr kr rfl e53 rfl (fun w54 hS => ?_))
        have hl56 := (set?_len e53).trans hl55
        have hS : Sat w54 (rf w0) [oar 48 (r0 (.int .i64)) 1 21 b21 y52, O66 b27 r38.2] := oar.cl hl56 hS
        refine WR.runk [] [] [5, 6, 7, 33, 34, 35] (L' := [(5, .int .i64 (wi (1 + (wi (Int.tmod (IntKind.wrap .u64 a0) 6))))), (6, .pointer (some ⟨b27, 0, none⟩)), (7, .pointer (some ⟨b21, 0, none⟩)), (33, .slice A1 l1.length c1), (34, .int .i64 (l1.length : Int)), (35, .int .i64 x35_l1)]) (w' := w54) kr ?_
        refine WR.nil ?_
        refine At.go ?_
        refine WC.seq kr ?_
        refine WC.reg [0] kr kr ?_
        refine WR.runk [0] [] [5, 6, 7, 14, 33, 34, 35] (L' := [(5, .int .i64 (wi (1 + (wi (Int.tmod (IntKind.wrap .u64 a0) 6))))), (6, .pointer (some ⟨b27, 0, none⟩)), (7, .pointer (some ⟨b21, 0, none⟩)), (14, .int .i64 0), (33, .slice A1 l1.length c1), (34, .int .i64 (l1.length : Int)), (35, .int .i64 x35_l1)]) (w' := w54) kr ?_
        refine WR.nil ?_
        refine At.go ?_
        refine WC.seq kr ?_
        refine WC.seq kr ?_
        refine WC.reg [0, 1] kr kr ?_
        have hl57 : List.length y52 = 21 := (Sat.oarAt 0 hS rfl).2
        refine WR.st (St.ofR (RSt.loadArr (t := 48) (kk := .i64) (m := 21) (.tmp 7) kr kr kr kr 0 hS rfl kr ?_))
        refine WR.runk [1] [] [5, 6, 7, 14, 33, 34, 35, 80, 81] (L' := [(5, .int .i64 (wi (1 + (wi (Int.tmod (IntKind.wrap .u64 a0) 6))))), (6, .pointer (some ⟨b27, 0, none⟩)), (7, .pointer (some ⟨b21, 0, none⟩)), (14, .int .i64 0), (33, .slice A1 l1.length c1), (34, .int .i64 (l1.length : Int)), (35, .int .i64 x35_l1), (80, (aInts .i64 y52)), (81, .int .i64 0)]) (w' := w54) kr ?_
        refine WR.nil ?_
        refine At.go ?_
        refine WC.block kr ?_
        have hS : Sat w54 (rf w0) [O66 b27 r38.2, oar 48 (r0 (.int .i64)) 1 21 b21 y52] := hS.sel [1, 0] kr
        obtain ⟨o72, e73, H⟩ := bind_ex H
        refine WC.loop kr ?_
        refine WL.weaken [5, 6, 7, 14, 33, 34, 35, 80, 81] (L' := [(5, .int .i64 (wi (1 + (wi (Int.tmod (IntKind.wrap .u64 a0) 6))))), (6, .pointer (some ⟨b27, 0, none⟩)), (7, .pointer (some ⟨b21, 0, none⟩)), (14, .int .i64 0), (33, .slice A1 l1.length c1), (34, .int .i64 (l1.length : Int)), (35, .int .i64 x35_l1), (80, (aInts .i64 y52)), (81, .int .i64 0)]) kr ?_
        refine colophonlaw07_CacheBounds.l2_ok w0 a0 A1 c1 l1 b21 b27 x35_l1 r38 y52 hl57 o72 (fun o74 w76 ho77 hS => ?_) (fun o78 w80 ho81 hS => ?_) FU 0 0 _ hS e73
        ·subst ho77
         dsimp only at H
         refine At.blockRet ?_
         refine At.thenRet ?_
         refine At.blockRet ?_
         refine At.thenRet ?_
         refine At.thenRet ?_
         obtain rfl := Option.some.inj H
         have hS : Sat w76 (rf w0) [O66 b27 r38.2, oar 48 (r0 (.int .i64)) 1 21 b21 y52] := hS.sel [0, 1] kr
         refine At.weaken [4] (L' := [(4, .bool o74)]) kr ?_
         exact hn1 (o74, r38.2, y52) _ rfl hS
        ·subst ho81
         dsimp only at H
         refine At.hit ?_
         refine At.go ?_
         refine WC.seq kr ?_
         refine WC.reg [0, 1, 2, 3] kr kr ?_
         refine WR.runk [0] [1, 2, 3] [5, 6, 7, 14, 33, 34, 35, 94] (L' := [(5, .int .i64 (wi (1 + (wi (Int.tmod (IntKind.wrap .u64 a0) 6))))), (6, .pointer (some ⟨b27, 0, none⟩)), (7, .pointer (some ⟨b21, 0, none⟩)), (14, .int .i64 o78), (33, .slice A1 l1.length c1), (34, .int .i64 (l1.length : Int)), (35, .int .i64 x35_l1), (94, .pointer (some ⟨b27, 0, none⟩))]) (w' := w80) kr ?_
         obtain ⟨r82, e83, H⟩ := bind_ex H
         refine WR.st (St.call kr (f := 15) (args := #[.pointer (some ⟨b27, 0, none⟩)]) kr (cache_Cache_Stats.calls w80 (.pointer (some ⟨b27, 0, none⟩)) (some r38.2) (Sat.rdAny 0 hS rfl (fun _ h => O66.rd _ _ _ h)) r82 e83) ?_)
         rintro _ w89 ⟨rfl, hS90⟩
         have hS : Sat w89 (rf w0) [O66 b27 r38.2, oar 48 (r0 (.int .i64)) 1 21 b21 y52] := hS.ext hS90
         refine WR.runk [] [2, 3] [5, 6, 7, 14, 33, 34, 35, 95] (L' := [(5, .int .i64 (wi (1 + (wi (Int.tmod (IntKind.wrap .u64 a0) 6))))), (6, .pointer (some ⟨b27, 0, none⟩)), (7, .pointer (some ⟨b21, 0, none⟩)), (14, .int .i64 o78), (33, .slice A1 l1.length c1), (34, .int .i64 (l1.length : Int)), (35, .int .i64 x35_l1), (95, .agg #[.int .i64 r82.1, .int .i64 r82.2.1, .int .i64 r82.2.2.1, .int .i64 r82.2.2.2])]) (w' := w89) kr ?_
         refine WR.st (St.box hS kr (.cells #[.int .i64 0, .int .i64 0, .int .i64 0, .int .i64 0] 44) (fun b91 => .pointer (some ⟨b91, 0, none⟩)) (fun _ => by kernel_rfl) (fun b91 w92 hS => ?_))
         refine WR.runk [] [3] [5, 6, 7, 14, 17, 33, 34, 35, 95] (L' := [(5, .int .i64 (wi (1 + (wi (Int.tmod (IntKind.wrap .u64 a0) 6))))), (6, .pointer (some ⟨b27, 0, none⟩)), (7, .pointer (some ⟨b21, 0, none⟩)), (14, .int .i64 o78), (17, .pointer (some ⟨b91, 0, none⟩)), (33, .slice A1 l1.length c1), (34, .int .i64 (l1.length : Int)), (35, .int .i64 x35_l1), (95, .agg #[.int .i64 r82.1, .int .i64 r82.2.1, .int .i64 r82.2.2.1, .int .i64 r82.2.2.2])]) (w' := w92) kr ?_
         refine WR.st (St.storeAll (t := 44) (vs := [.int .i64 r82.1, .int .i64 r82.2.1, .int .i64 r82.2.2.1, .int .i64 r82.2.2.2]) (.tmp 17) (.tmp 95) kr kr kr hS kr kr kr kr (fun w94 hS => ?_))
         have hS : Sat w94 (rf w0) [pts b91 (.cells #[.int .i64 r82.1, .int .i64 r82.2.1, .int .i64 r82.2.2.1, .int .i64 r82.2.2.2] 44 (0, 0)), O66 b27 r38.2, oar 48 (r0 (.int .i64)) 1 21 b21 y52] := hS
         refine WR.runk [] [] [5, 6, 7, 14, 17, 33, 34, 35] (L' := [(5, .int .i64 (wi (1 + (wi (Int.tmod (IntKind.wrap .u64 a0) 6))))), (6, .pointer (some ⟨b27, 0, none⟩)), (7, .pointer (some ⟨b21, 0, none⟩)), (14, .int .i64 o78), (17, .pointer (some ⟨b91, 0, none⟩)), (33, .slice A1 l1.length c1), (34, .int .i64 (l1.length : Int)), (35, .int .i64 x35_l1)]) (w' := w94) kr ?_
         refine WR.nil ?_
         refine At.go ?_
         refine WC.seq kr ?_
         refine WC.reg [0, 1, 2, 3, 4, 5, 6, 7, 8, 9, 10, 11, 12, 13, 14] kr kr ?_
         refine WR.runk [0] [1, 2, 3, 4, 5, 6, 7, 8, 9, 10, 11, 12, 13, 14] [5, 6, 7, 14, 17, 33, 34, 35, 96] (L' := [(5, .int .i64 (wi (1 + (wi (Int.tmod (IntKind.wrap .u64 a0) 6))))), (6, .pointer (some ⟨b27, 0, none⟩)), (7, .pointer (some ⟨b21, 0, none⟩)), (14, .int .i64 o78), (17, .pointer (some ⟨b91, 0, none⟩)), (33, .slice A1 l1.length c1), (34, .int .i64 (l1.length : Int)), (35, .int .i64 x35_l1), (96, .pointer (some ⟨b91, 2, none⟩))]) (w' := w94) kr ?_
         refine WR.st (St.ofR (RSt.loadObj (t := 3) (k := 2) (v := .int .i64 r82.2.2.1) (.tmp 96) kr kr kr 0 hS rfl kr rfl ?_))
         refine WR.runk [2, 3, 4] [5, 6, 7, 8, 9, 10, 11, 12, 13, 14] [5, 6, 7, 14, 17, 33, 34, 35, 100] (L' := [(5, .int .i64 (wi (1 + (wi (Int.tmod (IntKind.wrap .u64 a0) 6))))), (6, .pointer (some ⟨b27, 0, none⟩)), (7, .pointer (some ⟨b21, 0, none⟩)), (14, .int .i64 o78), (17, .pointer (some ⟨b91, 0, none⟩)), (33, .slice A1 l1.length c1), (34, .int .i64 (l1.length : Int)), (35, .int .i64 x35_l1), (100, .bool (decide (r82.2.2.1 > wi (1 + (wi (Int.tmod (IntKind.wrap .u64 a0) 6))))))]) (w' := w94) kr ?_
         refine WR.split 100 (b := decide (r82.2.2.1 > wi (1 + (wi (Int.tmod (IntKind.wrap .u64 a0) 6))))) kr (fun hb95 => ?_) (fun hb95 => ?_)
         ·replace H := ite_t H hb95
          refine WR.runk [5, 6, 7, 8, 9, 10, 11, 12, 13, 14] [] [5, 6, 7, 33, 34, 35, 110] (L' := [(5, .int .i64 (wi (1 + (wi (Int.tmod (IntKind.wrap .u64 a0) 6))))), (6, .pointer (some ⟨b27, 0, none⟩)), (7, .pointer (some ⟨b21, 0, none⟩)), (33, .slice A1 l1.length c1), (34, .int .i64 (l1.length : Int)), (35, .int .i64 x35_l1), (110, .bool true)]) (w' := w94) kr ?_
          refine WR.nil ?_
          refine At.go ?_
          refine WC.condT kr kr kr ?_
          refine WC.seq kr ?_
          refine WC.reg [0] kr kr ?_
          refine WR.runk [0] [] [4] (L' := [(4, .bool false)]) (w' := w94) kr ?_
          refine WR.nil ?_
          refine At.go ?_
          refine WC.ret kr ?_
          refine At.blockRet ?_
          refine At.thenRet ?_
          refine At.thenRet ?_
          obtain rfl := Option.some.inj H
          have hS : Sat w94 (rf w0) [O66 b27 r38.2, oar 48 (r0 (.int .i64)) 1 21 b21 y52] := hS.sel [1, 2] kr
          refine At.weaken [4] (L' := [(4, .bool false)]) kr ?_
          exact hn1 (false, r38.2, y52) _ rfl hS
         ·replace H := ite_f H hb95
          refine WR.runk [5] [6, 7, 8, 9, 10, 11, 12, 13, 14] [5, 6, 7, 14, 33, 34, 35, 100, 101] (L' := [(5, .int .i64 (wi (1 + (wi (Int.tmod (IntKind.wrap .u64 a0) 6))))), (6, .pointer (some ⟨b27, 0, none⟩)), (7, .pointer (some ⟨b21, 0, none⟩)), (14, .int .i64 o78), (33, .slice A1 l1.length c1), (34, .int .i64 (l1.length : Int)), (35, .int .i64 x35_l1), (100, .bool false), (101, .pointer (some ⟨b91, 3, none⟩))]) (w' := w94) kr ?_
          refine WR.st (St.ofR (RSt.loadObj (t := 3) (k := 3) (v := .int .i64 r82.2.2.2) (.tmp 101) kr kr kr 0 hS rfl kr rfl ?_))
          refine WR.runk [7, 8, 9, 10] [11, 12, 13, 14] [5, 6, 7, 14, 33, 34, 35, 106] (L' := [(5, .int .i64 (wi (1 + (wi (Int.tmod (IntKind.wrap .u64 a0) 6))))), (6, .pointer (some ⟨b27, 0, none⟩)), (7, .pointer (some ⟨b21, 0, none⟩)), (14, .int .i64 o78), (33, .slice A1 l1.length c1), (34, .int .i64 (l1.length : Int)), (35, .int .i64 x35_l1), (106, .bool (r82.2.2.2 != o78))]) (w' := w94) kr ?_
          refine WR.split 106 (b := (r82.2.2.2 != o78)) kr (fun hb96 => ?_) (fun hb96 => ?_)
          ·replace H := ite_t H hb96
           refine WR.runk [11, 12, 13, 14] [] [5, 6, 7, 33, 34, 35, 110] (L' := [(5, .int .i64 (wi (1 + (wi (Int.tmod (IntKind.wrap .u64 a0) 6))))), (6, .pointer (some ⟨b27, 0, none⟩)), (7, .pointer (some ⟨b21, 0, none⟩)), (33, .slice A1 l1.length c1), (34, .int .i64 (l1.length : Int)), (35, .int .i64 x35_l1), (110, .bool true)]) (w' := w94) kr ?_
           refine WR.nil ?_
           refine At.go ?_
           refine WC.condT kr kr kr ?_
           refine WC.seq kr ?_
           refine WC.reg [0] kr kr ?_
           refine WR.runk [0] [] [4] (L' := [(4, .bool false)]) (w' := w94) kr ?_
           refine WR.nil ?_
           refine At.go ?_
           refine WC.ret kr ?_
           refine At.blockRet ?_
           refine At.thenRet ?_
           refine At.thenRet ?_
           obtain rfl := Option.some.inj H
           have hS : Sat w94 (rf w0) [O66 b27 r38.2, oar 48 (r0 (.int .i64)) 1 21 b21 y52] := hS.sel [1, 2] kr
           refine At.weaken [4] (L' := [(4, .bool false)]) kr ?_
           exact hn1 (false, r38.2, y52) _ rfl hS
          ·replace H := ite_f H hb96
           refine WR.runk [11, 12, 13, 14] [] [5, 6, 7, 33, 34, 35, 110] (L' := [(5, .int .i64 (wi (1 + (wi (Int.tmod (IntKind.wrap .u64 a0) 6))))), (6, .pointer (some ⟨b27, 0, none⟩)), (7, .pointer (some ⟨b21, 0, none⟩)), (33, .slice A1 l1.length c1), (34, .int .i64 (l1.length : Int)), (35, .int .i64 x35_l1), (110, .bool (decide (o78 > wi (1 + (wi (Int.tmod (IntKind.wrap .u64 a0) 6))))))]) (w' := w94) kr ?_
           refine WR.nil ?_
           refine At.go ?_
           refine WC.cond kr (decide (o78 > wi (1 + (wi (Int.tmod (IntKind.wrap .u64 a0) 6))))) kr kr (fun hb97 => ?_) (fun hb97 => ?_)
           ·replace H := ite_t H hb97
            refine WC.seq kr ?_
            refine WC.reg [0] kr kr ?_
            refine WR.runk [0] [] [4] (L' := [(4, .bool false)]) (w' := w94) kr ?_
            refine WR.nil ?_
            refine At.go ?_
            refine WC.ret kr ?_
            refine At.blockRet ?_
            refine At.thenRet ?_
            refine At.thenRet ?_
            obtain rfl := Option.some.inj H
            have hS : Sat w94 (rf w0) [O66 b27 r38.2, oar 48 (r0 (.int .i64)) 1 21 b21 y52] := hS.sel [1, 2] kr
            refine At.weaken [4] (L' := [(4, .bool false)]) kr ?_
            exact hn1 (false, r38.2, y52) _ rfl hS
           ·replace H := ite_f H hb97
            refine WC.skip kr ?_
            refine At.blockNormal ?_
            refine At.go ?_
            refine WC.reg [0, 1] kr kr ?_
            refine WR.runk [0, 1] [] [5, 6, 7, 33, 34, 35] (L' := [(5, .int .i64 (wi (1 + (wi (Int.tmod (IntKind.wrap .u64 a0) 6))))), (6, .pointer (some ⟨b27, 0, none⟩)), (7, .pointer (some ⟨b21, 0, none⟩)), (33, .slice A1 l1.length c1), (34, .int .i64 (l1.length : Int)), (35, .int .i64 (wi (x35_l1 + 1)))]) (w' := w94) kr ?_
            refine WR.nil ?_
            have hS : Sat w94 (rf w0) [O66 b27 r38.2, oar 48 (r0 (.int .i64)) 1 21 b21 y52] := hS.sel [1, 2] kr
            refine At.again ?_
            refine WL.weaken [5, 6, 7, 33, 34, 35] (L' := [(5, .int .i64 (wi (1 + (wi (Int.tmod (IntKind.wrap .u64 a0) 6))))), (6, .pointer (some ⟨b27, 0, none⟩)), (7, .pointer (some ⟨b21, 0, none⟩)), (33, .slice A1 l1.length c1), (34, .int .i64 (l1.length : Int)), (35, .int .i64 (wi (x35_l1 + 1)))]) kr ?_
            exact ih (wi (x35_l1 + 1)) r38.2 y52 _ hS H
      ·replace H := ite_f H hb33
       refine WC.seq kr ?_
       refine WC.reg [0, 1, 2, 3, 4, 5, 6, 7, 8, 9] kr kr ?_
       refine WR.runk [0, 1] [2, 3, 4, 5, 6, 7, 8, 9] [5, 6, 7, 10, 33, 34, 35, 67, 68] (L' := [(5, .int .i64 (wi (1 + (wi (Int.tmod (IntKind.wrap .u64 a0) 6))))), (6, .pointer (some ⟨b27, 0, none⟩)), (7, .pointer (some ⟨b21, 0, none⟩)), (10, .int .i64 (wi (Int.tmod (IntKind.wrap .u64 v30) 21))), (33, .slice A1 l1.length c1), (34, .int .i64 (l1.length : Int)), (35, .int .i64 x35_l1), (67, .pointer (some ⟨b27, 0, none⟩)), (68, .int .i64 (wi (Int.tmod (IntKind.wrap .u64 v30) 21)))]) (w' := w) kr ?_
       obtain ⟨r98, e99, H⟩ := bind_ex H
       obtain ⟨B104, hso103, hsub101, hcs102, hb100⟩ := Sat.lend [O66 b27 q28_l1] (cs := [oar 48 (r0 (.int .i64)) 1 21 b21 q23_l1]) hS
       refine WR.st (St.call kr (f := 10) (args := #[.pointer (some ⟨b27, 0, none⟩), .int .i64 (wi (Int.tmod (IntKind.wrap .u64 v30) 21))]) kr (cache_Cache_Hold.calls B104 w b27 q28_l1 hso103 (wi (Int.tmod (IntKind.wrap .u64 v30) 21)) r98 e99) ?_)
       rintro _ w105 ⟨A107, c108, rfl, hS106⟩
       have hS : Sat w105 (rf w0) [O66 b27 r98.2.2.2, osl 5 (r0 (.int .u8)) 1 A107 c108 r98.1, oar 48 (r0 (.int .i64)) 1 21 b21 q23_l1] := hb100 _ _ hS106
       refine WR.runk [3, 4, 5, 6, 7, 8, 9] [] [5, 6, 7, 10, 13, 33, 34, 35] (L' := [(5, .int .i64 (wi (1 + (wi (Int.tmod (IntKind.wrap .u64 a0) 6))))), (6, .pointer (some ⟨b27, 0, none⟩)), (7, .pointer (some ⟨b21, 0, none⟩)), (10, .int .i64 (wi (Int.tmod (IntKind.wrap .u64 v30) 21))), (13, .int .i64 r98.2.2.1), (33, .slice A1 l1.length c1), (34, .int .i64 (l1.length : Int)), (35, .int .i64 x35_l1)]) (w' := w105) kr ?_
       refine WR.nil ?_
       refine At.go ?_
       refine WC.seq kr ?_
       refine WC.reg [0, 1] kr kr ?_
       refine WR.runk [0, 1] [] [5, 6, 7, 10, 33, 34, 35, 74] (L' := [(5, .int .i64 (wi (1 + (wi (Int.tmod (IntKind.wrap .u64 a0) 6))))), (6, .pointer (some ⟨b27, 0, none⟩)), (7, .pointer (some ⟨b21, 0, none⟩)), (10, .int .i64 (wi (Int.tmod (IntKind.wrap .u64 v30) 21))), (33, .slice A1 l1.length c1), (34, .int .i64 (l1.length : Int)), (35, .int .i64 x35_l1), (74, .bool (r98.2.2.1 == 0))]) (w' := w105) kr ?_
       refine WR.nil ?_
       refine At.go ?_
       refine WC.cond kr (r98.2.2.1 == 0) kr kr (fun hb109 => ?_) (fun hb109 => ?_)
       ·replace H := ite_t H hb109
        refine WC.reg [0, 1, 2, 3, 4, 5] kr kr ?_
        refine WR.runk [0] [1, 2, 3, 4, 5] [5, 6, 7, 33, 34, 35, 75] (L' := [(5, .int .i64 (wi (1 + (wi (Int.tmod (IntKind.wrap .u64 a0) 6))))), (6, .pointer (some ⟨b27, 0, none⟩)), (7, .pointer (some ⟨b21, 0, none⟩)), (33, .slice A1 l1.length c1), (34, .int .i64 (l1.length : Int)), (35, .int .i64 x35_l1), (75, .int .i64 (wi (Int.tmod (IntKind.wrap .u64 v30) 21)))]) (w' := w105) kr ?_
        obtain ⟨v110, e111, H⟩ := bind_ex H
        refine WR.st (St.ofP (PSt.idxArr (k := .i64) (t := 48) (e := 3) (sz := 1) (b := b21) (.tmp 7) (.tmp 75) kr kr kr kr kr kr kr (Sat.oarAt 2 hS rfl).2 e111 ?_))
        refine WR.runk [] [2, 3, 4, 5] [5, 6, 7, 33, 34, 35, 75, 76] (L' := [(5, .int .i64 (wi (1 + (wi (Int.tmod (IntKind.wrap .u64 a0) 6))))), (6, .pointer (some ⟨b27, 0, none⟩)), (7, .pointer (some ⟨b21, 0, none⟩)), (33, .slice A1 l1.length c1), (34, .int .i64 (l1.length : Int)), (35, .int .i64 x35_l1), (75, .int .i64 (wi (Int.tmod (IntKind.wrap .u64 v30) 21))), (76, .pointer (some (adr (some ⟨b21, 0, none⟩) (wi (Int.tmod (IntKind.wrap .u64 v30) 21)).toNat 1)))]) (w' := w105) kr ?_
        refine WR.st (St.ofR (RSt.loadInt (t := 3) (.tmp 76) kr kr kr kr (Sat.oarAt 2 hS rfl).1 e111 ?_))
        refine WR.runk [3] [4, 5] [5, 6, 7, 33, 34, 35, 75, 78] (L' := [(5, .int .i64 (wi (1 + (wi (Int.tmod (IntKind.wrap .u64 a0) 6))))), (6, .pointer (some ⟨b27, 0, none⟩)), (7, .pointer (some ⟨b21, 0, none⟩)), (33, .slice A1 l1.length c1), (34, .int .i64 (l1.length : Int)), (35, .int .i64 x35_l1), (75, .int .i64 (wi (Int.tmod (IntKind.wrap .u64 v30) 21))), (78, .int .i64 (wi (v110 + 1)))]) (w' := w105) kr ?_
        obtain ⟨v112, e113, H⟩ := bind_ex H
        refine WR.st (St.ofP (PSt.idxArr (k := .i64) (t := 48) (e := 3) (sz := 1) (b := b21) (.tmp 7) (.tmp 75) kr kr kr kr kr kr kr (Sat.oarAt 2 hS rfl).2 e113 ?_))
        refine WR.runk [] [5] [5, 6, 7, 33, 34, 35, 78, 79] (L' := [(5, .int .i64 (wi (1 + (wi (Int.tmod (IntKind.wrap .u64 a0) 6))))), (6, .pointer (some ⟨b27, 0, none⟩)), (7, .pointer (some ⟨b21, 0, none⟩)), (33, .slice A1 l1.length c1), (34, .int .i64 (l1.length : Int)), (35, .int .i64 x35_l1), (78, .int .i64 (wi (v110 + 1))), (79, .pointer (some (adr (some ⟨b21, 0, none⟩) (wi (Int.tmod (IntKind.wrap .u64 v30) 21)).toNat 1)))]) (w' := w105) kr ?_
        have hS : Sat w105 (rf w0) [oar 48 (r0 (.int .i64)) 1 21 b21 q23_l1, O66 b27 r98.2.2.2, osl 5 (r0 (.int .u8)) 1 A107 c108 r98.1] := hS.sel [2, 0, 1] kr
        obtain ⟨y114, e115, H⟩ := bind_ex H
        obtain ⟨hl117, hS⟩ := oar.op hS
        refine WR.st (St.storeElem' (t := 3) (.tmp 79) (.tmp 78) kr kr kr hS kr kr rfl e115 rfl (fun w116 hS => ?_))
        have hl118 := (set?_len e115).trans hl117
        have hS : Sat w116 (rf w0) [oar 48 (r0 (.int .i64)) 1 21 b21 y114, O66 b27 r98.2.2.2, osl 5 (r0 (.int .u8)) 1 A107 c108 r98.1] := oar.cl hl118 hS
        refine WR.runk [] [] [5, 6, 7, 33, 34, 35] (L' := [(5, .int .i64 (wi (1 + (wi (Int.tmod (IntKind.wrap .u64 a0) 6))))), (6, .pointer (some ⟨b27, 0, none⟩)), (7, .pointer (some ⟨b21, 0, none⟩)), (33, .slice A1 l1.length c1), (34, .int .i64 (l1.length : Int)), (35, .int .i64 x35_l1)]) (w' := w116) kr ?_
        refine WR.nil ?_
        refine At.go ?_
        refine WC.seq kr ?_
        refine WC.reg [0] kr kr ?_
        refine WR.runk [0] [] [5, 6, 7, 14, 33, 34, 35] (L' := [(5, .int .i64 (wi (1 + (wi (Int.tmod (IntKind.wrap .u64 a0) 6))))), (6, .pointer (some ⟨b27, 0, none⟩)), (7, .pointer (some ⟨b21, 0, none⟩)), (14, .int .i64 0), (33, .slice A1 l1.length c1), (34, .int .i64 (l1.length : Int)), (35, .int .i64 x35_l1)]) (w' := w116) kr ?_
        refine WR.nil ?_
        refine At.go ?_
        refine WC.seq kr ?_
        refine WC.seq kr ?_
        refine WC.reg [0, 1] kr kr ?_
        have hl119 : List.length y114 = 21 := (Sat.oarAt 0 hS rfl).2
        refine WR.st (St.ofR (RSt.loadArr (t := 48) (kk := .i64) (m := 21) (.tmp 7) kr kr kr kr 0 hS rfl kr ?_))
        refine WR.runk [1] [] [5, 6, 7, 14, 33, 34, 35, 80, 81] (L' := [(5, .int .i64 (wi (1 + (wi (Int.tmod (IntKind.wrap .u64 a0) 6))))), (6, .pointer (some ⟨b27, 0, none⟩)), (7, .pointer (some ⟨b21, 0, none⟩)), (14, .int .i64 0), (33, .slice A1 l1.length c1), (34, .int .i64 (l1.length : Int)), (35, .int .i64 x35_l1), (80, (aInts .i64 y114)), (81, .int .i64 0)]) (w' := w116) kr ?_
        refine WR.nil ?_
        refine At.go ?_
        refine WC.block kr ?_
        have hS : Sat w116 (rf w0) [O66 b27 r98.2.2.2, oar 48 (r0 (.int .i64)) 1 21 b21 y114] := hS.sel [1, 0] kr
        obtain ⟨o134, e135, H⟩ := bind_ex H
        refine WC.loop kr ?_
        refine WL.weaken [5, 6, 7, 14, 33, 34, 35, 80, 81] (L' := [(5, .int .i64 (wi (1 + (wi (Int.tmod (IntKind.wrap .u64 a0) 6))))), (6, .pointer (some ⟨b27, 0, none⟩)), (7, .pointer (some ⟨b21, 0, none⟩)), (14, .int .i64 0), (33, .slice A1 l1.length c1), (34, .int .i64 (l1.length : Int)), (35, .int .i64 x35_l1), (80, (aInts .i64 y114)), (81, .int .i64 0)]) kr ?_
        refine colophonlaw07_CacheBounds.l3_ok w0 a0 A1 c1 l1 b21 b27 x35_l1 r98 y114 hl119 o134 (fun o136 w138 ho139 hS => ?_) (fun o140 w142 ho143 hS => ?_) FU 0 0 _ hS e135
        ·subst ho139
         dsimp only at H
         refine At.blockRet ?_
         refine At.thenRet ?_
         refine At.blockRet ?_
         refine At.thenRet ?_
         refine At.thenRet ?_
         obtain rfl := Option.some.inj H
         have hS : Sat w138 (rf w0) [O66 b27 r98.2.2.2, oar 48 (r0 (.int .i64)) 1 21 b21 y114] := hS.sel [0, 1] kr
         refine At.weaken [4] (L' := [(4, .bool o136)]) kr ?_
         exact hn1 (o136, r98.2.2.2, y114) _ rfl hS
        ·subst ho143
         dsimp only at H
         refine At.hit ?_
         refine At.go ?_
         refine WC.seq kr ?_
         refine WC.reg [0, 1, 2, 3] kr kr ?_
         refine WR.runk [0] [1, 2, 3] [5, 6, 7, 14, 33, 34, 35, 94] (L' := [(5, .int .i64 (wi (1 + (wi (Int.tmod (IntKind.wrap .u64 a0) 6))))), (6, .pointer (some ⟨b27, 0, none⟩)), (7, .pointer (some ⟨b21, 0, none⟩)), (14, .int .i64 o140), (33, .slice A1 l1.length c1), (34, .int .i64 (l1.length : Int)), (35, .int .i64 x35_l1), (94, .pointer (some ⟨b27, 0, none⟩))]) (w' := w142) kr ?_
         obtain ⟨r144, e145, H⟩ := bind_ex H
         refine WR.st (St.call kr (f := 15) (args := #[.pointer (some ⟨b27, 0, none⟩)]) kr (cache_Cache_Stats.calls w142 (.pointer (some ⟨b27, 0, none⟩)) (some r98.2.2.2) (Sat.rdAny 0 hS rfl (fun _ h => O66.rd _ _ _ h)) r144 e145) ?_)
         rintro _ w151 ⟨rfl, hS152⟩
         have hS : Sat w151 (rf w0) [O66 b27 r98.2.2.2, oar 48 (r0 (.int .i64)) 1 21 b21 y114] := hS.ext hS152
         refine WR.runk [] [2, 3] [5, 6, 7, 14, 33, 34, 35, 95] (L' := [(5, .int .i64 (wi (1 + (wi (Int.tmod (IntKind.wrap .u64 a0) 6))))), (6, .pointer (some ⟨b27, 0, none⟩)), (7, .pointer (some ⟨b21, 0, none⟩)), (14, .int .i64 o140), (33, .slice A1 l1.length c1), (34, .int .i64 (l1.length : Int)), (35, .int .i64 x35_l1), (95, .agg #[.int .i64 r144.1, .int .i64 r144.2.1, .int .i64 r144.2.2.1, .int .i64 r144.2.2.2])]) (w' := w151) kr ?_
         refine WR.st (St.box hS kr (.cells #[.int .i64 0, .int .i64 0, .int .i64 0, .int .i64 0] 44) (fun b153 => .pointer (some ⟨b153, 0, none⟩)) (fun _ => by kernel_rfl) (fun b153 w154 hS => ?_))
         refine WR.runk [] [3] [5, 6, 7, 14, 17, 33, 34, 35, 95] (L' := [(5, .int .i64 (wi (1 + (wi (Int.tmod (IntKind.wrap .u64 a0) 6))))), (6, .pointer (some ⟨b27, 0, none⟩)), (7, .pointer (some ⟨b21, 0, none⟩)), (14, .int .i64 o140), (17, .pointer (some ⟨b153, 0, none⟩)), (33, .slice A1 l1.length c1), (34, .int .i64 (l1.length : Int)), (35, .int .i64 x35_l1), (95, .agg #[.int .i64 r144.1, .int .i64 r144.2.1, .int .i64 r144.2.2.1, .int .i64 r144.2.2.2])]) (w' := w154) kr ?_
         refine WR.st (St.storeAll (t := 44) (vs := [.int .i64 r144.1, .int .i64 r144.2.1, .int .i64 r144.2.2.1, .int .i64 r144.2.2.2]) (.tmp 17) (.tmp 95) kr kr kr hS kr kr kr kr (fun w156 hS => ?_))
         have hS : Sat w156 (rf w0) [pts b153 (.cells #[.int .i64 r144.1, .int .i64 r144.2.1, .int .i64 r144.2.2.1, .int .i64 r144.2.2.2] 44 (0, 0)), O66 b27 r98.2.2.2, oar 48 (r0 (.int .i64)) 1 21 b21 y114] := hS
         refine WR.runk [] [] [5, 6, 7, 14, 17, 33, 34, 35] (L' := [(5, .int .i64 (wi (1 + (wi (Int.tmod (IntKind.wrap .u64 a0) 6))))), (6, .pointer (some ⟨b27, 0, none⟩)), (7, .pointer (some ⟨b21, 0, none⟩)), (14, .int .i64 o140), (17, .pointer (some ⟨b153, 0, none⟩)), (33, .slice A1 l1.length c1), (34, .int .i64 (l1.length : Int)), (35, .int .i64 x35_l1)]) (w' := w156) kr ?_
         refine WR.nil ?_
         refine At.go ?_
         refine WC.seq kr ?_
         refine WC.reg [0, 1, 2, 3, 4, 5, 6, 7, 8, 9, 10, 11, 12, 13, 14] kr kr ?_
         refine WR.runk [0] [1, 2, 3, 4, 5, 6, 7, 8, 9, 10, 11, 12, 13, 14] [5, 6, 7, 14, 17, 33, 34, 35, 96] (L' := [(5, .int .i64 (wi (1 + (wi (Int.tmod (IntKind.wrap .u64 a0) 6))))), (6, .pointer (some ⟨b27, 0, none⟩)), (7, .pointer (some ⟨b21, 0, none⟩)), (14, .int .i64 o140), (17, .pointer (some ⟨b153, 0, none⟩)), (33, .slice A1 l1.length c1), (34, .int .i64 (l1.length : Int)), (35, .int .i64 x35_l1), (96, .pointer (some ⟨b153, 2, none⟩))]) (w' := w156) kr ?_
         refine WR.st (St.ofR (RSt.loadObj (t := 3) (k := 2) (v := .int .i64 r144.2.2.1) (.tmp 96) kr kr kr 0 hS rfl kr rfl ?_))
         refine WR.runk [2, 3, 4] [5, 6, 7, 8, 9, 10, 11, 12, 13, 14] [5, 6, 7, 14, 17, 33, 34, 35, 100] (L' := [(5, .int .i64 (wi (1 + (wi (Int.tmod (IntKind.wrap .u64 a0) 6))))), (6, .pointer (some ⟨b27, 0, none⟩)), (7, .pointer (some ⟨b21, 0, none⟩)), (14, .int .i64 o140), (17, .pointer (some ⟨b153, 0, none⟩)), (33, .slice A1 l1.length c1), (34, .int .i64 (l1.length : Int)), (35, .int .i64 x35_l1), (100, .bool (decide (r144.2.2.1 > wi (1 + (wi (Int.tmod (IntKind.wrap .u64 a0) 6))))))]) (w' := w156) kr ?_
         refine WR.split 100 (b := decide (r144.2.2.1 > wi (1 + (wi (Int.tmod (IntKind.wrap .u64 a0) 6))))) kr (fun hb157 => ?_) (fun hb157 => ?_)
         ·replace H := ite_t H hb157
          refine WR.runk [5, 6, 7, 8, 9, 10, 11, 12, 13, 14] [] [5, 6, 7, 33, 34, 35, 110] (L' := [(5, .int .i64 (wi (1 + (wi (Int.tmod (IntKind.wrap .u64 a0) 6))))), (6, .pointer (some ⟨b27, 0, none⟩)), (7, .pointer (some ⟨b21, 0, none⟩)), (33, .slice A1 l1.length c1), (34, .int .i64 (l1.length : Int)), (35, .int .i64 x35_l1), (110, .bool true)]) (w' := w156) kr ?_
          refine WR.nil ?_
          refine At.go ?_
          refine WC.condT kr kr kr ?_
          refine WC.seq kr ?_
          refine WC.reg [0] kr kr ?_
          refine WR.runk [0] [] [4] (L' := [(4, .bool false)]) (w' := w156) kr ?_
          refine WR.nil ?_
          refine At.go ?_
          refine WC.ret kr ?_
          refine At.blockRet ?_
          refine At.thenRet ?_
          refine At.thenRet ?_
          obtain rfl := Option.some.inj H
          have hS : Sat w156 (rf w0) [O66 b27 r98.2.2.2, oar 48 (r0 (.int .i64)) 1 21 b21 y114] := hS.sel [1, 2] kr
          refine At.weaken [4] (L' := [(4, .bool false)]) kr ?_
          exact hn1 (false, r98.2.2.2, y114) _ rfl hS
         ·replace H := ite_f H hb157
          refine WR.runk [5] [6, 7, 8, 9, 10, 11, 12, 13, 14] [5, 6, 7, 14, 33, 34, 35, 100, 101] (L' := [(5, .int .i64 (wi (1 + (wi (Int.tmod (IntKind.wrap .u64 a0) 6))))), (6, .pointer (some ⟨b27, 0, none⟩)), (7, .pointer (some ⟨b21, 0, none⟩)), (14, .int .i64 o140), (33, .slice A1 l1.length c1), (34, .int .i64 (l1.length : Int)), (35, .int .i64 x35_l1), (100, .bool false), (101, .pointer (some ⟨b153, 3, none⟩))]) (w' := w156) kr ?_
          refine WR.st (St.ofR (RSt.loadObj (t := 3) (k := 3) (v := .int .i64 r144.2.2.2) (.tmp 101) kr kr kr 0 hS rfl kr rfl ?_))
          refine WR.runk [7, 8, 9, 10] [11, 12, 13, 14] [5, 6, 7, 14, 33, 34, 35, 106] (L' := [(5, .int .i64 (wi (1 + (wi (Int.tmod (IntKind.wrap .u64 a0) 6))))), (6, .pointer (some ⟨b27, 0, none⟩)), (7, .pointer (some ⟨b21, 0, none⟩)), (14, .int .i64 o140), (33, .slice A1 l1.length c1), (34, .int .i64 (l1.length : Int)), (35, .int .i64 x35_l1), (106, .bool (r144.2.2.2 != o140))]) (w' := w156) kr ?_
          refine WR.split 106 (b := (r144.2.2.2 != o140)) kr (fun hb158 => ?_) (fun hb158 => ?_)
          ·replace H := ite_t H hb158
           refine WR.runk [11, 12, 13, 14] [] [5, 6, 7, 33, 34, 35, 110] (L' := [(5, .int .i64 (wi (1 + (wi (Int.tmod (IntKind.wrap .u64 a0) 6))))), (6, .pointer (some ⟨b27, 0, none⟩)), (7, .pointer (some ⟨b21, 0, none⟩)), (33, .slice A1 l1.length c1), (34, .int .i64 (l1.length : Int)), (35, .int .i64 x35_l1), (110, .bool true)]) (w' := w156) kr ?_
           refine WR.nil ?_
           refine At.go ?_
           refine WC.condT kr kr kr ?_
           refine WC.seq kr ?_
           refine WC.reg [0] kr kr ?_
           refine WR.runk [0] [] [4] (L' := [(4, .bool false)]) (w' := w156) kr ?_
           refine WR.nil ?_
           refine At.go ?_
           refine WC.ret kr ?_
           refine At.blockRet ?_
           refine At.thenRet ?_
           refine At.thenRet ?_
           obtain rfl := Option.some.inj H
           have hS : Sat w156 (rf w0) [O66 b27 r98.2.2.2, oar 48 (r0 (.int .i64)) 1 21 b21 y114] := hS.sel [1, 2] kr
           refine At.weaken [4] (L' := [(4, .bool false)]) kr ?_
           exact hn1 (false, r98.2.2.2, y114) _ rfl hS
          ·replace H := ite_f H hb158
           refine WR.runk [11, 12, 13, 14] [] [5, 6, 7, 33, 34, 35, 110] (L' := [(5, .int .i64 (wi (1 + (wi (Int.tmod (IntKind.wrap .u64 a0) 6))))), (6, .pointer (some ⟨b27, 0, none⟩)), (7, .pointer (some ⟨b21, 0, none⟩)), (33, .slice A1 l1.length c1), (34, .int .i64 (l1.length : Int)), (35, .int .i64 x35_l1), (110, .bool (decide (o140 > wi (1 + (wi (Int.tmod (IntKind.wrap .u64 a0) 6))))))]) (w' := w156) kr ?_
           refine WR.nil ?_
           refine At.go ?_
           refine WC.cond kr (decide (o140 > wi (1 + (wi (Int.tmod (IntKind.wrap .u64 a0) 6))))) kr kr (fun hb159 => ?_) (fun hb159 => ?_)
           ·replace H := ite_t H hb159
            refine WC.seq kr ?_
            refine WC.reg [0] kr kr ?_
            refine WR.runk [0] [] [4] (L' := [(4, .bool false)]) (w' := w156) kr ?_
            refine WR.nil ?_
            refine At.go ?_
            refine WC.ret kr ?_
            refine At.blockRet ?_
            refine At.thenRet ?_
            refine At.thenRet ?_
            obtain rfl := Option.some.inj H
            have hS : Sat w156 (rf w0) [O66 b27 r98.2.2.2, oar 48 (r0 (.int .i64)) 1 21 b21 y114] := hS.sel [1, 2] kr
            refine At.weaken [4] (L' := [(4, .bool false)]) kr ?_
            exact hn1 (false, r98.2.2.2, y114) _ rfl hS
           ·replace H := ite_f H hb159
            refine WC.skip kr ?_
            refine At.blockNormal ?_
            refine At.go ?_
            refine WC.reg [0, 1] kr kr ?_
            refine WR.runk [0, 1] [] [5, 6, 7, 33, 34, 35] (L' := [(5, .int .i64 (wi (1 + (wi (Int.tmod (IntKind.wrap .u64 a0) 6))))), (6, .pointer (some ⟨b27, 0, none⟩)), (7, .pointer (some ⟨b21, 0, none⟩)), (33, .slice A1 l1.length c1), (34, .int .i64 (l1.length : Int)), (35, .int .i64 (wi (x35_l1 + 1)))]) (w' := w156) kr ?_
            refine WR.nil ?_
            have hS : Sat w156 (rf w0) [O66 b27 r98.2.2.2, oar 48 (r0 (.int .i64)) 1 21 b21 y114] := hS.sel [1, 2] kr
            refine At.again ?_
            refine WL.weaken [5, 6, 7, 33, 34, 35] (L' := [(5, .int .i64 (wi (1 + (wi (Int.tmod (IntKind.wrap .u64 a0) 6))))), (6, .pointer (some ⟨b27, 0, none⟩)), (7, .pointer (some ⟨b21, 0, none⟩)), (33, .slice A1 l1.length c1), (34, .int .i64 (l1.length : Int)), (35, .int .i64 (wi (x35_l1 + 1)))]) kr ?_
            exact ih (wi (x35_l1 + 1)) r98.2.2.2 y114 _ hS H
       ·replace H := ite_f H hb109
        refine WC.skip kr ?_
        refine At.go ?_
        refine WC.seq kr ?_
        refine WC.reg [0] kr kr ?_
        refine WR.runk [0] [] [5, 6, 7, 14, 33, 34, 35] (L' := [(5, .int .i64 (wi (1 + (wi (Int.tmod (IntKind.wrap .u64 a0) 6))))), (6, .pointer (some ⟨b27, 0, none⟩)), (7, .pointer (some ⟨b21, 0, none⟩)), (14, .int .i64 0), (33, .slice A1 l1.length c1), (34, .int .i64 (l1.length : Int)), (35, .int .i64 x35_l1)]) (w' := w105) kr ?_
        refine WR.nil ?_
        refine At.go ?_
        refine WC.seq kr ?_
        refine WC.seq kr ?_
        refine WC.reg [0, 1] kr kr ?_
        have hl160 : List.length q23_l1 = 21 := (Sat.oarAt 2 hS rfl).2
        refine WR.st (St.ofR (RSt.loadArr (t := 48) (kk := .i64) (m := 21) (.tmp 7) kr kr kr kr 2 hS rfl kr ?_))
        refine WR.runk [1] [] [5, 6, 7, 14, 33, 34, 35, 80, 81] (L' := [(5, .int .i64 (wi (1 + (wi (Int.tmod (IntKind.wrap .u64 a0) 6))))), (6, .pointer (some ⟨b27, 0, none⟩)), (7, .pointer (some ⟨b21, 0, none⟩)), (14, .int .i64 0), (33, .slice A1 l1.length c1), (34, .int .i64 (l1.length : Int)), (35, .int .i64 x35_l1), (80, (aInts .i64 q23_l1)), (81, .int .i64 0)]) (w' := w105) kr ?_
        refine WR.nil ?_
        refine At.go ?_
        refine WC.block kr ?_
        have hS : Sat w105 (rf w0) [O66 b27 r98.2.2.2, oar 48 (r0 (.int .i64)) 1 21 b21 q23_l1] := hS.sel [0, 2] kr
        obtain ⟨o175, e176, H⟩ := bind_ex H
        refine WC.loop kr ?_
        refine WL.weaken [5, 6, 7, 14, 33, 34, 35, 80, 81] (L' := [(5, .int .i64 (wi (1 + (wi (Int.tmod (IntKind.wrap .u64 a0) 6))))), (6, .pointer (some ⟨b27, 0, none⟩)), (7, .pointer (some ⟨b21, 0, none⟩)), (14, .int .i64 0), (33, .slice A1 l1.length c1), (34, .int .i64 (l1.length : Int)), (35, .int .i64 x35_l1), (80, (aInts .i64 q23_l1)), (81, .int .i64 0)]) kr ?_
        refine colophonlaw07_CacheBounds.l4_ok w0 a0 A1 c1 l1 b21 b27 x35_l1 q23_l1 r98 hl160 o175 (fun o177 w179 ho180 hS => ?_) (fun o181 w183 ho184 hS => ?_) FU 0 0 _ hS e176
        ·subst ho180
         dsimp only at H
         refine At.blockRet ?_
         refine At.thenRet ?_
         refine At.blockRet ?_
         refine At.thenRet ?_
         refine At.thenRet ?_
         obtain rfl := Option.some.inj H
         have hS : Sat w179 (rf w0) [O66 b27 r98.2.2.2, oar 48 (r0 (.int .i64)) 1 21 b21 q23_l1] := hS.sel [0, 1] kr
         refine At.weaken [4] (L' := [(4, .bool o177)]) kr ?_
         exact hn1 (o177, r98.2.2.2, q23_l1) _ rfl hS
        ·subst ho184
         dsimp only at H
         refine At.hit ?_
         refine At.go ?_
         refine WC.seq kr ?_
         refine WC.reg [0, 1, 2, 3] kr kr ?_
         refine WR.runk [0] [1, 2, 3] [5, 6, 7, 14, 33, 34, 35, 94] (L' := [(5, .int .i64 (wi (1 + (wi (Int.tmod (IntKind.wrap .u64 a0) 6))))), (6, .pointer (some ⟨b27, 0, none⟩)), (7, .pointer (some ⟨b21, 0, none⟩)), (14, .int .i64 o181), (33, .slice A1 l1.length c1), (34, .int .i64 (l1.length : Int)), (35, .int .i64 x35_l1), (94, .pointer (some ⟨b27, 0, none⟩))]) (w' := w183) kr ?_
         obtain ⟨r185, e186, H⟩ := bind_ex H
         refine WR.st (St.call kr (f := 15) (args := #[.pointer (some ⟨b27, 0, none⟩)]) kr (cache_Cache_Stats.calls w183 (.pointer (some ⟨b27, 0, none⟩)) (some r98.2.2.2) (Sat.rdAny 0 hS rfl (fun _ h => O66.rd _ _ _ h)) r185 e186) ?_)
         rintro _ w192 ⟨rfl, hS193⟩
         have hS : Sat w192 (rf w0) [O66 b27 r98.2.2.2, oar 48 (r0 (.int .i64)) 1 21 b21 q23_l1] := hS.ext hS193
         refine WR.runk [] [2, 3] [5, 6, 7, 14, 33, 34, 35, 95] (L' := [(5, .int .i64 (wi (1 + (wi (Int.tmod (IntKind.wrap .u64 a0) 6))))), (6, .pointer (some ⟨b27, 0, none⟩)), (7, .pointer (some ⟨b21, 0, none⟩)), (14, .int .i64 o181), (33, .slice A1 l1.length c1), (34, .int .i64 (l1.length : Int)), (35, .int .i64 x35_l1), (95, .agg #[.int .i64 r185.1, .int .i64 r185.2.1, .int .i64 r185.2.2.1, .int .i64 r185.2.2.2])]) (w' := w192) kr ?_
         refine WR.st (St.box hS kr (.cells #[.int .i64 0, .int .i64 0, .int .i64 0, .int .i64 0] 44) (fun b194 => .pointer (some ⟨b194, 0, none⟩)) (fun _ => by kernel_rfl) (fun b194 w195 hS => ?_))
         refine WR.runk [] [3] [5, 6, 7, 14, 17, 33, 34, 35, 95] (L' := [(5, .int .i64 (wi (1 + (wi (Int.tmod (IntKind.wrap .u64 a0) 6))))), (6, .pointer (some ⟨b27, 0, none⟩)), (7, .pointer (some ⟨b21, 0, none⟩)), (14, .int .i64 o181), (17, .pointer (some ⟨b194, 0, none⟩)), (33, .slice A1 l1.length c1), (34, .int .i64 (l1.length : Int)), (35, .int .i64 x35_l1), (95, .agg #[.int .i64 r185.1, .int .i64 r185.2.1, .int .i64 r185.2.2.1, .int .i64 r185.2.2.2])]) (w' := w195) kr ?_
         refine WR.st (St.storeAll (t := 44) (vs := [.int .i64 r185.1, .int .i64 r185.2.1, .int .i64 r185.2.2.1, .int .i64 r185.2.2.2]) (.tmp 17) (.tmp 95) kr kr kr hS kr kr kr kr (fun w197 hS => ?_))
         have hS : Sat w197 (rf w0) [pts b194 (.cells #[.int .i64 r185.1, .int .i64 r185.2.1, .int .i64 r185.2.2.1, .int .i64 r185.2.2.2] 44 (0, 0)), O66 b27 r98.2.2.2, oar 48 (r0 (.int .i64)) 1 21 b21 q23_l1] := hS
         refine WR.runk [] [] [5, 6, 7, 14, 17, 33, 34, 35] (L' := [(5, .int .i64 (wi (1 + (wi (Int.tmod (IntKind.wrap .u64 a0) 6))))), (6, .pointer (some ⟨b27, 0, none⟩)), (7, .pointer (some ⟨b21, 0, none⟩)), (14, .int .i64 o181), (17, .pointer (some ⟨b194, 0, none⟩)), (33, .slice A1 l1.length c1), (34, .int .i64 (l1.length : Int)), (35, .int .i64 x35_l1)]) (w' := w197) kr ?_
         refine WR.nil ?_
         refine At.go ?_
         refine WC.seq kr ?_
         refine WC.reg [0, 1, 2, 3, 4, 5, 6, 7, 8, 9, 10, 11, 12, 13, 14] kr kr ?_
         refine WR.runk [0] [1, 2, 3, 4, 5, 6, 7, 8, 9, 10, 11, 12, 13, 14] [5, 6, 7, 14, 17, 33, 34, 35, 96] (L' := [(5, .int .i64 (wi (1 + (wi (Int.tmod (IntKind.wrap .u64 a0) 6))))), (6, .pointer (some ⟨b27, 0, none⟩)), (7, .pointer (some ⟨b21, 0, none⟩)), (14, .int .i64 o181), (17, .pointer (some ⟨b194, 0, none⟩)), (33, .slice A1 l1.length c1), (34, .int .i64 (l1.length : Int)), (35, .int .i64 x35_l1), (96, .pointer (some ⟨b194, 2, none⟩))]) (w' := w197) kr ?_
         refine WR.st (St.ofR (RSt.loadObj (t := 3) (k := 2) (v := .int .i64 r185.2.2.1) (.tmp 96) kr kr kr 0 hS rfl kr rfl ?_))
         refine WR.runk [2, 3, 4] [5, 6, 7, 8, 9, 10, 11, 12, 13, 14] [5, 6, 7, 14, 17, 33, 34, 35, 100] (L' := [(5, .int .i64 (wi (1 + (wi (Int.tmod (IntKind.wrap .u64 a0) 6))))), (6, .pointer (some ⟨b27, 0, none⟩)), (7, .pointer (some ⟨b21, 0, none⟩)), (14, .int .i64 o181), (17, .pointer (some ⟨b194, 0, none⟩)), (33, .slice A1 l1.length c1), (34, .int .i64 (l1.length : Int)), (35, .int .i64 x35_l1), (100, .bool (decide (r185.2.2.1 > wi (1 + (wi (Int.tmod (IntKind.wrap .u64 a0) 6))))))]) (w' := w197) kr ?_
         refine WR.split 100 (b := decide (r185.2.2.1 > wi (1 + (wi (Int.tmod (IntKind.wrap .u64 a0) 6))))) kr (fun hb198 => ?_) (fun hb198 => ?_)
         ·replace H := ite_t H hb198
          refine WR.runk [5, 6, 7, 8, 9, 10, 11, 12, 13, 14] [] [5, 6, 7, 33, 34, 35, 110] (L' := [(5, .int .i64 (wi (1 + (wi (Int.tmod (IntKind.wrap .u64 a0) 6))))), (6, .pointer (some ⟨b27, 0, none⟩)), (7, .pointer (some ⟨b21, 0, none⟩)), (33, .slice A1 l1.length c1), (34, .int .i64 (l1.length : Int)), (35, .int .i64 x35_l1), (110, .bool true)]) (w' := w197) kr ?_
          refine WR.nil ?_
          refine At.go ?_
          refine WC.condT kr kr kr ?_
          refine WC.seq kr ?_
          refine WC.reg [0] kr kr ?_
          refine WR.runk [0] [] [4] (L' := [(4, .bool false)]) (w' := w197) kr ?_
          refine WR.nil ?_
          refine At.go ?_
          refine WC.ret kr ?_
          refine At.blockRet ?_
          refine At.thenRet ?_
          refine At.thenRet ?_
          obtain rfl := Option.some.inj H
          have hS : Sat w197 (rf w0) [O66 b27 r98.2.2.2, oar 48 (r0 (.int .i64)) 1 21 b21 q23_l1] := hS.sel [1, 2] kr
          refine At.weaken [4] (L' := [(4, .bool false)]) kr ?_
          exact hn1 (false, r98.2.2.2, q23_l1) _ rfl hS
         ·replace H := ite_f H hb198
          refine WR.runk [5] [6, 7, 8, 9, 10, 11, 12, 13, 14] [5, 6, 7, 14, 33, 34, 35, 100, 101] (L' := [(5, .int .i64 (wi (1 + (wi (Int.tmod (IntKind.wrap .u64 a0) 6))))), (6, .pointer (some ⟨b27, 0, none⟩)), (7, .pointer (some ⟨b21, 0, none⟩)), (14, .int .i64 o181), (33, .slice A1 l1.length c1), (34, .int .i64 (l1.length : Int)), (35, .int .i64 x35_l1), (100, .bool false), (101, .pointer (some ⟨b194, 3, none⟩))]) (w' := w197) kr ?_
          refine WR.st (St.ofR (RSt.loadObj (t := 3) (k := 3) (v := .int .i64 r185.2.2.2) (.tmp 101) kr kr kr 0 hS rfl kr rfl ?_))
          refine WR.runk [7, 8, 9, 10] [11, 12, 13, 14] [5, 6, 7, 14, 33, 34, 35, 106] (L' := [(5, .int .i64 (wi (1 + (wi (Int.tmod (IntKind.wrap .u64 a0) 6))))), (6, .pointer (some ⟨b27, 0, none⟩)), (7, .pointer (some ⟨b21, 0, none⟩)), (14, .int .i64 o181), (33, .slice A1 l1.length c1), (34, .int .i64 (l1.length : Int)), (35, .int .i64 x35_l1), (106, .bool (r185.2.2.2 != o181))]) (w' := w197) kr ?_
          refine WR.split 106 (b := (r185.2.2.2 != o181)) kr (fun hb199 => ?_) (fun hb199 => ?_)
          ·replace H := ite_t H hb199
           refine WR.runk [11, 12, 13, 14] [] [5, 6, 7, 33, 34, 35, 110] (L' := [(5, .int .i64 (wi (1 + (wi (Int.tmod (IntKind.wrap .u64 a0) 6))))), (6, .pointer (some ⟨b27, 0, none⟩)), (7, .pointer (some ⟨b21, 0, none⟩)), (33, .slice A1 l1.length c1), (34, .int .i64 (l1.length : Int)), (35, .int .i64 x35_l1), (110, .bool true)]) (w' := w197) kr ?_
           refine WR.nil ?_
           refine At.go ?_
           refine WC.condT kr kr kr ?_
           refine WC.seq kr ?_
           refine WC.reg [0] kr kr ?_
           refine WR.runk [0] [] [4] (L' := [(4, .bool false)]) (w' := w197) kr ?_
           refine WR.nil ?_
           refine At.go ?_
           refine WC.ret kr ?_
           refine At.blockRet ?_
           refine At.thenRet ?_
           refine At.thenRet ?_
           obtain rfl := Option.some.inj H
           have hS : Sat w197 (rf w0) [O66 b27 r98.2.2.2, oar 48 (r0 (.int .i64)) 1 21 b21 q23_l1] := hS.sel [1, 2] kr
           refine At.weaken [4] (L' := [(4, .bool false)]) kr ?_
           exact hn1 (false, r98.2.2.2, q23_l1) _ rfl hS
          ·replace H := ite_f H hb199
           refine WR.runk [11, 12, 13, 14] [] [5, 6, 7, 33, 34, 35, 110] (L' := [(5, .int .i64 (wi (1 + (wi (Int.tmod (IntKind.wrap .u64 a0) 6))))), (6, .pointer (some ⟨b27, 0, none⟩)), (7, .pointer (some ⟨b21, 0, none⟩)), (33, .slice A1 l1.length c1), (34, .int .i64 (l1.length : Int)), (35, .int .i64 x35_l1), (110, .bool (decide (o181 > wi (1 + (wi (Int.tmod (IntKind.wrap .u64 a0) 6))))))]) (w' := w197) kr ?_
           refine WR.nil ?_
           refine At.go ?_
           refine WC.cond kr (decide (o181 > wi (1 + (wi (Int.tmod (IntKind.wrap .u64 a0) 6))))) kr kr (fun hb200 => ?_) (fun hb200 => ?_)
           ·replace H := ite_t H hb200
            refine WC.seq kr ?_
            refine WC.reg [0] kr kr ?_
            refine WR.runk [0] [] [4] (L' := [(4, .bool false)]) (w' := w197) kr ?_
            refine WR.nil ?_
            refine At.go ?_
            refine WC.ret kr ?_
            refine At.blockRet ?_
            refine At.thenRet ?_
            refine At.thenRet ?_
            obtain rfl := Option.some.inj H
            have hS : Sat w197 (rf w0) [O66 b27 r98.2.2.2, oar 48 (r0 (.int .i64)) 1 21 b21 q23_l1] := hS.sel [1, 2] kr
            refine At.weaken [4] (L' := [(4, .bool false)]) kr ?_
            exact hn1 (false, r98.2.2.2, q23_l1) _ rfl hS
           ·replace H := ite_f H hb200
            refine WC.skip kr ?_
            refine At.blockNormal ?_
            refine At.go ?_
            refine WC.reg [0, 1] kr kr ?_
            refine WR.runk [0, 1] [] [5, 6, 7, 33, 34, 35] (L' := [(5, .int .i64 (wi (1 + (wi (Int.tmod (IntKind.wrap .u64 a0) 6))))), (6, .pointer (some ⟨b27, 0, none⟩)), (7, .pointer (some ⟨b21, 0, none⟩)), (33, .slice A1 l1.length c1), (34, .int .i64 (l1.length : Int)), (35, .int .i64 (wi (x35_l1 + 1)))]) (w' := w197) kr ?_
            refine WR.nil ?_
            have hS : Sat w197 (rf w0) [O66 b27 r98.2.2.2, oar 48 (r0 (.int .i64)) 1 21 b21 q23_l1] := hS.sel [1, 2] kr
            refine At.again ?_
            refine WL.weaken [5, 6, 7, 33, 34, 35] (L' := [(5, .int .i64 (wi (1 + (wi (Int.tmod (IntKind.wrap .u64 a0) 6))))), (6, .pointer (some ⟨b27, 0, none⟩)), (7, .pointer (some ⟨b21, 0, none⟩)), (33, .slice A1 l1.length c1), (34, .int .i64 (l1.length : Int)), (35, .int .i64 (wi (x35_l1 + 1)))]) kr ?_
            exact ih (wi (x35_l1 + 1)) r98.2.2.2 q23_l1 _ hS H
    ·replace H := ite_f H hb29
     refine WC.exit kr ?_
     refine At.thenExit ?_
     refine At.thenExit ?_
     obtain rfl := Option.some.inj H
     have hS : Sat w (rf w0) [O66 b27 q28_l1, oar 48 (r0 (.int .i64)) 1 21 b21 q23_l1] := hS.sel [0, 1] kr
     refine At.weaken [] (L' := []) kr ?_
     exact hn0 (q28_l1, q23_l1) _ rfl hS
theorem colophonlaw07_CacheBounds.calls (w0 : World) (a0 : Int) (A1 : Option Addr) (c1 : Nat) (l1 : List Int) (R1 : rdS (r0 (.int .i64)) 1 (hp w0) A1 c1 l1) (r : Bool) (H : colophonlaw07_CacheBounds.f a0 l1 = some r) :
    Calls Try.prog 4 #[.int .i64 a0, .slice A1 l1.length c1] w0 (fun e w' => ∃ v, e = .returned v ∧ colophonlaw07_CacheBounds.post w0 r v w') := by
  have hS : Sat w0 (rf w0) [] := Sat.start w0
  unfold colophonlaw07_CacheBounds.f at H
  refine calls_of_WC (vs := [.int .i64 a0, .slice A1 l1.length c1]) Try.func4 (c := C4) (n := 144) kr kr kr ?_
  refine WC.seq kr ?_
  refine WC.reg [0] kr kr ?_
  refine WR.runk [0] [] [0, 1] (L' := [(0, .int .i64 a0), (1, .slice A1 l1.length c1)]) (w' := w0) kr ?_
  refine WR.nil ?_
  refine At.go ?_
  refine WC.seq kr ?_
  refine WC.seq kr ?_
  refine WC.reg [0, 1] kr kr ?_
  obtain ⟨r1, e2, H⟩ := bind_ex H
  refine WR.st (St.call kr (f := 7) (args := #[]) kr (colophonlaw07_first.calls w0  r1 e2) ?_)
  rintro _ w8 ⟨rfl, hS9⟩
  have hS : Sat w8 (rf w0) [] := hS.ext hS9
  refine WR.runk [1] [] [0, 1, 25] (L' := [(0, .int .i64 a0), (1, .slice A1 l1.length c1), (25, .bool (!r1))]) (w' := w8) kr ?_
  refine WR.nil ?_
  refine At.go ?_
  refine WC.cond kr (!r1) kr kr (fun hb10 => ?_) (fun hb10 => ?_)
  ·replace H := ite_t H hb10
   refine WC.seq kr ?_
   refine WC.reg [0] kr kr ?_
   refine WR.runk [0] [] [4] (L' := [(4, .bool false)]) (w' := w8) kr ?_
   refine WR.nil ?_
   refine At.go ?_
   refine WC.ret kr ?_
   refine At.thenRet ?_
   obtain rfl := Option.some.inj H
   have hS : Sat w8 (rf w0) [] := hS.sel [] kr
   exact At.body [.bool false] kr ⟨_, rfl, rfl, hS⟩
  ·replace H := ite_f H hb10
   refine WC.skip kr ?_
   refine At.go ?_
   refine WC.seq kr ?_
   refine WC.reg [0, 1, 2, 3, 4, 5] kr kr ?_
   refine WR.runk [0, 1, 2, 3, 4, 5] [] [1, 5] (L' := [(1, .slice A1 l1.length c1), (5, .int .i64 (wi (1 + (wi (Int.tmod (IntKind.wrap .u64 a0) 6)))))]) (w' := w8) kr ?_
   refine WR.nil ?_
   refine At.go ?_
   refine WC.seq kr ?_
   refine WC.reg [0, 1, 2] kr kr ?_
   refine WR.runk [0] [1, 2] [1, 5, 31] (L' := [(1, .slice A1 l1.length c1), (5, .int .i64 (wi (1 + (wi (Int.tmod (IntKind.wrap .u64 a0) 6))))), (31, .int .i64 (wi (1 + (wi (Int.tmod (IntKind.wrap .u64 a0) 6)))))]) (w' := w8) kr ?_
   obtain ⟨r11, e12, H⟩ := bind_ex H
   refine WR.st (St.call kr (f := 8) (args := #[.int .i64 20, .int .i64 (wi (1 + (wi (Int.tmod (IntKind.wrap .u64 a0) 6))))]) kr (colophonlaw07_made.calls w8 20 (wi (1 + (wi (Int.tmod (IntKind.wrap .u64 a0) 6)))) r11 e12) ?_)
   rintro pv20 w18 ⟨_, rfl, hS19⟩
   have hS : Sat w18 (rf w0) [optP O66 pv20 r11] := hS.ext hS19
   refine WR.runk [2] [] [1, 5, 6] (L' := [(1, .slice A1 l1.length c1), (5, .int .i64 (wi (1 + (wi (Int.tmod (IntKind.wrap .u64 a0) 6))))), (6, pv20)]) (w' := w18) kr ?_
   refine WR.nil ?_
   refine At.go ?_
   refine WC.seq kr ?_
   refine WC.reg [0] kr kr ?_
   refine WR.st (St.box hS kr (.cells ⟨List.replicate 21 (.int .i64 0)⟩ 48) (fun b21 => .pointer (some ⟨b21, 0, none⟩)) (fun _ => by kernel_rfl) (fun b21 w22 hS => ?_))
   have hS : Sat w22 (rf w0) [oar 48 (r0 (.int .i64)) 1 21 b21 (List.replicate 21 (0 : Int)), optP O66 pv20 r11] := oar.ofPts (κ := (.int .i64)) 21 0 [.int .i64 0] kr kr rfl kr hS
   refine WR.runk [] [] [1, 5, 6, 7] (L' := [(1, .slice A1 l1.length c1), (5, .int .i64 (wi (1 + (wi (Int.tmod (IntKind.wrap .u64 a0) 6))))), (6, pv20), (7, .pointer (some ⟨b21, 0, none⟩))]) (w' := w22) kr ?_
   refine WR.nil ?_
   refine At.go ?_
   refine WC.seq kr ?_
   refine WC.seq kr ?_
   refine WC.reg [0, 1, 2] kr kr ?_
   refine WR.runk [0, 1, 2] [] [5, 6, 7, 33, 34, 35] (L' := [(5, .int .i64 (wi (1 + (wi (Int.tmod (IntKind.wrap .u64 a0) 6))))), (6, pv20), (7, .pointer (some ⟨b21, 0, none⟩)), (33, .slice A1 l1.length c1), (34, .int .i64 (l1.length : Int)), (35, .int .i64 0)]) (w' := w22) kr ?_
   refine WR.nil ?_
   refine At.go ?_
   refine WC.block kr ?_
   have hS : Sat w22 (rf w0) [optP O66 pv20 r11, oar 48 (r0 (.int .i64)) 1 21 b21 (List.replicate 21 (0 : Int))] := hS.sel [1, 0] kr
   obtain ⟨y24, hr25, H⟩ := bind_ex H
   obtain ⟨b27, hv26, hN253⟩ := optP.some hS hr25
   subst hv26
   have hS : Sat w22 (rf w0) [O66 b27 y24, oar 48 (r0 (.int .i64)) 1 21 b21 (List.replicate 21 (0 : Int))] := hN253
   have hS : Sat w22 (rf w0) [O66 b27 y24, oar 48 (r0 (.int .i64)) 1 21 b21 (List.replicate 21 (0 : Int))] := hS.sel [0, 1] kr
   obtain ⟨o201, e202, H⟩ := bind_ex H
   refine WC.loop kr ?_
   refine WL.weaken [5, 6, 7, 33, 34, 35] (L' := [(5, .int .i64 (wi (1 + (wi (Int.tmod (IntKind.wrap .u64 a0) 6))))), (6, .pointer (some ⟨b27, 0, none⟩)), (7, .pointer (some ⟨b21, 0, none⟩)), (33, .slice A1 l1.length c1), (34, .int .i64 (l1.length : Int)), (35, .int .i64 0)]) kr ?_
   refine colophonlaw07_CacheBounds.l1_ok w0 a0 A1 c1 l1 b21 b27 R1 o201 (fun o203 w205 ho206 hS => ?_) (fun o249 w251 ho252 hS => ?_) FU 0 y24 (List.replicate 21 (0 : Int)) _ hS e202
   ·subst ho206
    dsimp only at H
    refine At.hit ?_
    refine At.go ?_
    refine WC.seq kr ?_
    refine WC.reg [0] kr kr ?_
    refine WR.runk [0] [] [18] (L' := [(18, .pointer none)]) (w' := w205) kr ?_
    refine WR.nil ?_
    refine At.go ?_
    refine WC.seq kr ?_
    refine WC.reg [0, 1, 2, 3, 4, 5, 6, 7, 8] kr kr ?_
    refine WR.runk [0] [1, 2, 3, 4, 5, 6, 7, 8] [18, 113] (L' := [(18, .pointer none), (113, .pointer none)]) (w' := w205) kr ?_
    obtain ⟨r207, e208, H⟩ := bind_ex H
    refine WR.st (St.call kr (f := 10) (args := #[.pointer none, .int .i64 0]) kr (cache_Cache_Hold_nil0.calls w205 0 r207 e208) ?_)
    rintro _ w214 ⟨A216, c217, rfl, hS215⟩
    have hS : Sat w214 (rf w0) [osl 5 (r0 (.int .u8)) 1 A216 c217 r207.1, O66 b27 o203.1, oar 48 (r0 (.int .i64)) 1 21 b21 o203.2] := hS.ext hS215
    refine WR.runk [2, 3, 4, 5, 6, 7, 8] [] [18, 21] (L' := [(18, .pointer none), (21, .int .i64 r207.2.2)]) (w' := w214) kr ?_
    refine WR.nil ?_
    refine At.go ?_
    refine WC.seq kr ?_
    refine WC.reg [0, 1, 2, 3, 4, 5] kr kr ?_
    refine WR.st (St.call kr (f := 17) (args := #[.pointer none, .int .i64 1]) kr (calls_of_WC (vs := [.pointer none, .int .i64 1]) Try.func17 (c := C17) (n := 35) kr kr kr ?_) (fun _ _ h => h))
    refine WC.seq kr ?_
    refine WC.reg [0, 1] kr kr ?_
    refine WR.runk [0, 1] [] [0, 1] (L' := [(0, .pointer none), (1, .int .i64 1)]) (w' := w214) kr ?_
    refine WR.nil ?_
    refine At.go ?_
    refine WC.seq kr ?_
    refine WC.block kr ?_
    refine WC.seq kr ?_
    refine WC.reg [0, 1, 2] kr kr ?_
    refine WR.runk [0, 1, 2] [] [0, 1, 7] (L' := [(0, .pointer none), (1, .int .i64 1), (7, .bool true)]) (w' := w214) kr ?_
    refine WR.nil ?_
    refine At.go ?_
    refine WC.condT kr kr kr ?_
    refine WC.seq kr ?_
    refine WC.reg [0, 1] kr kr ?_
    refine WR.runk [0, 1] [] [4, 5] (L' := [(4, .pointer none), (5, .int .i64 1)]) (w' := w214) kr ?_
    refine WR.nil ?_
    refine At.go ?_
    refine WC.ret kr ?_
    refine At.blockRet ?_
    refine At.thenRet ?_
    refine At.bodyK [.pointer none, .int .i64 1] (.tuple #[.pointer none, .int .i64 1]) kr rfl ?_
    refine WR.runk [1, 2, 3, 4, 5] [] [18, 21, 23] (L' := [(18, .pointer none), (21, .int .i64 r207.2.2), (23, .int .i64 1)]) (w' := w214) kr ?_
    refine WR.nil ?_
    refine At.go ?_
    refine WC.seq kr ?_
    refine WC.reg [0, 1, 2, 3, 4, 5, 6, 7, 8, 9, 10, 11, 12, 13, 14, 15, 16, 17, 18, 19, 20, 21, 22] kr kr ?_
    refine WR.runk [0, 1, 2] [3, 4, 5, 6, 7, 8, 9, 10, 11, 12, 13, 14, 15, 16, 17, 18, 19, 20, 21, 22] [18, 23, 124] (L' := [(18, .pointer none), (23, .int .i64 1), (124, .bool (r207.2.2 == 1))]) (w' := w214) kr ?_
    refine WR.split 124 (b := (r207.2.2 == 1)) kr (fun hb218 => ?_) (fun hb218 => ?_)
    ·replace H := ite_t H hb218
     refine WR.runk [3, 4, 5, 6] [7, 8, 9, 10, 11, 12, 13, 14, 15, 16, 17, 18, 19, 20, 21, 22] [18, 128] (L' := [(18, .pointer none), (128, .bool (1 == 1))]) (w' := w214) kr ?_
     refine WR.split 128 (b := (1 == 1)) kr (fun hb219 => ?_) (fun hb219 => ?_)
     ·replace H := ite_t H hb219
      refine WR.runk [7] [8, 9, 10, 11, 12, 13, 14, 15, 16, 17, 18, 19, 20, 21, 22] [18, 128, 129] (L' := [(18, .pointer none), (128, .bool true), (129, .pointer none)]) (w' := w214) kr ?_
      obtain ⟨r220, e221, H⟩ := bind_ex H
      refine WR.st (St.call kr (f := 12) (args := #[.pointer none, .int .i64 0]) kr (cache_Cache_Drop_nil0.calls w214 0 r220 e221) ?_)
      rintro _ w227 ⟨rfl, hS228⟩
      have hS : Sat w227 (rf w0) [osl 5 (r0 (.int .u8)) 1 A216 c217 r207.1, O66 b27 o203.1, oar 48 (r0 (.int .i64)) 1 21 b21 o203.2] := hS.ext hS228
      refine WR.runk [9, 10, 11] [12, 13, 14, 15, 16, 17, 18, 19, 20, 21, 22] [18, 133] (L' := [(18, .pointer none), (133, .bool (!r220))]) (w' := w227) kr ?_
      refine WR.split 133 (b := (!r220)) kr (fun hb229 => ?_) (fun hb229 => ?_)
      ·replace H := ite_t H hb229
       refine WR.runk [12] [13, 14, 15, 16, 17, 18, 19, 20, 21, 22] [18, 133, 134] (L' := [(18, .pointer none), (133, .bool true), (134, .pointer none)]) (w' := w227) kr ?_
       obtain ⟨r230, e231, H⟩ := bind_ex H
       refine WR.st (St.call kr (f := 14) (args := #[.pointer none, .int .i64 0]) kr (cache_Cache_Has.calls w227 (.pointer none) none rfl 0 r230 e231) ?_)
       rintro _ w237 ⟨rfl, hS238⟩
       have hS : Sat w237 (rf w0) [osl 5 (r0 (.int .u8)) 1 A216 c217 r207.1, O66 b27 o203.1, oar 48 (r0 (.int .i64)) 1 21 b21 o203.2] := hS.ext hS238
       refine WR.runk [14, 15, 16] [17, 18, 19, 20, 21, 22] [18, 138] (L' := [(18, .pointer none), (138, .bool (!r230))]) (w' := w237) kr ?_
       refine WR.split 138 (b := (!r230)) kr (fun hb239 => ?_) (fun hb239 => ?_)
       ·replace H := ite_t H hb239
        refine WR.runk [17] [18, 19, 20, 21, 22] [138, 139] (L' := [(138, .bool true), (139, .pointer none)]) (w' := w237) kr ?_
        obtain ⟨r240, e241, H⟩ := bind_ex H
        refine WR.st (St.call kr (f := 15) (args := #[.pointer none]) kr (cache_Cache_Stats.calls w237 (.pointer none) none rfl r240 e241) ?_)
        rintro _ w247 ⟨rfl, hS248⟩
        have hS : Sat w247 (rf w0) [osl 5 (r0 (.int .u8)) 1 A216 c217 r207.1, O66 b27 o203.1, oar 48 (r0 (.int .i64)) 1 21 b21 o203.2] := hS.ext hS248
        refine WR.runk [19] [20, 21, 22] [138, 140, 141] (L' := [(138, .bool true), (140, .agg #[.int .i64 r240.1, .int .i64 r240.2.1, .int .i64 r240.2.2.1, .int .i64 r240.2.2.2]), (141, .agg #[.int .i64 0, .int .i64 0, .int .i64 0, .int .i64 0])]) (w' := w247) kr ?_
        refine WR.st (St.ofP (PSt.eqInts (t := 44) (t2 := 44) (X := ([r240.1, r240.2.1, r240.2.2.1, r240.2.2.2] : List Int)) (Y := ([0, 0, 0, 0] : List Int)) .eql (by decide) (.tmp 140) (.tmp 141) kr kr kr kr kr kr kr kr kr kr ?_))
        refine WR.runk [21, 22] [] [4] (L' := [(4, .bool (([r240.1, r240.2.1, r240.2.2.1, r240.2.2.2] : List Int) == ([0, 0, 0, 0] : List Int)))]) (w' := w247) kr ?_
        refine WR.nil ?_
        refine At.go ?_
        refine WC.ret kr ?_
        obtain rfl := Option.some.inj H
        have hS : Sat w247 (rf w0) [] := hS.sel [] kr
        exact At.body [.bool (([r240.1, r240.2.1, r240.2.2.1, r240.2.2.2] : List Int) == ([0, 0, 0, 0] : List Int))] kr ⟨_, rfl, rfl, hS⟩
       ·replace H := ite_f H hb239
        refine WR.runk [17, 18, 19, 20, 21, 22] [] [4] (L' := [(4, .bool false)]) (w' := w237) kr ?_
        refine WR.nil ?_
        refine At.go ?_
        refine WC.ret kr ?_
        obtain rfl := Option.some.inj H
        have hS : Sat w237 (rf w0) [] := hS.sel [] kr
        exact At.body [.bool false] kr ⟨_, rfl, rfl, hS⟩
      ·replace H := ite_f H hb229
       refine WR.runk [12, 13, 14, 15, 16, 17, 18, 19, 20, 21, 22] [] [4] (L' := [(4, .bool false)]) (w' := w227) kr ?_
       refine WR.nil ?_
       refine At.go ?_
       refine WC.ret kr ?_
       obtain rfl := Option.some.inj H
       have hS : Sat w227 (rf w0) [] := hS.sel [] kr
       exact At.body [.bool false] kr ⟨_, rfl, rfl, hS⟩
     ·replace H := ite_f H hb219
      refine WR.runk [7, 8, 9, 10, 11, 12, 13, 14, 15, 16, 17, 18, 19, 20, 21, 22] [] [4] (L' := [(4, .bool false)]) (w' := w214) kr ?_
      refine WR.nil ?_
      refine At.go ?_
      refine WC.ret kr ?_
      obtain rfl := Option.some.inj H
      have hS : Sat w214 (rf w0) [] := hS.sel [] kr
      exact At.body [.bool false] kr ⟨_, rfl, rfl, hS⟩
    ·replace H := ite_f H hb218
     refine WR.runk [3, 4, 5, 6, 7, 8, 9, 10, 11, 12, 13, 14, 15, 16, 17, 18, 19, 20, 21, 22] [] [4] (L' := [(4, .bool false)]) (w' := w214) kr ?_
     refine WR.nil ?_
     refine At.go ?_
     refine WC.ret kr ?_
     obtain rfl := Option.some.inj H
     have hS : Sat w214 (rf w0) [] := hS.sel [] kr
     exact At.body [.bool false] kr ⟨_, rfl, rfl, hS⟩
   ·subst ho252
    dsimp only at H
    refine At.blockRet ?_
    refine At.thenRet ?_
    obtain rfl := Option.some.inj H
    have hS : Sat w251 (rf w0) [] := hS.sel [] kr
    exact At.body [.bool o249.1] kr ⟨_, rfl, rfl, hS⟩
end Go.Proofs.Ytbcdcpkofgfofaa
