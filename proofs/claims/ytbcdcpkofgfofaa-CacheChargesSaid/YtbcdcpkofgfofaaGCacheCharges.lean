/-
  Printed by gen.py (my own tool): for each Go function a plain Lean function and the proof that a call of it does what that function says.
-/
import Derived.Test.YtbcdcpkofgfofaaGP1d
set_option linter.unusedVariables false
set_option linter.unusedSimpArgs false
set_option maxRecDepth 100000
namespace Go.Proofs.Ytbcdcpkofgfofaa
open Go Go.Gol
/-! ### 5 colophon/colophonlaw07.CacheCharges -/
def colophonlaw07_CacheCharges.l1 (l0 : List Int) : Nat → Int → Int → Int → ((Option ((List (List Int)) × (List Int) × (List Int))) × (List (Int × (List Int) × Bool × Int)) × Int × Int × Int) → (List Int) → Option (Sum (Int × Int × ((Option ((List (List Int)) × (List Int) × (List Int))) × (List (Int × (List Int) × Bool × Int)) × Int × Int × Int) × (List Int)) (Bool × ((Option ((List (List Int)) × (List Int) × (List Int))) × (List (Int × (List Int) × Bool × Int)) × Int × Int × Int) × (List Int)))
  | 0, _, _, _, _, _ => none
  | k + 1, x7_l1, x8_l1, x23_l1, q39_l1, q34_l1 => (if decide (x23_l1 < (l0.length : Int)) then ((at? l0 x23_l1).bind fun v41 => (if decide (x23_l1 ≥ 120) then some (.inl (x7_l1, x8_l1, q39_l1, q34_l1)) else ((cache_Cache_Hold.f q39_l1 (wi (Int.tmod (IntKind.wrap .u64 v41) 10))).bind fun r44 => (if (r44.2.2.1 != 0) then some (.inr (false, r44.2.2.2, q34_l1)) else ((cache_Cache_Drop.f r44.2.2.2 (wi (Int.tmod (IntKind.wrap .u64 v41) 10))).bind fun r56 => (if (!r56.1) then some (.inr (false, r56.2, q34_l1)) else ((at? q34_l1 (wi (Int.tmod (IntKind.wrap .u64 v41) 10))).bind fun v66 => (if (v66 == 0) then (if r44.2.1 then some (.inr (false, r56.2, q34_l1)) else ((at? q34_l1 (wi (Int.tmod (IntKind.wrap .u64 v41) 10))).bind fun v70 => ((set? q34_l1 (wi (Int.tmod (IntKind.wrap .u64 v41) 10)) 1).bind fun y72 => colophonlaw07_CacheCharges.l1 l0 k (wi (x7_l1 + 1)) (wi (x8_l1 + 1)) (wi (x23_l1 + 1)) r56.2 y72))) else ((at? q34_l1 (wi (Int.tmod (IntKind.wrap .u64 v41) 10))).bind fun v77 => ((set? q34_l1 (wi (Int.tmod (IntKind.wrap .u64 v41) 10)) 1).bind fun y79 => colophonlaw07_CacheCharges.l1 l0 k (wi (x7_l1 + 1)) x8_l1 (wi (x23_l1 + 1)) r56.2 y79)))))))))) else some (.inl (x7_l1, x8_l1, q39_l1, q34_l1)))
def colophonlaw07_CacheCharges.l2 (l0 : List Int) : Nat → Int → Int → Int → ((Option ((List (List Int)) × (List Int) × (List Int))) × (List (Int × (List Int) × Bool × Int)) × Int × Int × Int) → (List Int) → Option (Sum (Int × Int × ((Option ((List (List Int)) × (List Int) × (List Int))) × (List (Int × (List Int) × Bool × Int)) × Int × Int × Int) × (List Int)) (Bool × ((Option ((List (List Int)) × (List Int) × (List Int))) × (List (Int × (List Int) × Bool × Int)) × Int × Int × Int) × (List Int)))
  | 0, _, _, _, _, _ => none
  | k + 1, x7_l2, x8_l2, x23_l2, q119_l2, q114_l2 => (if decide (x23_l2 < (l0.length : Int)) then ((at? l0 x23_l2).bind fun v121 => (if decide (x23_l2 ≥ 120) then some (.inl (x7_l2, x8_l2, q119_l2, q114_l2)) else ((cache_Cache_Hold.f q119_l2 (wi (Int.tmod (IntKind.wrap .u64 v121) 10))).bind fun r124 => (if (r124.2.2.1 != 0) then some (.inr (false, r124.2.2.2, q114_l2)) else ((cache_Cache_Drop.f r124.2.2.2 (wi (Int.tmod (IntKind.wrap .u64 v121) 10))).bind fun r136 => (if (!r136.1) then some (.inr (false, r136.2, q114_l2)) else ((at? q114_l2 (wi (Int.tmod (IntKind.wrap .u64 v121) 10))).bind fun v146 => (if (v146 == 0) then (if r124.2.1 then some (.inr (false, r136.2, q114_l2)) else ((at? q114_l2 (wi (Int.tmod (IntKind.wrap .u64 v121) 10))).bind fun v150 => ((set? q114_l2 (wi (Int.tmod (IntKind.wrap .u64 v121) 10)) 1).bind fun y152 => colophonlaw07_CacheCharges.l2 l0 k (wi (x7_l2 + 1)) (wi (x8_l2 + 1)) (wi (x23_l2 + 1)) r136.2 y152))) else ((at? q114_l2 (wi (Int.tmod (IntKind.wrap .u64 v121) 10))).bind fun v157 => ((set? q114_l2 (wi (Int.tmod (IntKind.wrap .u64 v121) 10)) 1).bind fun y159 => colophonlaw07_CacheCharges.l2 l0 k (wi (x7_l2 + 1)) x8_l2 (wi (x23_l2 + 1)) r136.2 y159)))))))))) else some (.inl (x7_l2, x8_l2, q119_l2, q114_l2)))
def colophonlaw07_CacheCharges.f (l0 : List Int) (a1 : Bool) : Option Bool := (colophonlaw07_first.f.bind fun r1 => (if (!r1) then some false else ((colophonlaw07_made.f 9 10).bind fun r11 => (if a1 then ((colophonlaw07_made.f 9 3).bind fun r22 => (r22.bind fun y35 => ((colophonlaw07_CacheCharges.l1 l0 FU 0 0 0 y35 (List.replicate 10 (0 : Int))).bind fun o84 => (match o84 with | .inl o86 => ((cache_Cache_Stats.f (some o86.2.2.1)).bind fun r90 => (if ((wi (r90.1 + r90.2.1)) == o86.1) then (if (r90.2.2.2 == 0) then (if decide (r90.2.1 ≥ o86.2.1) then (if a1 then some true else some (r90.2.1 == o86.2.1)) else some false) else some false) else some false)) | .inr o107 => some o107.1)))) else (r11.bind fun y115 => ((colophonlaw07_CacheCharges.l2 l0 FU 0 0 0 y115 (List.replicate 10 (0 : Int))).bind fun o164 => (match o164 with | .inl o166 => ((cache_Cache_Stats.f (some o166.2.2.1)).bind fun r170 => (if ((wi (r170.1 + r170.2.1)) == o166.1) then (if (r170.2.2.2 == 0) then (if decide (r170.2.1 ≥ o166.2.1) then (if a1 then some true else some (r170.2.1 == o166.2.1)) else some false) else some false) else some false)) | .inr o187 => some o187.1)))))))
def colophonlaw07_CacheCharges.post (w : World) (r : Bool) (v : Value) (w' : World) : Prop := v = (.bool r : Value) ∧ Sat w' (rf w) []
theorem colophonlaw07_CacheCharges.l1_ok {Q} (w0 : World) (A0 : Option Addr) (c0 : Nat) (l0 : List Int) (a1 : Bool) (b32 : Nat) (b38 : Nat) (R0 : rdS (r0 (.int .i64)) 1 (hp w0) A0 c0 l0) (out : Sum (Int × Int × ((Option ((List (List Int)) × (List Int) × (List Int))) × (List (Int × (List Int) × Bool × Int)) × Int × Int × Int) × (List Int)) (Bool × ((Option ((List (List Int)) × (List Int) × (List Int))) × (List (Int × (List Int) × Bool × Int)) × Int × Int × Int) × (List Int))) (hn0 : ∀ (o0 : Int × Int × ((Option ((List (List Int)) × (List Int) × (List Int))) × (List (Int × (List Int) × Bool × Int)) × Int × Int × Int) × (List Int)) (w : World), out = (.inl o0) → Sat w (rf w0) [O66 b38 o0.2.2.1, oar 52 (r0 (.int .i64)) 1 10 b32 o0.2.2.2] → At Q (.exit 0) 90 [(1, .bool a1), (5, .pointer (some ⟨b38, 0, none⟩)), (7, .int .i64 o0.1), (8, .int .i64 o0.2.1)] w) (hn1 : ∀ (o1 : Bool × ((Option ((List (List Int)) × (List Int) × (List Int))) × (List (Int × (List Int) × Bool × Int)) × Int × Int × Int) × (List Int)) (w : World), out = (.inr o1) → Sat w (rf w0) [O66 b38 o1.2.1, oar 52 (r0 (.int .i64)) 1 10 b32 o1.2.2] → At Q .ret 90 [(4, .bool o1.1)] w) :
    ∀ (k : Nat) (x7_l1 : Int) (x8_l1 : Int) (x23_l1 : Int) (q39_l1 : (Option ((List (List Int)) × (List Int) × (List Int))) × (List (Int × (List Int) × Bool × Int)) × Int × Int × Int) (q34_l1 : List Int) (w : World), Sat w (rf w0) [O66 b38 q39_l1, oar 52 (r0 (.int .i64)) 1 10 b32 q34_l1] → colophonlaw07_CacheCharges.l1 l0 k x7_l1 x8_l1 x23_l1 q39_l1 q34_l1 = some out → WL Try.prog (cbody (cbody (cr (cl (cr (cr (cr (cr (cr (cr C5)))))))))) Q 90 [(1, .bool a1), (5, .pointer (some ⟨b38, 0, none⟩)), (6, .pointer (some ⟨b32, 0, none⟩)), (7, .int .i64 x7_l1), (8, .int .i64 x8_l1), (21, .slice A0 l0.length c0), (22, .int .i64 (l0.length : Int)), (23, .int .i64 x23_l1)] w := by
  intro k
  induction k with
  | zero => intro x7_l1 x8_l1 x23_l1 q39_l1 q34_l1 w hS H; exact absurd (show none = some out from H) (by simp)
  | succ k ih =>
    intro x7_l1 x8_l1 x23_l1 q39_l1 q34_l1 w hS H
    unfold colophonlaw07_CacheCharges.l1 at H
    refine WL.round ?_
    refine WC.seq (by kernel_rfl) ?_
    refine WC.reg [0] (by kernel_rfl) (by kernel_rfl) ?_
    refine WR.runk [0] [] [1, 5, 6, 7, 8, 21, 22, 23, 24] (L' := [(1, .bool a1), (5, .pointer (some ⟨b38, 0, none⟩)), (6, .pointer (some ⟨b32, 0, none⟩)), (7, .int .i64 x7_l1), (8, .int .i64 x8_l1), (21, .slice A0 l0.length c0), (22, .int .i64 (l0.length : Int)), (23, .int .i64 x23_l1), (24, .bool (decide (x23_l1 < (l0.length : Int))))]) (w' := w) (by kernel_rfl) ?_
    refine WR.nil ?_
    refine At.go ?_
    refine WC.seq (by kernel_rfl) ?_
    refine WC.cond (by kernel_rfl) (decide (x23_l1 < (l0.length : Int))) (by kernel_rfl) (by kernel_rfl) (fun hb40 => ?_) (fun hb40 => ?_)
    · replace H := ite_t H hb40
      refine WC.skip (by kernel_rfl) ?_
      refine At.go ?_
      refine WC.seq (by kernel_rfl) ?_
      refine WC.block (by kernel_rfl) ?_
      refine WC.seq (by kernel_rfl) ?_
      refine WC.reg [0, 1, 2, 3, 4] (by kernel_rfl) (by kernel_rfl) ?_
      refine WR.runk [0] [1, 2, 3, 4] [1, 5, 6, 7, 8, 21, 22, 23, 25] (L' := [(1, .bool a1), (5, .pointer (some ⟨b38, 0, none⟩)), (6, .pointer (some ⟨b32, 0, none⟩)), (7, .int .i64 x7_l1), (8, .int .i64 x8_l1), (21, .slice A0 l0.length c0), (22, .int .i64 (l0.length : Int)), (23, .int .i64 x23_l1), (25, .int .i64 x23_l1)]) (w' := w) (by kernel_rfl) ?_
      obtain ⟨v41, e42, H⟩ := bind_ex H
      refine WR.st (St.ofP (PSt.idx (k := .i64) (.tmp 21) (.tmp 23) (by kernel_rfl) (by kernel_rfl) E47 (by kernel_rfl) (by kernel_rfl) (rdS.up R0 hS.sub0) e42 ?_))
      refine WR.runk [] [2, 3, 4] [1, 5, 6, 7, 8, 21, 22, 23, 25, 26] (L' := [(1, .bool a1), (5, .pointer (some ⟨b38, 0, none⟩)), (6, .pointer (some ⟨b32, 0, none⟩)), (7, .int .i64 x7_l1), (8, .int .i64 x8_l1), (21, .slice A0 l0.length c0), (22, .int .i64 (l0.length : Int)), (23, .int .i64 x23_l1), (25, .int .i64 x23_l1), (26, .pointer (some (adr A0 x23_l1.toNat 1)))]) (w' := w) (by kernel_rfl) ?_
      refine WR.st (St.ofR (RSt.loadInt (t := 3) (.tmp 26) (by kernel_rfl) (by kernel_rfl) (by kernel_rfl) (by kernel_rfl) (rdS.up R0 hS.sub0) e42 ?_))
      refine WR.runk [3, 4] [] [1, 5, 6, 7, 8, 9, 10, 21, 22, 23] (L' := [(1, .bool a1), (5, .pointer (some ⟨b38, 0, none⟩)), (6, .pointer (some ⟨b32, 0, none⟩)), (7, .int .i64 x7_l1), (8, .int .i64 x8_l1), (9, .int .i64 x23_l1), (10, .int .i64 v41), (21, .slice A0 l0.length c0), (22, .int .i64 (l0.length : Int)), (23, .int .i64 x23_l1)]) (w' := w) (by kernel_rfl) ?_
      refine WR.nil ?_
      refine At.go ?_
      refine WC.seq (by kernel_rfl) ?_
      refine WC.seq (by kernel_rfl) ?_
      refine WC.reg [0, 1] (by kernel_rfl) (by kernel_rfl) ?_
      refine WR.runk [0, 1] [] [1, 5, 6, 7, 8, 10, 21, 22, 23, 29] (L' := [(1, .bool a1), (5, .pointer (some ⟨b38, 0, none⟩)), (6, .pointer (some ⟨b32, 0, none⟩)), (7, .int .i64 x7_l1), (8, .int .i64 x8_l1), (10, .int .i64 v41), (21, .slice A0 l0.length c0), (22, .int .i64 (l0.length : Int)), (23, .int .i64 x23_l1), (29, .bool (decide (x23_l1 ≥ 120)))]) (w' := w) (by kernel_rfl) ?_
      refine WR.nil ?_
      refine At.go ?_
      refine WC.cond (by kernel_rfl) (decide (x23_l1 ≥ 120)) (by kernel_rfl) (by kernel_rfl) (fun hb43 => ?_) (fun hb43 => ?_)
      · replace H := ite_t H hb43
        refine WC.exit (by kernel_rfl) ?_
        refine At.thenExit ?_
        refine At.miss (by kernel_rfl) ?_
        refine At.thenExit ?_
        refine At.thenExit ?_
        obtain rfl := Option.some.inj H
        have hS : Sat w (rf w0) [O66 b38 q39_l1, oar 52 (r0 (.int .i64)) 1 10 b32 q34_l1] := hS.sel [0, 1] (by kernel_rfl)
        refine At.weaken [1, 5, 7, 8] (L' := [(1, .bool a1), (5, .pointer (some ⟨b38, 0, none⟩)), (7, .int .i64 x7_l1), (8, .int .i64 x8_l1)]) (by kernel_rfl) ?_
        exact hn0 (x7_l1, x8_l1, q39_l1, q34_l1) _ rfl hS
      · replace H := ite_f H hb43
        refine WC.skip (by kernel_rfl) ?_
        refine At.go ?_
        refine WC.seq (by kernel_rfl) ?_
        refine WC.reg [0, 1, 2, 3, 4] (by kernel_rfl) (by kernel_rfl) ?_
        refine WR.runk [0, 1, 2, 3, 4] [] [1, 5, 6, 7, 8, 11, 21, 22, 23] (L' := [(1, .bool a1), (5, .pointer (some ⟨b38, 0, none⟩)), (6, .pointer (some ⟨b32, 0, none⟩)), (7, .int .i64 x7_l1), (8, .int .i64 x8_l1), (11, .int .i64 (wi (Int.tmod (IntKind.wrap .u64 v41) 10))), (21, .slice A0 l0.length c0), (22, .int .i64 (l0.length : Int)), (23, .int .i64 x23_l1)]) (w' := w) (by kernel_rfl) ?_
        refine WR.nil ?_
        refine At.go ?_
        refine WC.seq (by kernel_rfl) ?_
        refine WC.reg [0, 1, 2, 3, 4, 5, 6, 7, 8, 9] (by kernel_rfl) (by kernel_rfl) ?_
        refine WR.runk [0, 1] [2, 3, 4, 5, 6, 7, 8, 9] [1, 5, 6, 7, 8, 11, 21, 22, 23, 35, 36] (L' := [(1, .bool a1), (5, .pointer (some ⟨b38, 0, none⟩)), (6, .pointer (some ⟨b32, 0, none⟩)), (7, .int .i64 x7_l1), (8, .int .i64 x8_l1), (11, .int .i64 (wi (Int.tmod (IntKind.wrap .u64 v41) 10))), (21, .slice A0 l0.length c0), (22, .int .i64 (l0.length : Int)), (23, .int .i64 x23_l1), (35, .pointer (some ⟨b38, 0, none⟩)), (36, .int .i64 (wi (Int.tmod (IntKind.wrap .u64 v41) 10)))]) (w' := w) (by kernel_rfl) ?_
        obtain ⟨r44, e45, H⟩ := bind_ex H
        obtain ⟨B50, hso49, hsub47, hcs48, hb46⟩ := Sat.lend [O66 b38 q39_l1] (cs := [oar 52 (r0 (.int .i64)) 1 10 b32 q34_l1]) hS
        refine WR.st (St.call (by kernel_rfl) (f := 10) (args := #[.pointer (some ⟨b38, 0, none⟩), .int .i64 (wi (Int.tmod (IntKind.wrap .u64 v41) 10))]) (by kernel_rfl) (cache_Cache_Hold.calls B50 w b38 q39_l1 hso49 (wi (Int.tmod (IntKind.wrap .u64 v41) 10)) r44 e45) ?_)
        rintro _ w51 ⟨A53, c54, rfl, hS52⟩
        have hS : Sat w51 (rf w0) [O66 b38 r44.2.2.2, osl 5 (r0 (.int .u8)) 1 A53 c54 r44.1, oar 52 (r0 (.int .i64)) 1 10 b32 q34_l1] := hb46 _ _ hS52
        refine WR.runk [3, 4, 5, 6, 7, 8, 9] [] [1, 5, 6, 7, 8, 11, 13, 14, 21, 22, 23] (L' := [(1, .bool a1), (5, .pointer (some ⟨b38, 0, none⟩)), (6, .pointer (some ⟨b32, 0, none⟩)), (7, .int .i64 x7_l1), (8, .int .i64 x8_l1), (11, .int .i64 (wi (Int.tmod (IntKind.wrap .u64 v41) 10))), (13, .bool r44.2.1), (14, .int .i64 r44.2.2.1), (21, .slice A0 l0.length c0), (22, .int .i64 (l0.length : Int)), (23, .int .i64 x23_l1)]) (w' := w51) (by kernel_rfl) ?_
        refine WR.nil ?_
        refine At.go ?_
        refine WC.seq (by kernel_rfl) ?_
        refine WC.seq (by kernel_rfl) ?_
        refine WC.reg [0, 1, 2, 3, 4, 5, 6, 7] (by kernel_rfl) (by kernel_rfl) ?_
        refine WR.runk [0, 1, 2] [3, 4, 5, 6, 7] [1, 5, 6, 7, 8, 11, 13, 21, 22, 23, 43] (L' := [(1, .bool a1), (5, .pointer (some ⟨b38, 0, none⟩)), (6, .pointer (some ⟨b32, 0, none⟩)), (7, .int .i64 x7_l1), (8, .int .i64 x8_l1), (11, .int .i64 (wi (Int.tmod (IntKind.wrap .u64 v41) 10))), (13, .bool r44.2.1), (21, .slice A0 l0.length c0), (22, .int .i64 (l0.length : Int)), (23, .int .i64 x23_l1), (43, .bool (r44.2.2.1 != 0))]) (w' := w51) (by kernel_rfl) ?_
        refine WR.split 43 (b := (r44.2.2.1 != 0)) (by kernel_rfl) (fun hb55 => ?_) (fun hb55 => ?_)
        · replace H := ite_t H hb55
          refine WR.runk [3, 4, 5, 6, 7] [] [1, 5, 6, 7, 8, 11, 13, 21, 22, 23, 48] (L' := [(1, .bool a1), (5, .pointer (some ⟨b38, 0, none⟩)), (6, .pointer (some ⟨b32, 0, none⟩)), (7, .int .i64 x7_l1), (8, .int .i64 x8_l1), (11, .int .i64 (wi (Int.tmod (IntKind.wrap .u64 v41) 10))), (13, .bool r44.2.1), (21, .slice A0 l0.length c0), (22, .int .i64 (l0.length : Int)), (23, .int .i64 x23_l1), (48, .bool true)]) (w' := w51) (by kernel_rfl) ?_
          refine WR.nil ?_
          refine At.go ?_
          refine WC.condT (by kernel_rfl) (by kernel_rfl) (by kernel_rfl) ?_
          refine WC.seq (by kernel_rfl) ?_
          refine WC.reg [0] (by kernel_rfl) (by kernel_rfl) ?_
          refine WR.runk [0] [] [4] (L' := [(4, .bool false)]) (w' := w51) (by kernel_rfl) ?_
          refine WR.nil ?_
          refine At.go ?_
          refine WC.ret (by kernel_rfl) ?_
          refine At.thenRet ?_
          refine At.blockRet ?_
          refine At.thenRet ?_
          refine At.thenRet ?_
          obtain rfl := Option.some.inj H
          have hS : Sat w51 (rf w0) [O66 b38 r44.2.2.2, oar 52 (r0 (.int .i64)) 1 10 b32 q34_l1] := hS.sel [0, 2] (by kernel_rfl)
          refine At.weaken [4] (L' := [(4, .bool false)]) (by kernel_rfl) ?_
          exact hn1 (false, r44.2.2.2, q34_l1) _ rfl hS
        · replace H := ite_f H hb55
          refine WR.runk [3, 4] [5, 6, 7] [1, 5, 6, 7, 8, 11, 13, 21, 22, 23, 43, 44, 45] (L' := [(1, .bool a1), (5, .pointer (some ⟨b38, 0, none⟩)), (6, .pointer (some ⟨b32, 0, none⟩)), (7, .int .i64 x7_l1), (8, .int .i64 x8_l1), (11, .int .i64 (wi (Int.tmod (IntKind.wrap .u64 v41) 10))), (13, .bool r44.2.1), (21, .slice A0 l0.length c0), (22, .int .i64 (l0.length : Int)), (23, .int .i64 x23_l1), (43, .bool false), (44, .pointer (some ⟨b38, 0, none⟩)), (45, .int .i64 (wi (Int.tmod (IntKind.wrap .u64 v41) 10)))]) (w' := w51) (by kernel_rfl) ?_
          obtain ⟨r56, e57, H⟩ := bind_ex H
          obtain ⟨B62, hso61, hsub59, hcs60, hb58⟩ := Sat.lend [O66 b38 r44.2.2.2] (cs := [osl 5 (r0 (.int .u8)) 1 A53 c54 r44.1, oar 52 (r0 (.int .i64)) 1 10 b32 q34_l1]) hS
          refine WR.st (St.call (by kernel_rfl) (f := 12) (args := #[.pointer (some ⟨b38, 0, none⟩), .int .i64 (wi (Int.tmod (IntKind.wrap .u64 v41) 10))]) (by kernel_rfl) (cache_Cache_Drop.calls B62 w51 b38 r44.2.2.2 hso61 (wi (Int.tmod (IntKind.wrap .u64 v41) 10)) r56 e57) ?_)
          rintro _ w63 ⟨rfl, hS64⟩
          have hS : Sat w63 (rf w0) [O66 b38 r56.2, osl 5 (r0 (.int .u8)) 1 A53 c54 r44.1, oar 52 (r0 (.int .i64)) 1 10 b32 q34_l1] := hb58 _ _ hS64
          refine WR.runk [6, 7] [] [1, 5, 6, 7, 8, 11, 13, 21, 22, 23, 48] (L' := [(1, .bool a1), (5, .pointer (some ⟨b38, 0, none⟩)), (6, .pointer (some ⟨b32, 0, none⟩)), (7, .int .i64 x7_l1), (8, .int .i64 x8_l1), (11, .int .i64 (wi (Int.tmod (IntKind.wrap .u64 v41) 10))), (13, .bool r44.2.1), (21, .slice A0 l0.length c0), (22, .int .i64 (l0.length : Int)), (23, .int .i64 x23_l1), (48, .bool (!r56.1))]) (w' := w63) (by kernel_rfl) ?_
          refine WR.nil ?_
          refine At.go ?_
          refine WC.cond (by kernel_rfl) (!r56.1) (by kernel_rfl) (by kernel_rfl) (fun hb65 => ?_) (fun hb65 => ?_)
          · replace H := ite_t H hb65
            refine WC.seq (by kernel_rfl) ?_
            refine WC.reg [0] (by kernel_rfl) (by kernel_rfl) ?_
            refine WR.runk [0] [] [4] (L' := [(4, .bool false)]) (w' := w63) (by kernel_rfl) ?_
            refine WR.nil ?_
            refine At.go ?_
            refine WC.ret (by kernel_rfl) ?_
            refine At.thenRet ?_
            refine At.blockRet ?_
            refine At.thenRet ?_
            refine At.thenRet ?_
            obtain rfl := Option.some.inj H
            have hS : Sat w63 (rf w0) [O66 b38 r56.2, oar 52 (r0 (.int .i64)) 1 10 b32 q34_l1] := hS.sel [0, 2] (by kernel_rfl)
            refine At.weaken [4] (L' := [(4, .bool false)]) (by kernel_rfl) ?_
            exact hn1 (false, r56.2, q34_l1) _ rfl hS
          · replace H := ite_f H hb65
            refine WC.skip (by kernel_rfl) ?_
            refine At.go ?_
            refine WC.seq (by kernel_rfl) ?_
            refine WC.reg [0, 1, 2] (by kernel_rfl) (by kernel_rfl) ?_
            refine WR.runk [0, 1, 2] [] [1, 5, 6, 7, 8, 11, 13, 21, 22, 23] (L' := [(1, .bool a1), (5, .pointer (some ⟨b38, 0, none⟩)), (6, .pointer (some ⟨b32, 0, none⟩)), (7, .int .i64 (wi (x7_l1 + 1))), (8, .int .i64 x8_l1), (11, .int .i64 (wi (Int.tmod (IntKind.wrap .u64 v41) 10))), (13, .bool r44.2.1), (21, .slice A0 l0.length c0), (22, .int .i64 (l0.length : Int)), (23, .int .i64 x23_l1)]) (w' := w63) (by kernel_rfl) ?_
            refine WR.nil ?_
            refine At.go ?_
            refine WC.seq (by kernel_rfl) ?_
            refine WC.seq (by kernel_rfl) ?_
            refine WC.reg [0, 1, 2, 3] (by kernel_rfl) (by kernel_rfl) ?_
            refine WR.runk [0] [1, 2, 3] [1, 5, 6, 7, 8, 11, 13, 21, 22, 23, 51] (L' := [(1, .bool a1), (5, .pointer (some ⟨b38, 0, none⟩)), (6, .pointer (some ⟨b32, 0, none⟩)), (7, .int .i64 (wi (x7_l1 + 1))), (8, .int .i64 x8_l1), (11, .int .i64 (wi (Int.tmod (IntKind.wrap .u64 v41) 10))), (13, .bool r44.2.1), (21, .slice A0 l0.length c0), (22, .int .i64 (l0.length : Int)), (23, .int .i64 x23_l1), (51, .int .i64 (wi (Int.tmod (IntKind.wrap .u64 v41) 10)))]) (w' := w63) (by kernel_rfl) ?_
            obtain ⟨v66, e67, H⟩ := bind_ex H
            refine WR.st (St.ofP (PSt.idxArr (k := .i64) (t := 52) (e := 3) (sz := 1) (b := b32) (.tmp 6) (.tmp 51) (by kernel_rfl) (by kernel_rfl) (by kernel_rfl) (by kernel_rfl) (by kernel_rfl) (by kernel_rfl) (by kernel_rfl) (Sat.oarAt 2 hS rfl).2 e67 ?_))
            refine WR.runk [] [2, 3] [1, 5, 6, 7, 8, 11, 13, 21, 22, 23, 52] (L' := [(1, .bool a1), (5, .pointer (some ⟨b38, 0, none⟩)), (6, .pointer (some ⟨b32, 0, none⟩)), (7, .int .i64 (wi (x7_l1 + 1))), (8, .int .i64 x8_l1), (11, .int .i64 (wi (Int.tmod (IntKind.wrap .u64 v41) 10))), (13, .bool r44.2.1), (21, .slice A0 l0.length c0), (22, .int .i64 (l0.length : Int)), (23, .int .i64 x23_l1), (52, .pointer (some (adr (some ⟨b32, 0, none⟩) (wi (Int.tmod (IntKind.wrap .u64 v41) 10)).toNat 1)))]) (w' := w63) (by kernel_rfl) ?_
            refine WR.st (St.ofR (RSt.loadInt (t := 3) (.tmp 52) (by kernel_rfl) (by kernel_rfl) (by kernel_rfl) (by kernel_rfl) (Sat.oarAt 2 hS rfl).1 e67 ?_))
            refine WR.runk [3] [] [1, 5, 6, 7, 8, 11, 13, 21, 22, 23, 54] (L' := [(1, .bool a1), (5, .pointer (some ⟨b38, 0, none⟩)), (6, .pointer (some ⟨b32, 0, none⟩)), (7, .int .i64 (wi (x7_l1 + 1))), (8, .int .i64 x8_l1), (11, .int .i64 (wi (Int.tmod (IntKind.wrap .u64 v41) 10))), (13, .bool r44.2.1), (21, .slice A0 l0.length c0), (22, .int .i64 (l0.length : Int)), (23, .int .i64 x23_l1), (54, .bool (v66 == 0))]) (w' := w63) (by kernel_rfl) ?_
            refine WR.nil ?_
            refine At.go ?_
            refine WC.cond (by kernel_rfl) (v66 == 0) (by kernel_rfl) (by kernel_rfl) (fun hb68 => ?_) (fun hb68 => ?_)
            · replace H := ite_t H hb68
              refine WC.seq (by kernel_rfl) ?_
              refine WC.reg [0, 1, 2] (by kernel_rfl) (by kernel_rfl) ?_
              refine WR.runk [0, 1, 2] [] [1, 5, 6, 7, 8, 11, 13, 21, 22, 23] (L' := [(1, .bool a1), (5, .pointer (some ⟨b38, 0, none⟩)), (6, .pointer (some ⟨b32, 0, none⟩)), (7, .int .i64 (wi (x7_l1 + 1))), (8, .int .i64 (wi (x8_l1 + 1))), (11, .int .i64 (wi (Int.tmod (IntKind.wrap .u64 v41) 10))), (13, .bool r44.2.1), (21, .slice A0 l0.length c0), (22, .int .i64 (l0.length : Int)), (23, .int .i64 x23_l1)]) (w' := w63) (by kernel_rfl) ?_
              refine WR.nil ?_
              refine At.go ?_
              refine WC.seq (by kernel_rfl) ?_
              refine WC.reg [0] (by kernel_rfl) (by kernel_rfl) ?_
              refine WR.runk [0] [] [1, 5, 6, 7, 8, 11, 21, 22, 23, 57] (L' := [(1, .bool a1), (5, .pointer (some ⟨b38, 0, none⟩)), (6, .pointer (some ⟨b32, 0, none⟩)), (7, .int .i64 (wi (x7_l1 + 1))), (8, .int .i64 (wi (x8_l1 + 1))), (11, .int .i64 (wi (Int.tmod (IntKind.wrap .u64 v41) 10))), (21, .slice A0 l0.length c0), (22, .int .i64 (l0.length : Int)), (23, .int .i64 x23_l1), (57, .bool r44.2.1)]) (w' := w63) (by kernel_rfl) ?_
              refine WR.nil ?_
              refine At.go ?_
              refine WC.cond (by kernel_rfl) r44.2.1 (by kernel_rfl) (by kernel_rfl) (fun hb69 => ?_) (fun hb69 => ?_)
              · replace H := ite_t H hb69
                refine WC.seq (by kernel_rfl) ?_
                refine WC.reg [0] (by kernel_rfl) (by kernel_rfl) ?_
                refine WR.runk [0] [] [4] (L' := [(4, .bool false)]) (w' := w63) (by kernel_rfl) ?_
                refine WR.nil ?_
                refine At.go ?_
                refine WC.ret (by kernel_rfl) ?_
                refine At.thenRet ?_
                refine At.blockRet ?_
                refine At.thenRet ?_
                refine At.thenRet ?_
                obtain rfl := Option.some.inj H
                have hS : Sat w63 (rf w0) [O66 b38 r56.2, oar 52 (r0 (.int .i64)) 1 10 b32 q34_l1] := hS.sel [0, 2] (by kernel_rfl)
                refine At.weaken [4] (L' := [(4, .bool false)]) (by kernel_rfl) ?_
                exact hn1 (false, r56.2, q34_l1) _ rfl hS
              · replace H := ite_f H hb69
                refine WC.skip (by kernel_rfl) ?_
                refine At.go ?_
                refine WC.reg [0, 1, 2] (by kernel_rfl) (by kernel_rfl) ?_
                refine WR.runk [0] [1, 2] [1, 5, 6, 7, 8, 21, 22, 23, 58] (L' := [(1, .bool a1), (5, .pointer (some ⟨b38, 0, none⟩)), (6, .pointer (some ⟨b32, 0, none⟩)), (7, .int .i64 (wi (x7_l1 + 1))), (8, .int .i64 (wi (x8_l1 + 1))), (21, .slice A0 l0.length c0), (22, .int .i64 (l0.length : Int)), (23, .int .i64 x23_l1), (58, .int .i64 (wi (Int.tmod (IntKind.wrap .u64 v41) 10)))]) (w' := w63) (by kernel_rfl) ?_
                obtain ⟨v70, e71, H⟩ := bind_ex H
                refine WR.st (St.ofP (PSt.idxArr (k := .i64) (t := 52) (e := 3) (sz := 1) (b := b32) (.tmp 6) (.tmp 58) (by kernel_rfl) (by kernel_rfl) (by kernel_rfl) (by kernel_rfl) (by kernel_rfl) (by kernel_rfl) (by kernel_rfl) (Sat.oarAt 2 hS rfl).2 e71 ?_))
                refine WR.runk [] [2] [1, 5, 6, 7, 8, 21, 22, 23, 59] (L' := [(1, .bool a1), (5, .pointer (some ⟨b38, 0, none⟩)), (6, .pointer (some ⟨b32, 0, none⟩)), (7, .int .i64 (wi (x7_l1 + 1))), (8, .int .i64 (wi (x8_l1 + 1))), (21, .slice A0 l0.length c0), (22, .int .i64 (l0.length : Int)), (23, .int .i64 x23_l1), (59, .pointer (some (adr (some ⟨b32, 0, none⟩) (wi (Int.tmod (IntKind.wrap .u64 v41) 10)).toNat 1)))]) (w' := w63) (by kernel_rfl) ?_
                have hS : Sat w63 (rf w0) [oar 52 (r0 (.int .i64)) 1 10 b32 q34_l1, O66 b38 r56.2, osl 5 (r0 (.int .u8)) 1 A53 c54 r44.1] := hS.sel [2, 0, 1] (by kernel_rfl)
                obtain ⟨y72, e73, H⟩ := bind_ex H
                obtain ⟨hl75, hS⟩ := oar.op hS
                refine WR.st (St.storeElem' (t := 3) (.tmp 59) (.const (.int .i64 1)) (by kernel_rfl) (by kernel_rfl) (by kernel_rfl) hS (by kernel_rfl) (by kernel_rfl) rfl e73 rfl (fun w74 hS => ?_))
                have hl76 := (set?_len e73).trans hl75
                have hS : Sat w74 (rf w0) [oar 52 (r0 (.int .i64)) 1 10 b32 y72, O66 b38 r56.2, osl 5 (r0 (.int .u8)) 1 A53 c54 r44.1] := oar.cl hl76 hS
                refine WR.runk [] [] [1, 5, 6, 7, 8, 21, 22, 23] (L' := [(1, .bool a1), (5, .pointer (some ⟨b38, 0, none⟩)), (6, .pointer (some ⟨b32, 0, none⟩)), (7, .int .i64 (wi (x7_l1 + 1))), (8, .int .i64 (wi (x8_l1 + 1))), (21, .slice A0 l0.length c0), (22, .int .i64 (l0.length : Int)), (23, .int .i64 x23_l1)]) (w' := w74) (by kernel_rfl) ?_
                refine WR.nil ?_
                refine At.blockNormal ?_
                refine At.go ?_
                refine WC.reg [0, 1] (by kernel_rfl) (by kernel_rfl) ?_
                refine WR.runk [0, 1] [] [1, 5, 6, 7, 8, 21, 22, 23] (L' := [(1, .bool a1), (5, .pointer (some ⟨b38, 0, none⟩)), (6, .pointer (some ⟨b32, 0, none⟩)), (7, .int .i64 (wi (x7_l1 + 1))), (8, .int .i64 (wi (x8_l1 + 1))), (21, .slice A0 l0.length c0), (22, .int .i64 (l0.length : Int)), (23, .int .i64 (wi (x23_l1 + 1)))]) (w' := w74) (by kernel_rfl) ?_
                refine WR.nil ?_
                have hS : Sat w74 (rf w0) [O66 b38 r56.2, oar 52 (r0 (.int .i64)) 1 10 b32 y72] := hS.sel [1, 0] (by kernel_rfl)
                refine At.again ?_
                refine WL.weaken [1, 5, 6, 7, 8, 21, 22, 23] (L' := [(1, .bool a1), (5, .pointer (some ⟨b38, 0, none⟩)), (6, .pointer (some ⟨b32, 0, none⟩)), (7, .int .i64 (wi (x7_l1 + 1))), (8, .int .i64 (wi (x8_l1 + 1))), (21, .slice A0 l0.length c0), (22, .int .i64 (l0.length : Int)), (23, .int .i64 (wi (x23_l1 + 1)))]) (by kernel_rfl) ?_
                exact ih (wi (x7_l1 + 1)) (wi (x8_l1 + 1)) (wi (x23_l1 + 1)) r56.2 y72 _ hS H
            · replace H := ite_f H hb68
              refine WC.skip (by kernel_rfl) ?_
              refine At.go ?_
              refine WC.reg [0, 1, 2] (by kernel_rfl) (by kernel_rfl) ?_
              refine WR.runk [0] [1, 2] [1, 5, 6, 7, 8, 21, 22, 23, 58] (L' := [(1, .bool a1), (5, .pointer (some ⟨b38, 0, none⟩)), (6, .pointer (some ⟨b32, 0, none⟩)), (7, .int .i64 (wi (x7_l1 + 1))), (8, .int .i64 x8_l1), (21, .slice A0 l0.length c0), (22, .int .i64 (l0.length : Int)), (23, .int .i64 x23_l1), (58, .int .i64 (wi (Int.tmod (IntKind.wrap .u64 v41) 10)))]) (w' := w63) (by kernel_rfl) ?_
              obtain ⟨v77, e78, H⟩ := bind_ex H
              refine WR.st (St.ofP (PSt.idxArr (k := .i64) (t := 52) (e := 3) (sz := 1) (b := b32) (.tmp 6) (.tmp 58) (by kernel_rfl) (by kernel_rfl) (by kernel_rfl) (by kernel_rfl) (by kernel_rfl) (by kernel_rfl) (by kernel_rfl) (Sat.oarAt 2 hS rfl).2 e78 ?_))
              refine WR.runk [] [2] [1, 5, 6, 7, 8, 21, 22, 23, 59] (L' := [(1, .bool a1), (5, .pointer (some ⟨b38, 0, none⟩)), (6, .pointer (some ⟨b32, 0, none⟩)), (7, .int .i64 (wi (x7_l1 + 1))), (8, .int .i64 x8_l1), (21, .slice A0 l0.length c0), (22, .int .i64 (l0.length : Int)), (23, .int .i64 x23_l1), (59, .pointer (some (adr (some ⟨b32, 0, none⟩) (wi (Int.tmod (IntKind.wrap .u64 v41) 10)).toNat 1)))]) (w' := w63) (by kernel_rfl) ?_
              have hS : Sat w63 (rf w0) [oar 52 (r0 (.int .i64)) 1 10 b32 q34_l1, O66 b38 r56.2, osl 5 (r0 (.int .u8)) 1 A53 c54 r44.1] := hS.sel [2, 0, 1] (by kernel_rfl)
              obtain ⟨y79, e80, H⟩ := bind_ex H
              obtain ⟨hl82, hS⟩ := oar.op hS
              refine WR.st (St.storeElem' (t := 3) (.tmp 59) (.const (.int .i64 1)) (by kernel_rfl) (by kernel_rfl) (by kernel_rfl) hS (by kernel_rfl) (by kernel_rfl) rfl e80 rfl (fun w81 hS => ?_))
              have hl83 := (set?_len e80).trans hl82
              have hS : Sat w81 (rf w0) [oar 52 (r0 (.int .i64)) 1 10 b32 y79, O66 b38 r56.2, osl 5 (r0 (.int .u8)) 1 A53 c54 r44.1] := oar.cl hl83 hS
              refine WR.runk [] [] [1, 5, 6, 7, 8, 21, 22, 23] (L' := [(1, .bool a1), (5, .pointer (some ⟨b38, 0, none⟩)), (6, .pointer (some ⟨b32, 0, none⟩)), (7, .int .i64 (wi (x7_l1 + 1))), (8, .int .i64 x8_l1), (21, .slice A0 l0.length c0), (22, .int .i64 (l0.length : Int)), (23, .int .i64 x23_l1)]) (w' := w81) (by kernel_rfl) ?_
              refine WR.nil ?_
              refine At.blockNormal ?_
              refine At.go ?_
              refine WC.reg [0, 1] (by kernel_rfl) (by kernel_rfl) ?_
              refine WR.runk [0, 1] [] [1, 5, 6, 7, 8, 21, 22, 23] (L' := [(1, .bool a1), (5, .pointer (some ⟨b38, 0, none⟩)), (6, .pointer (some ⟨b32, 0, none⟩)), (7, .int .i64 (wi (x7_l1 + 1))), (8, .int .i64 x8_l1), (21, .slice A0 l0.length c0), (22, .int .i64 (l0.length : Int)), (23, .int .i64 (wi (x23_l1 + 1)))]) (w' := w81) (by kernel_rfl) ?_
              refine WR.nil ?_
              have hS : Sat w81 (rf w0) [O66 b38 r56.2, oar 52 (r0 (.int .i64)) 1 10 b32 y79] := hS.sel [1, 0] (by kernel_rfl)
              refine At.again ?_
              refine WL.weaken [1, 5, 6, 7, 8, 21, 22, 23] (L' := [(1, .bool a1), (5, .pointer (some ⟨b38, 0, none⟩)), (6, .pointer (some ⟨b32, 0, none⟩)), (7, .int .i64 (wi (x7_l1 + 1))), (8, .int .i64 x8_l1), (21, .slice A0 l0.length c0), (22, .int .i64 (l0.length : Int)), (23, .int .i64 (wi (x23_l1 + 1)))]) (by kernel_rfl) ?_
              exact ih (wi (x7_l1 + 1)) x8_l1 (wi (x23_l1 + 1)) r56.2 y79 _ hS H
    · replace H := ite_f H hb40
      refine WC.exit (by kernel_rfl) ?_
      refine At.thenExit ?_
      refine At.thenExit ?_
      obtain rfl := Option.some.inj H
      have hS : Sat w (rf w0) [O66 b38 q39_l1, oar 52 (r0 (.int .i64)) 1 10 b32 q34_l1] := hS.sel [0, 1] (by kernel_rfl)
      refine At.weaken [1, 5, 7, 8] (L' := [(1, .bool a1), (5, .pointer (some ⟨b38, 0, none⟩)), (7, .int .i64 x7_l1), (8, .int .i64 x8_l1)]) (by kernel_rfl) ?_
      exact hn0 (x7_l1, x8_l1, q39_l1, q34_l1) _ rfl hS
theorem colophonlaw07_CacheCharges.l2_ok {Q} (w0 : World) (A0 : Option Addr) (c0 : Nat) (l0 : List Int) (a1 : Bool) (b112 : Nat) (b118 : Nat) (R0 : rdS (r0 (.int .i64)) 1 (hp w0) A0 c0 l0) (out : Sum (Int × Int × ((Option ((List (List Int)) × (List Int) × (List Int))) × (List (Int × (List Int) × Bool × Int)) × Int × Int × Int) × (List Int)) (Bool × ((Option ((List (List Int)) × (List Int) × (List Int))) × (List (Int × (List Int) × Bool × Int)) × Int × Int × Int) × (List Int))) (hn0 : ∀ (o0 : Int × Int × ((Option ((List (List Int)) × (List Int) × (List Int))) × (List (Int × (List Int) × Bool × Int)) × Int × Int × Int) × (List Int)) (w : World), out = (.inl o0) → Sat w (rf w0) [O66 b118 o0.2.2.1, oar 52 (r0 (.int .i64)) 1 10 b112 o0.2.2.2] → At Q (.exit 0) 90 [(1, .bool a1), (5, .pointer (some ⟨b118, 0, none⟩)), (7, .int .i64 o0.1), (8, .int .i64 o0.2.1)] w) (hn1 : ∀ (o1 : Bool × ((Option ((List (List Int)) × (List Int) × (List Int))) × (List (Int × (List Int) × Bool × Int)) × Int × Int × Int) × (List Int)) (w : World), out = (.inr o1) → Sat w (rf w0) [O66 b118 o1.2.1, oar 52 (r0 (.int .i64)) 1 10 b112 o1.2.2] → At Q .ret 90 [(4, .bool o1.1)] w) :
    ∀ (k : Nat) (x7_l2 : Int) (x8_l2 : Int) (x23_l2 : Int) (q119_l2 : (Option ((List (List Int)) × (List Int) × (List Int))) × (List (Int × (List Int) × Bool × Int)) × Int × Int × Int) (q114_l2 : List Int) (w : World), Sat w (rf w0) [O66 b118 q119_l2, oar 52 (r0 (.int .i64)) 1 10 b112 q114_l2] → colophonlaw07_CacheCharges.l2 l0 k x7_l2 x8_l2 x23_l2 q119_l2 q114_l2 = some out → WL Try.prog (cbody (cbody (cr (cl (cr (cr (cr (cr (cr (cr C5)))))))))) Q 90 [(1, .bool a1), (5, .pointer (some ⟨b118, 0, none⟩)), (6, .pointer (some ⟨b112, 0, none⟩)), (7, .int .i64 x7_l2), (8, .int .i64 x8_l2), (21, .slice A0 l0.length c0), (22, .int .i64 (l0.length : Int)), (23, .int .i64 x23_l2)] w := by
  intro k
  induction k with
  | zero => intro x7_l2 x8_l2 x23_l2 q119_l2 q114_l2 w hS H; exact absurd (show none = some out from H) (by simp)
  | succ k ih =>
    intro x7_l2 x8_l2 x23_l2 q119_l2 q114_l2 w hS H
    unfold colophonlaw07_CacheCharges.l2 at H
    refine WL.round ?_
    refine WC.seq (by kernel_rfl) ?_
    refine WC.reg [0] (by kernel_rfl) (by kernel_rfl) ?_
    refine WR.runk [0] [] [1, 5, 6, 7, 8, 21, 22, 23, 24] (L' := [(1, .bool a1), (5, .pointer (some ⟨b118, 0, none⟩)), (6, .pointer (some ⟨b112, 0, none⟩)), (7, .int .i64 x7_l2), (8, .int .i64 x8_l2), (21, .slice A0 l0.length c0), (22, .int .i64 (l0.length : Int)), (23, .int .i64 x23_l2), (24, .bool (decide (x23_l2 < (l0.length : Int))))]) (w' := w) (by kernel_rfl) ?_
    refine WR.nil ?_
    refine At.go ?_
    refine WC.seq (by kernel_rfl) ?_
    refine WC.cond (by kernel_rfl) (decide (x23_l2 < (l0.length : Int))) (by kernel_rfl) (by kernel_rfl) (fun hb120 => ?_) (fun hb120 => ?_)
    · replace H := ite_t H hb120
      refine WC.skip (by kernel_rfl) ?_
      refine At.go ?_
      refine WC.seq (by kernel_rfl) ?_
      refine WC.block (by kernel_rfl) ?_
      refine WC.seq (by kernel_rfl) ?_
      refine WC.reg [0, 1, 2, 3, 4] (by kernel_rfl) (by kernel_rfl) ?_
      refine WR.runk [0] [1, 2, 3, 4] [1, 5, 6, 7, 8, 21, 22, 23, 25] (L' := [(1, .bool a1), (5, .pointer (some ⟨b118, 0, none⟩)), (6, .pointer (some ⟨b112, 0, none⟩)), (7, .int .i64 x7_l2), (8, .int .i64 x8_l2), (21, .slice A0 l0.length c0), (22, .int .i64 (l0.length : Int)), (23, .int .i64 x23_l2), (25, .int .i64 x23_l2)]) (w' := w) (by kernel_rfl) ?_
      obtain ⟨v121, e122, H⟩ := bind_ex H
      refine WR.st (St.ofP (PSt.idx (k := .i64) (.tmp 21) (.tmp 23) (by kernel_rfl) (by kernel_rfl) E47 (by kernel_rfl) (by kernel_rfl) (rdS.up R0 hS.sub0) e122 ?_))
      refine WR.runk [] [2, 3, 4] [1, 5, 6, 7, 8, 21, 22, 23, 25, 26] (L' := [(1, .bool a1), (5, .pointer (some ⟨b118, 0, none⟩)), (6, .pointer (some ⟨b112, 0, none⟩)), (7, .int .i64 x7_l2), (8, .int .i64 x8_l2), (21, .slice A0 l0.length c0), (22, .int .i64 (l0.length : Int)), (23, .int .i64 x23_l2), (25, .int .i64 x23_l2), (26, .pointer (some (adr A0 x23_l2.toNat 1)))]) (w' := w) (by kernel_rfl) ?_
      refine WR.st (St.ofR (RSt.loadInt (t := 3) (.tmp 26) (by kernel_rfl) (by kernel_rfl) (by kernel_rfl) (by kernel_rfl) (rdS.up R0 hS.sub0) e122 ?_))
      refine WR.runk [3, 4] [] [1, 5, 6, 7, 8, 9, 10, 21, 22, 23] (L' := [(1, .bool a1), (5, .pointer (some ⟨b118, 0, none⟩)), (6, .pointer (some ⟨b112, 0, none⟩)), (7, .int .i64 x7_l2), (8, .int .i64 x8_l2), (9, .int .i64 x23_l2), (10, .int .i64 v121), (21, .slice A0 l0.length c0), (22, .int .i64 (l0.length : Int)), (23, .int .i64 x23_l2)]) (w' := w) (by kernel_rfl) ?_
      refine WR.nil ?_
      refine At.go ?_
      refine WC.seq (by kernel_rfl) ?_
      refine WC.seq (by kernel_rfl) ?_
      refine WC.reg [0, 1] (by kernel_rfl) (by kernel_rfl) ?_
      refine WR.runk [0, 1] [] [1, 5, 6, 7, 8, 10, 21, 22, 23, 29] (L' := [(1, .bool a1), (5, .pointer (some ⟨b118, 0, none⟩)), (6, .pointer (some ⟨b112, 0, none⟩)), (7, .int .i64 x7_l2), (8, .int .i64 x8_l2), (10, .int .i64 v121), (21, .slice A0 l0.length c0), (22, .int .i64 (l0.length : Int)), (23, .int .i64 x23_l2), (29, .bool (decide (x23_l2 ≥ 120)))]) (w' := w) (by kernel_rfl) ?_
      refine WR.nil ?_
      refine At.go ?_
      refine WC.cond (by kernel_rfl) (decide (x23_l2 ≥ 120)) (by kernel_rfl) (by kernel_rfl) (fun hb123 => ?_) (fun hb123 => ?_)
      · replace H := ite_t H hb123
        refine WC.exit (by kernel_rfl) ?_
        refine At.thenExit ?_
        refine At.miss (by kernel_rfl) ?_
        refine At.thenExit ?_
        refine At.thenExit ?_
        obtain rfl := Option.some.inj H
        have hS : Sat w (rf w0) [O66 b118 q119_l2, oar 52 (r0 (.int .i64)) 1 10 b112 q114_l2] := hS.sel [0, 1] (by kernel_rfl)
        refine At.weaken [1, 5, 7, 8] (L' := [(1, .bool a1), (5, .pointer (some ⟨b118, 0, none⟩)), (7, .int .i64 x7_l2), (8, .int .i64 x8_l2)]) (by kernel_rfl) ?_
        exact hn0 (x7_l2, x8_l2, q119_l2, q114_l2) _ rfl hS
      · replace H := ite_f H hb123
        refine WC.skip (by kernel_rfl) ?_
        refine At.go ?_
        refine WC.seq (by kernel_rfl) ?_
        refine WC.reg [0, 1, 2, 3, 4] (by kernel_rfl) (by kernel_rfl) ?_
        refine WR.runk [0, 1, 2, 3, 4] [] [1, 5, 6, 7, 8, 11, 21, 22, 23] (L' := [(1, .bool a1), (5, .pointer (some ⟨b118, 0, none⟩)), (6, .pointer (some ⟨b112, 0, none⟩)), (7, .int .i64 x7_l2), (8, .int .i64 x8_l2), (11, .int .i64 (wi (Int.tmod (IntKind.wrap .u64 v121) 10))), (21, .slice A0 l0.length c0), (22, .int .i64 (l0.length : Int)), (23, .int .i64 x23_l2)]) (w' := w) (by kernel_rfl) ?_
        refine WR.nil ?_
        refine At.go ?_
        refine WC.seq (by kernel_rfl) ?_
        refine WC.reg [0, 1, 2, 3, 4, 5, 6, 7, 8, 9] (by kernel_rfl) (by kernel_rfl) ?_
        refine WR.runk [0, 1] [2, 3, 4, 5, 6, 7, 8, 9] [1, 5, 6, 7, 8, 11, 21, 22, 23, 35, 36] (L' := [(1, .bool a1), (5, .pointer (some ⟨b118, 0, none⟩)), (6, .pointer (some ⟨b112, 0, none⟩)), (7, .int .i64 x7_l2), (8, .int .i64 x8_l2), (11, .int .i64 (wi (Int.tmod (IntKind.wrap .u64 v121) 10))), (21, .slice A0 l0.length c0), (22, .int .i64 (l0.length : Int)), (23, .int .i64 x23_l2), (35, .pointer (some ⟨b118, 0, none⟩)), (36, .int .i64 (wi (Int.tmod (IntKind.wrap .u64 v121) 10)))]) (w' := w) (by kernel_rfl) ?_
        obtain ⟨r124, e125, H⟩ := bind_ex H
        obtain ⟨B130, hso129, hsub127, hcs128, hb126⟩ := Sat.lend [O66 b118 q119_l2] (cs := [oar 52 (r0 (.int .i64)) 1 10 b112 q114_l2]) hS
        refine WR.st (St.call (by kernel_rfl) (f := 10) (args := #[.pointer (some ⟨b118, 0, none⟩), .int .i64 (wi (Int.tmod (IntKind.wrap .u64 v121) 10))]) (by kernel_rfl) (cache_Cache_Hold.calls B130 w b118 q119_l2 hso129 (wi (Int.tmod (IntKind.wrap .u64 v121) 10)) r124 e125) ?_)
        rintro _ w131 ⟨A133, c134, rfl, hS132⟩
        have hS : Sat w131 (rf w0) [O66 b118 r124.2.2.2, osl 5 (r0 (.int .u8)) 1 A133 c134 r124.1, oar 52 (r0 (.int .i64)) 1 10 b112 q114_l2] := hb126 _ _ hS132
        refine WR.runk [3, 4, 5, 6, 7, 8, 9] [] [1, 5, 6, 7, 8, 11, 13, 14, 21, 22, 23] (L' := [(1, .bool a1), (5, .pointer (some ⟨b118, 0, none⟩)), (6, .pointer (some ⟨b112, 0, none⟩)), (7, .int .i64 x7_l2), (8, .int .i64 x8_l2), (11, .int .i64 (wi (Int.tmod (IntKind.wrap .u64 v121) 10))), (13, .bool r124.2.1), (14, .int .i64 r124.2.2.1), (21, .slice A0 l0.length c0), (22, .int .i64 (l0.length : Int)), (23, .int .i64 x23_l2)]) (w' := w131) (by kernel_rfl) ?_
        refine WR.nil ?_
        refine At.go ?_
        refine WC.seq (by kernel_rfl) ?_
        refine WC.seq (by kernel_rfl) ?_
        refine WC.reg [0, 1, 2, 3, 4, 5, 6, 7] (by kernel_rfl) (by kernel_rfl) ?_
        refine WR.runk [0, 1, 2] [3, 4, 5, 6, 7] [1, 5, 6, 7, 8, 11, 13, 21, 22, 23, 43] (L' := [(1, .bool a1), (5, .pointer (some ⟨b118, 0, none⟩)), (6, .pointer (some ⟨b112, 0, none⟩)), (7, .int .i64 x7_l2), (8, .int .i64 x8_l2), (11, .int .i64 (wi (Int.tmod (IntKind.wrap .u64 v121) 10))), (13, .bool r124.2.1), (21, .slice A0 l0.length c0), (22, .int .i64 (l0.length : Int)), (23, .int .i64 x23_l2), (43, .bool (r124.2.2.1 != 0))]) (w' := w131) (by kernel_rfl) ?_
        refine WR.split 43 (b := (r124.2.2.1 != 0)) (by kernel_rfl) (fun hb135 => ?_) (fun hb135 => ?_)
        · replace H := ite_t H hb135
          refine WR.runk [3, 4, 5, 6, 7] [] [1, 5, 6, 7, 8, 11, 13, 21, 22, 23, 48] (L' := [(1, .bool a1), (5, .pointer (some ⟨b118, 0, none⟩)), (6, .pointer (some ⟨b112, 0, none⟩)), (7, .int .i64 x7_l2), (8, .int .i64 x8_l2), (11, .int .i64 (wi (Int.tmod (IntKind.wrap .u64 v121) 10))), (13, .bool r124.2.1), (21, .slice A0 l0.length c0), (22, .int .i64 (l0.length : Int)), (23, .int .i64 x23_l2), (48, .bool true)]) (w' := w131) (by kernel_rfl) ?_
          refine WR.nil ?_
          refine At.go ?_
          refine WC.condT (by kernel_rfl) (by kernel_rfl) (by kernel_rfl) ?_
          refine WC.seq (by kernel_rfl) ?_
          refine WC.reg [0] (by kernel_rfl) (by kernel_rfl) ?_
          refine WR.runk [0] [] [4] (L' := [(4, .bool false)]) (w' := w131) (by kernel_rfl) ?_
          refine WR.nil ?_
          refine At.go ?_
          refine WC.ret (by kernel_rfl) ?_
          refine At.thenRet ?_
          refine At.blockRet ?_
          refine At.thenRet ?_
          refine At.thenRet ?_
          obtain rfl := Option.some.inj H
          have hS : Sat w131 (rf w0) [O66 b118 r124.2.2.2, oar 52 (r0 (.int .i64)) 1 10 b112 q114_l2] := hS.sel [0, 2] (by kernel_rfl)
          refine At.weaken [4] (L' := [(4, .bool false)]) (by kernel_rfl) ?_
          exact hn1 (false, r124.2.2.2, q114_l2) _ rfl hS
        · replace H := ite_f H hb135
          refine WR.runk [3, 4] [5, 6, 7] [1, 5, 6, 7, 8, 11, 13, 21, 22, 23, 43, 44, 45] (L' := [(1, .bool a1), (5, .pointer (some ⟨b118, 0, none⟩)), (6, .pointer (some ⟨b112, 0, none⟩)), (7, .int .i64 x7_l2), (8, .int .i64 x8_l2), (11, .int .i64 (wi (Int.tmod (IntKind.wrap .u64 v121) 10))), (13, .bool r124.2.1), (21, .slice A0 l0.length c0), (22, .int .i64 (l0.length : Int)), (23, .int .i64 x23_l2), (43, .bool false), (44, .pointer (some ⟨b118, 0, none⟩)), (45, .int .i64 (wi (Int.tmod (IntKind.wrap .u64 v121) 10)))]) (w' := w131) (by kernel_rfl) ?_
          obtain ⟨r136, e137, H⟩ := bind_ex H
          obtain ⟨B142, hso141, hsub139, hcs140, hb138⟩ := Sat.lend [O66 b118 r124.2.2.2] (cs := [osl 5 (r0 (.int .u8)) 1 A133 c134 r124.1, oar 52 (r0 (.int .i64)) 1 10 b112 q114_l2]) hS
          refine WR.st (St.call (by kernel_rfl) (f := 12) (args := #[.pointer (some ⟨b118, 0, none⟩), .int .i64 (wi (Int.tmod (IntKind.wrap .u64 v121) 10))]) (by kernel_rfl) (cache_Cache_Drop.calls B142 w131 b118 r124.2.2.2 hso141 (wi (Int.tmod (IntKind.wrap .u64 v121) 10)) r136 e137) ?_)
          rintro _ w143 ⟨rfl, hS144⟩
          have hS : Sat w143 (rf w0) [O66 b118 r136.2, osl 5 (r0 (.int .u8)) 1 A133 c134 r124.1, oar 52 (r0 (.int .i64)) 1 10 b112 q114_l2] := hb138 _ _ hS144
          refine WR.runk [6, 7] [] [1, 5, 6, 7, 8, 11, 13, 21, 22, 23, 48] (L' := [(1, .bool a1), (5, .pointer (some ⟨b118, 0, none⟩)), (6, .pointer (some ⟨b112, 0, none⟩)), (7, .int .i64 x7_l2), (8, .int .i64 x8_l2), (11, .int .i64 (wi (Int.tmod (IntKind.wrap .u64 v121) 10))), (13, .bool r124.2.1), (21, .slice A0 l0.length c0), (22, .int .i64 (l0.length : Int)), (23, .int .i64 x23_l2), (48, .bool (!r136.1))]) (w' := w143) (by kernel_rfl) ?_
          refine WR.nil ?_
          refine At.go ?_
          refine WC.cond (by kernel_rfl) (!r136.1) (by kernel_rfl) (by kernel_rfl) (fun hb145 => ?_) (fun hb145 => ?_)
          · replace H := ite_t H hb145
            refine WC.seq (by kernel_rfl) ?_
            refine WC.reg [0] (by kernel_rfl) (by kernel_rfl) ?_
            refine WR.runk [0] [] [4] (L' := [(4, .bool false)]) (w' := w143) (by kernel_rfl) ?_
            refine WR.nil ?_
            refine At.go ?_
            refine WC.ret (by kernel_rfl) ?_
            refine At.thenRet ?_
            refine At.blockRet ?_
            refine At.thenRet ?_
            refine At.thenRet ?_
            obtain rfl := Option.some.inj H
            have hS : Sat w143 (rf w0) [O66 b118 r136.2, oar 52 (r0 (.int .i64)) 1 10 b112 q114_l2] := hS.sel [0, 2] (by kernel_rfl)
            refine At.weaken [4] (L' := [(4, .bool false)]) (by kernel_rfl) ?_
            exact hn1 (false, r136.2, q114_l2) _ rfl hS
          · replace H := ite_f H hb145
            refine WC.skip (by kernel_rfl) ?_
            refine At.go ?_
            refine WC.seq (by kernel_rfl) ?_
            refine WC.reg [0, 1, 2] (by kernel_rfl) (by kernel_rfl) ?_
            refine WR.runk [0, 1, 2] [] [1, 5, 6, 7, 8, 11, 13, 21, 22, 23] (L' := [(1, .bool a1), (5, .pointer (some ⟨b118, 0, none⟩)), (6, .pointer (some ⟨b112, 0, none⟩)), (7, .int .i64 (wi (x7_l2 + 1))), (8, .int .i64 x8_l2), (11, .int .i64 (wi (Int.tmod (IntKind.wrap .u64 v121) 10))), (13, .bool r124.2.1), (21, .slice A0 l0.length c0), (22, .int .i64 (l0.length : Int)), (23, .int .i64 x23_l2)]) (w' := w143) (by kernel_rfl) ?_
            refine WR.nil ?_
            refine At.go ?_
            refine WC.seq (by kernel_rfl) ?_
            refine WC.seq (by kernel_rfl) ?_
            refine WC.reg [0, 1, 2, 3] (by kernel_rfl) (by kernel_rfl) ?_
            refine WR.runk [0] [1, 2, 3] [1, 5, 6, 7, 8, 11, 13, 21, 22, 23, 51] (L' := [(1, .bool a1), (5, .pointer (some ⟨b118, 0, none⟩)), (6, .pointer (some ⟨b112, 0, none⟩)), (7, .int .i64 (wi (x7_l2 + 1))), (8, .int .i64 x8_l2), (11, .int .i64 (wi (Int.tmod (IntKind.wrap .u64 v121) 10))), (13, .bool r124.2.1), (21, .slice A0 l0.length c0), (22, .int .i64 (l0.length : Int)), (23, .int .i64 x23_l2), (51, .int .i64 (wi (Int.tmod (IntKind.wrap .u64 v121) 10)))]) (w' := w143) (by kernel_rfl) ?_
            obtain ⟨v146, e147, H⟩ := bind_ex H
            refine WR.st (St.ofP (PSt.idxArr (k := .i64) (t := 52) (e := 3) (sz := 1) (b := b112) (.tmp 6) (.tmp 51) (by kernel_rfl) (by kernel_rfl) (by kernel_rfl) (by kernel_rfl) (by kernel_rfl) (by kernel_rfl) (by kernel_rfl) (Sat.oarAt 2 hS rfl).2 e147 ?_))
            refine WR.runk [] [2, 3] [1, 5, 6, 7, 8, 11, 13, 21, 22, 23, 52] (L' := [(1, .bool a1), (5, .pointer (some ⟨b118, 0, none⟩)), (6, .pointer (some ⟨b112, 0, none⟩)), (7, .int .i64 (wi (x7_l2 + 1))), (8, .int .i64 x8_l2), (11, .int .i64 (wi (Int.tmod (IntKind.wrap .u64 v121) 10))), (13, .bool r124.2.1), (21, .slice A0 l0.length c0), (22, .int .i64 (l0.length : Int)), (23, .int .i64 x23_l2), (52, .pointer (some (adr (some ⟨b112, 0, none⟩) (wi (Int.tmod (IntKind.wrap .u64 v121) 10)).toNat 1)))]) (w' := w143) (by kernel_rfl) ?_
            refine WR.st (St.ofR (RSt.loadInt (t := 3) (.tmp 52) (by kernel_rfl) (by kernel_rfl) (by kernel_rfl) (by kernel_rfl) (Sat.oarAt 2 hS rfl).1 e147 ?_))
            refine WR.runk [3] [] [1, 5, 6, 7, 8, 11, 13, 21, 22, 23, 54] (L' := [(1, .bool a1), (5, .pointer (some ⟨b118, 0, none⟩)), (6, .pointer (some ⟨b112, 0, none⟩)), (7, .int .i64 (wi (x7_l2 + 1))), (8, .int .i64 x8_l2), (11, .int .i64 (wi (Int.tmod (IntKind.wrap .u64 v121) 10))), (13, .bool r124.2.1), (21, .slice A0 l0.length c0), (22, .int .i64 (l0.length : Int)), (23, .int .i64 x23_l2), (54, .bool (v146 == 0))]) (w' := w143) (by kernel_rfl) ?_
            refine WR.nil ?_
            refine At.go ?_
            refine WC.cond (by kernel_rfl) (v146 == 0) (by kernel_rfl) (by kernel_rfl) (fun hb148 => ?_) (fun hb148 => ?_)
            · replace H := ite_t H hb148
              refine WC.seq (by kernel_rfl) ?_
              refine WC.reg [0, 1, 2] (by kernel_rfl) (by kernel_rfl) ?_
              refine WR.runk [0, 1, 2] [] [1, 5, 6, 7, 8, 11, 13, 21, 22, 23] (L' := [(1, .bool a1), (5, .pointer (some ⟨b118, 0, none⟩)), (6, .pointer (some ⟨b112, 0, none⟩)), (7, .int .i64 (wi (x7_l2 + 1))), (8, .int .i64 (wi (x8_l2 + 1))), (11, .int .i64 (wi (Int.tmod (IntKind.wrap .u64 v121) 10))), (13, .bool r124.2.1), (21, .slice A0 l0.length c0), (22, .int .i64 (l0.length : Int)), (23, .int .i64 x23_l2)]) (w' := w143) (by kernel_rfl) ?_
              refine WR.nil ?_
              refine At.go ?_
              refine WC.seq (by kernel_rfl) ?_
              refine WC.reg [0] (by kernel_rfl) (by kernel_rfl) ?_
              refine WR.runk [0] [] [1, 5, 6, 7, 8, 11, 21, 22, 23, 57] (L' := [(1, .bool a1), (5, .pointer (some ⟨b118, 0, none⟩)), (6, .pointer (some ⟨b112, 0, none⟩)), (7, .int .i64 (wi (x7_l2 + 1))), (8, .int .i64 (wi (x8_l2 + 1))), (11, .int .i64 (wi (Int.tmod (IntKind.wrap .u64 v121) 10))), (21, .slice A0 l0.length c0), (22, .int .i64 (l0.length : Int)), (23, .int .i64 x23_l2), (57, .bool r124.2.1)]) (w' := w143) (by kernel_rfl) ?_
              refine WR.nil ?_
              refine At.go ?_
              refine WC.cond (by kernel_rfl) r124.2.1 (by kernel_rfl) (by kernel_rfl) (fun hb149 => ?_) (fun hb149 => ?_)
              · replace H := ite_t H hb149
                refine WC.seq (by kernel_rfl) ?_
                refine WC.reg [0] (by kernel_rfl) (by kernel_rfl) ?_
                refine WR.runk [0] [] [4] (L' := [(4, .bool false)]) (w' := w143) (by kernel_rfl) ?_
                refine WR.nil ?_
                refine At.go ?_
                refine WC.ret (by kernel_rfl) ?_
                refine At.thenRet ?_
                refine At.blockRet ?_
                refine At.thenRet ?_
                refine At.thenRet ?_
                obtain rfl := Option.some.inj H
                have hS : Sat w143 (rf w0) [O66 b118 r136.2, oar 52 (r0 (.int .i64)) 1 10 b112 q114_l2] := hS.sel [0, 2] (by kernel_rfl)
                refine At.weaken [4] (L' := [(4, .bool false)]) (by kernel_rfl) ?_
                exact hn1 (false, r136.2, q114_l2) _ rfl hS
              · replace H := ite_f H hb149
                refine WC.skip (by kernel_rfl) ?_
                refine At.go ?_
                refine WC.reg [0, 1, 2] (by kernel_rfl) (by kernel_rfl) ?_
                refine WR.runk [0] [1, 2] [1, 5, 6, 7, 8, 21, 22, 23, 58] (L' := [(1, .bool a1), (5, .pointer (some ⟨b118, 0, none⟩)), (6, .pointer (some ⟨b112, 0, none⟩)), (7, .int .i64 (wi (x7_l2 + 1))), (8, .int .i64 (wi (x8_l2 + 1))), (21, .slice A0 l0.length c0), (22, .int .i64 (l0.length : Int)), (23, .int .i64 x23_l2), (58, .int .i64 (wi (Int.tmod (IntKind.wrap .u64 v121) 10)))]) (w' := w143) (by kernel_rfl) ?_
                obtain ⟨v150, e151, H⟩ := bind_ex H
                refine WR.st (St.ofP (PSt.idxArr (k := .i64) (t := 52) (e := 3) (sz := 1) (b := b112) (.tmp 6) (.tmp 58) (by kernel_rfl) (by kernel_rfl) (by kernel_rfl) (by kernel_rfl) (by kernel_rfl) (by kernel_rfl) (by kernel_rfl) (Sat.oarAt 2 hS rfl).2 e151 ?_))
                refine WR.runk [] [2] [1, 5, 6, 7, 8, 21, 22, 23, 59] (L' := [(1, .bool a1), (5, .pointer (some ⟨b118, 0, none⟩)), (6, .pointer (some ⟨b112, 0, none⟩)), (7, .int .i64 (wi (x7_l2 + 1))), (8, .int .i64 (wi (x8_l2 + 1))), (21, .slice A0 l0.length c0), (22, .int .i64 (l0.length : Int)), (23, .int .i64 x23_l2), (59, .pointer (some (adr (some ⟨b112, 0, none⟩) (wi (Int.tmod (IntKind.wrap .u64 v121) 10)).toNat 1)))]) (w' := w143) (by kernel_rfl) ?_
                have hS : Sat w143 (rf w0) [oar 52 (r0 (.int .i64)) 1 10 b112 q114_l2, O66 b118 r136.2, osl 5 (r0 (.int .u8)) 1 A133 c134 r124.1] := hS.sel [2, 0, 1] (by kernel_rfl)
                obtain ⟨y152, e153, H⟩ := bind_ex H
                obtain ⟨hl155, hS⟩ := oar.op hS
                refine WR.st (St.storeElem' (t := 3) (.tmp 59) (.const (.int .i64 1)) (by kernel_rfl) (by kernel_rfl) (by kernel_rfl) hS (by kernel_rfl) (by kernel_rfl) rfl e153 rfl (fun w154 hS => ?_))
                have hl156 := (set?_len e153).trans hl155
                have hS : Sat w154 (rf w0) [oar 52 (r0 (.int .i64)) 1 10 b112 y152, O66 b118 r136.2, osl 5 (r0 (.int .u8)) 1 A133 c134 r124.1] := oar.cl hl156 hS
                refine WR.runk [] [] [1, 5, 6, 7, 8, 21, 22, 23] (L' := [(1, .bool a1), (5, .pointer (some ⟨b118, 0, none⟩)), (6, .pointer (some ⟨b112, 0, none⟩)), (7, .int .i64 (wi (x7_l2 + 1))), (8, .int .i64 (wi (x8_l2 + 1))), (21, .slice A0 l0.length c0), (22, .int .i64 (l0.length : Int)), (23, .int .i64 x23_l2)]) (w' := w154) (by kernel_rfl) ?_
                refine WR.nil ?_
                refine At.blockNormal ?_
                refine At.go ?_
                refine WC.reg [0, 1] (by kernel_rfl) (by kernel_rfl) ?_
                refine WR.runk [0, 1] [] [1, 5, 6, 7, 8, 21, 22, 23] (L' := [(1, .bool a1), (5, .pointer (some ⟨b118, 0, none⟩)), (6, .pointer (some ⟨b112, 0, none⟩)), (7, .int .i64 (wi (x7_l2 + 1))), (8, .int .i64 (wi (x8_l2 + 1))), (21, .slice A0 l0.length c0), (22, .int .i64 (l0.length : Int)), (23, .int .i64 (wi (x23_l2 + 1)))]) (w' := w154) (by kernel_rfl) ?_
                refine WR.nil ?_
                have hS : Sat w154 (rf w0) [O66 b118 r136.2, oar 52 (r0 (.int .i64)) 1 10 b112 y152] := hS.sel [1, 0] (by kernel_rfl)
                refine At.again ?_
                refine WL.weaken [1, 5, 6, 7, 8, 21, 22, 23] (L' := [(1, .bool a1), (5, .pointer (some ⟨b118, 0, none⟩)), (6, .pointer (some ⟨b112, 0, none⟩)), (7, .int .i64 (wi (x7_l2 + 1))), (8, .int .i64 (wi (x8_l2 + 1))), (21, .slice A0 l0.length c0), (22, .int .i64 (l0.length : Int)), (23, .int .i64 (wi (x23_l2 + 1)))]) (by kernel_rfl) ?_
                exact ih (wi (x7_l2 + 1)) (wi (x8_l2 + 1)) (wi (x23_l2 + 1)) r136.2 y152 _ hS H
            · replace H := ite_f H hb148
              refine WC.skip (by kernel_rfl) ?_
              refine At.go ?_
              refine WC.reg [0, 1, 2] (by kernel_rfl) (by kernel_rfl) ?_
              refine WR.runk [0] [1, 2] [1, 5, 6, 7, 8, 21, 22, 23, 58] (L' := [(1, .bool a1), (5, .pointer (some ⟨b118, 0, none⟩)), (6, .pointer (some ⟨b112, 0, none⟩)), (7, .int .i64 (wi (x7_l2 + 1))), (8, .int .i64 x8_l2), (21, .slice A0 l0.length c0), (22, .int .i64 (l0.length : Int)), (23, .int .i64 x23_l2), (58, .int .i64 (wi (Int.tmod (IntKind.wrap .u64 v121) 10)))]) (w' := w143) (by kernel_rfl) ?_
              obtain ⟨v157, e158, H⟩ := bind_ex H
              refine WR.st (St.ofP (PSt.idxArr (k := .i64) (t := 52) (e := 3) (sz := 1) (b := b112) (.tmp 6) (.tmp 58) (by kernel_rfl) (by kernel_rfl) (by kernel_rfl) (by kernel_rfl) (by kernel_rfl) (by kernel_rfl) (by kernel_rfl) (Sat.oarAt 2 hS rfl).2 e158 ?_))
              refine WR.runk [] [2] [1, 5, 6, 7, 8, 21, 22, 23, 59] (L' := [(1, .bool a1), (5, .pointer (some ⟨b118, 0, none⟩)), (6, .pointer (some ⟨b112, 0, none⟩)), (7, .int .i64 (wi (x7_l2 + 1))), (8, .int .i64 x8_l2), (21, .slice A0 l0.length c0), (22, .int .i64 (l0.length : Int)), (23, .int .i64 x23_l2), (59, .pointer (some (adr (some ⟨b112, 0, none⟩) (wi (Int.tmod (IntKind.wrap .u64 v121) 10)).toNat 1)))]) (w' := w143) (by kernel_rfl) ?_
              have hS : Sat w143 (rf w0) [oar 52 (r0 (.int .i64)) 1 10 b112 q114_l2, O66 b118 r136.2, osl 5 (r0 (.int .u8)) 1 A133 c134 r124.1] := hS.sel [2, 0, 1] (by kernel_rfl)
              obtain ⟨y159, e160, H⟩ := bind_ex H
              obtain ⟨hl162, hS⟩ := oar.op hS
              refine WR.st (St.storeElem' (t := 3) (.tmp 59) (.const (.int .i64 1)) (by kernel_rfl) (by kernel_rfl) (by kernel_rfl) hS (by kernel_rfl) (by kernel_rfl) rfl e160 rfl (fun w161 hS => ?_))
              have hl163 := (set?_len e160).trans hl162
              have hS : Sat w161 (rf w0) [oar 52 (r0 (.int .i64)) 1 10 b112 y159, O66 b118 r136.2, osl 5 (r0 (.int .u8)) 1 A133 c134 r124.1] := oar.cl hl163 hS
              refine WR.runk [] [] [1, 5, 6, 7, 8, 21, 22, 23] (L' := [(1, .bool a1), (5, .pointer (some ⟨b118, 0, none⟩)), (6, .pointer (some ⟨b112, 0, none⟩)), (7, .int .i64 (wi (x7_l2 + 1))), (8, .int .i64 x8_l2), (21, .slice A0 l0.length c0), (22, .int .i64 (l0.length : Int)), (23, .int .i64 x23_l2)]) (w' := w161) (by kernel_rfl) ?_
              refine WR.nil ?_
              refine At.blockNormal ?_
              refine At.go ?_
              refine WC.reg [0, 1] (by kernel_rfl) (by kernel_rfl) ?_
              refine WR.runk [0, 1] [] [1, 5, 6, 7, 8, 21, 22, 23] (L' := [(1, .bool a1), (5, .pointer (some ⟨b118, 0, none⟩)), (6, .pointer (some ⟨b112, 0, none⟩)), (7, .int .i64 (wi (x7_l2 + 1))), (8, .int .i64 x8_l2), (21, .slice A0 l0.length c0), (22, .int .i64 (l0.length : Int)), (23, .int .i64 (wi (x23_l2 + 1)))]) (w' := w161) (by kernel_rfl) ?_
              refine WR.nil ?_
              have hS : Sat w161 (rf w0) [O66 b118 r136.2, oar 52 (r0 (.int .i64)) 1 10 b112 y159] := hS.sel [1, 0] (by kernel_rfl)
              refine At.again ?_
              refine WL.weaken [1, 5, 6, 7, 8, 21, 22, 23] (L' := [(1, .bool a1), (5, .pointer (some ⟨b118, 0, none⟩)), (6, .pointer (some ⟨b112, 0, none⟩)), (7, .int .i64 (wi (x7_l2 + 1))), (8, .int .i64 x8_l2), (21, .slice A0 l0.length c0), (22, .int .i64 (l0.length : Int)), (23, .int .i64 (wi (x23_l2 + 1)))]) (by kernel_rfl) ?_
              exact ih (wi (x7_l2 + 1)) x8_l2 (wi (x23_l2 + 1)) r136.2 y159 _ hS H
    · replace H := ite_f H hb120
      refine WC.exit (by kernel_rfl) ?_
      refine At.thenExit ?_
      refine At.thenExit ?_
      obtain rfl := Option.some.inj H
      have hS : Sat w (rf w0) [O66 b118 q119_l2, oar 52 (r0 (.int .i64)) 1 10 b112 q114_l2] := hS.sel [0, 1] (by kernel_rfl)
      refine At.weaken [1, 5, 7, 8] (L' := [(1, .bool a1), (5, .pointer (some ⟨b118, 0, none⟩)), (7, .int .i64 x7_l2), (8, .int .i64 x8_l2)]) (by kernel_rfl) ?_
      exact hn0 (x7_l2, x8_l2, q119_l2, q114_l2) _ rfl hS
theorem colophonlaw07_CacheCharges.calls (w0 : World) (A0 : Option Addr) (c0 : Nat) (l0 : List Int) (R0 : rdS (r0 (.int .i64)) 1 (hp w0) A0 c0 l0) (a1 : Bool) (r : Bool) (H : colophonlaw07_CacheCharges.f l0 a1 = some r) :
    Calls Try.prog 5 #[.slice A0 l0.length c0, .bool a1] w0 (fun e w' => ∃ v, e = .returned v ∧ colophonlaw07_CacheCharges.post w0 r v w') := by
  have hS : Sat w0 (rf w0) [] := Sat.start w0
  unfold colophonlaw07_CacheCharges.f at H
  refine calls_of_WC (vs := [.slice A0 l0.length c0, .bool a1]) Try.func5 (c := C5) (n := 90) (by kernel_rfl) (by kernel_rfl) (by kernel_rfl) ?_
  refine WC.seq (by kernel_rfl) ?_
  refine WC.reg [0] (by kernel_rfl) (by kernel_rfl) ?_
  refine WR.runk [0] [] [0, 1] (L' := [(0, .slice A0 l0.length c0), (1, .bool a1)]) (w' := w0) (by kernel_rfl) ?_
  refine WR.nil ?_
  refine At.go ?_
  refine WC.seq (by kernel_rfl) ?_
  refine WC.seq (by kernel_rfl) ?_
  refine WC.reg [0, 1] (by kernel_rfl) (by kernel_rfl) ?_
  obtain ⟨r1, e2, H⟩ := bind_ex H
  refine WR.st (St.call (by kernel_rfl) (f := 7) (args := #[]) (by kernel_rfl) (colophonlaw07_first.calls w0  r1 e2) ?_)
  rintro _ w8 ⟨rfl, hS9⟩
  have hS : Sat w8 (rf w0) [] := hS.ext hS9
  refine WR.runk [1] [] [0, 1, 17] (L' := [(0, .slice A0 l0.length c0), (1, .bool a1), (17, .bool (!r1))]) (w' := w8) (by kernel_rfl) ?_
  refine WR.nil ?_
  refine At.go ?_
  refine WC.cond (by kernel_rfl) (!r1) (by kernel_rfl) (by kernel_rfl) (fun hb10 => ?_) (fun hb10 => ?_)
  · replace H := ite_t H hb10
    refine WC.seq (by kernel_rfl) ?_
    refine WC.reg [0] (by kernel_rfl) (by kernel_rfl) ?_
    refine WR.runk [0] [] [4] (L' := [(4, .bool false)]) (w' := w8) (by kernel_rfl) ?_
    refine WR.nil ?_
    refine At.go ?_
    refine WC.ret (by kernel_rfl) ?_
    refine At.thenRet ?_
    obtain rfl := Option.some.inj H
    have hS : Sat w8 (rf w0) [] := hS.sel [] (by kernel_rfl)
    exact At.body [.bool false] (by kernel_rfl) ⟨_, rfl, rfl, hS⟩
  · replace H := ite_f H hb10
    refine WC.skip (by kernel_rfl) ?_
    refine At.go ?_
    refine WC.seq (by kernel_rfl) ?_
    refine WC.reg [0, 1] (by kernel_rfl) (by kernel_rfl) ?_
    refine WR.runk [] [0, 1] [0, 1] (L' := [(0, .slice A0 l0.length c0), (1, .bool a1)]) (w' := w8) (by kernel_rfl) ?_
    obtain ⟨r11, e12, H⟩ := bind_ex H
    refine WR.st (St.call (by kernel_rfl) (f := 8) (args := #[.int .i64 9, .int .i64 10]) (by kernel_rfl) (colophonlaw07_made.calls w8 9 10 r11 e12) ?_)
    rintro pv20 w18 ⟨_, rfl, hS19⟩
    have hS : Sat w18 (rf w0) [optP O66 pv20 r11] := hS.ext hS19
    refine WR.runk [1] [] [0, 1, 5] (L' := [(0, .slice A0 l0.length c0), (1, .bool a1), (5, pv20)]) (w' := w18) (by kernel_rfl) ?_
    refine WR.nil ?_
    refine At.go ?_
    refine WC.seq (by kernel_rfl) ?_
    refine WC.seq (by kernel_rfl) ?_
    refine WC.reg [0] (by kernel_rfl) (by kernel_rfl) ?_
    refine WR.runk [0] [] [0, 1, 5, 19] (L' := [(0, .slice A0 l0.length c0), (1, .bool a1), (5, pv20), (19, .bool a1)]) (w' := w18) (by kernel_rfl) ?_
    refine WR.nil ?_
    refine At.go ?_
    refine WC.cond (by kernel_rfl) a1 (by kernel_rfl) (by kernel_rfl) (fun hb21 => ?_) (fun hb21 => ?_)
    · replace H := ite_t H hb21
      refine WC.reg [0, 1] (by kernel_rfl) (by kernel_rfl) ?_
      refine WR.runk [] [0, 1] [0, 1, 5] (L' := [(0, .slice A0 l0.length c0), (1, .bool a1), (5, pv20)]) (w' := w18) (by kernel_rfl) ?_
      obtain ⟨r22, e23, H⟩ := bind_ex H
      refine WR.st (St.call (by kernel_rfl) (f := 8) (args := #[.int .i64 9, .int .i64 3]) (by kernel_rfl) (colophonlaw07_made.calls w18 9 3 r22 e23) ?_)
      rintro pv31 w29 ⟨_, rfl, hS30⟩
      have hS : Sat w29 (rf w0) [optP O66 pv31 r22, optP O66 pv20 r11] := hS.ext hS30
      refine WR.runk [1] [] [0, 1, 5] (L' := [(0, .slice A0 l0.length c0), (1, .bool a1), (5, pv31)]) (w' := w29) (by kernel_rfl) ?_
      refine WR.nil ?_
      refine At.go ?_
      refine WC.seq (by kernel_rfl) ?_
      refine WC.reg [0] (by kernel_rfl) (by kernel_rfl) ?_
      refine WR.st (St.box hS (by kernel_rfl) (.cells ⟨List.replicate 10 (.int .i64 0)⟩ 52) (fun b32 => .pointer (some ⟨b32, 0, none⟩)) (fun _ => by kernel_rfl) (fun b32 w33 hS => ?_))
      have hS : Sat w33 (rf w0) [oar 52 (r0 (.int .i64)) 1 10 b32 (List.replicate 10 (0 : Int)), optP O66 pv31 r22, optP O66 pv20 r11] := oar.ofPts (κ := (.int .i64)) 10 0 [.int .i64 0] (by kernel_rfl) (by kernel_rfl) rfl (by kernel_rfl) hS
      refine WR.runk [] [] [0, 1, 5, 6] (L' := [(0, .slice A0 l0.length c0), (1, .bool a1), (5, pv31), (6, .pointer (some ⟨b32, 0, none⟩))]) (w' := w33) (by kernel_rfl) ?_
      refine WR.nil ?_
      refine At.go ?_
      refine WC.seq (by kernel_rfl) ?_
      refine WC.reg [0, 1] (by kernel_rfl) (by kernel_rfl) ?_
      refine WR.runk [0, 1] [] [0, 1, 5, 6, 7, 8] (L' := [(0, .slice A0 l0.length c0), (1, .bool a1), (5, pv31), (6, .pointer (some ⟨b32, 0, none⟩)), (7, .int .i64 0), (8, .int .i64 0)]) (w' := w33) (by kernel_rfl) ?_
      refine WR.nil ?_
      refine At.go ?_
      refine WC.seq (by kernel_rfl) ?_
      refine WC.seq (by kernel_rfl) ?_
      refine WC.reg [0, 1, 2] (by kernel_rfl) (by kernel_rfl) ?_
      refine WR.runk [0, 1, 2] [] [1, 5, 6, 7, 8, 21, 22, 23] (L' := [(1, .bool a1), (5, pv31), (6, .pointer (some ⟨b32, 0, none⟩)), (7, .int .i64 0), (8, .int .i64 0), (21, .slice A0 l0.length c0), (22, .int .i64 (l0.length : Int)), (23, .int .i64 0)]) (w' := w33) (by kernel_rfl) ?_
      refine WR.nil ?_
      refine At.go ?_
      refine WC.block (by kernel_rfl) ?_
      have hS : Sat w33 (rf w0) [optP O66 pv31 r22, oar 52 (r0 (.int .i64)) 1 10 b32 (List.replicate 10 (0 : Int)), optP O66 pv20 r11] := hS.sel [1, 0, 2] (by kernel_rfl)
      obtain ⟨y35, hr36, H⟩ := bind_ex H
      obtain ⟨b38, hv37, hN111⟩ := optP.some hS hr36
      subst hv37
      have hS : Sat w33 (rf w0) [O66 b38 y35, oar 52 (r0 (.int .i64)) 1 10 b32 (List.replicate 10 (0 : Int)), optP O66 pv20 r11] := hN111
      have hS : Sat w33 (rf w0) [O66 b38 y35, oar 52 (r0 (.int .i64)) 1 10 b32 (List.replicate 10 (0 : Int))] := hS.sel [0, 1] (by kernel_rfl)
      obtain ⟨o84, e85, H⟩ := bind_ex H
      refine WC.loop (by kernel_rfl) ?_
      refine WL.weaken [1, 5, 6, 7, 8, 21, 22, 23] (L' := [(1, .bool a1), (5, .pointer (some ⟨b38, 0, none⟩)), (6, .pointer (some ⟨b32, 0, none⟩)), (7, .int .i64 0), (8, .int .i64 0), (21, .slice A0 l0.length c0), (22, .int .i64 (l0.length : Int)), (23, .int .i64 0)]) (by kernel_rfl) ?_
      refine colophonlaw07_CacheCharges.l1_ok w0 A0 c0 l0 a1 b32 b38 R0 o84 (fun o86 w88 ho89 hS => ?_) (fun o107 w109 ho110 hS => ?_) FU 0 0 0 y35 (List.replicate 10 (0 : Int)) _ hS e85
      · subst ho89
        dsimp only at H
        refine At.hit ?_
        refine At.go ?_
        refine WC.seq (by kernel_rfl) ?_
        refine WC.reg [0, 1, 2, 3] (by kernel_rfl) (by kernel_rfl) ?_
        refine WR.runk [0] [1, 2, 3] [1, 7, 8, 61] (L' := [(1, .bool a1), (7, .int .i64 o86.1), (8, .int .i64 o86.2.1), (61, .pointer (some ⟨b38, 0, none⟩))]) (w' := w88) (by kernel_rfl) ?_
        obtain ⟨r90, e91, H⟩ := bind_ex H
        refine WR.st (St.call (by kernel_rfl) (f := 15) (args := #[.pointer (some ⟨b38, 0, none⟩)]) (by kernel_rfl) (cache_Cache_Stats.calls w88 (.pointer (some ⟨b38, 0, none⟩)) (some o86.2.2.1) (Sat.rdAny 0 hS rfl (fun _ h => O66.rd _ _ _ h)) r90 e91) ?_)
        rintro _ w97 ⟨rfl, hS98⟩
        have hS : Sat w97 (rf w0) [O66 b38 o86.2.2.1, oar 52 (r0 (.int .i64)) 1 10 b32 o86.2.2.2] := hS.ext hS98
        refine WR.runk [] [2, 3] [1, 7, 8, 62] (L' := [(1, .bool a1), (7, .int .i64 o86.1), (8, .int .i64 o86.2.1), (62, .agg #[.int .i64 r90.1, .int .i64 r90.2.1, .int .i64 r90.2.2.1, .int .i64 r90.2.2.2])]) (w' := w97) (by kernel_rfl) ?_
        refine WR.st (St.box hS (by kernel_rfl) (.cells #[.int .i64 0, .int .i64 0, .int .i64 0, .int .i64 0] 44) (fun b99 => .pointer (some ⟨b99, 0, none⟩)) (fun _ => by kernel_rfl) (fun b99 w100 hS => ?_))
        refine WR.runk [] [3] [1, 7, 8, 15, 62] (L' := [(1, .bool a1), (7, .int .i64 o86.1), (8, .int .i64 o86.2.1), (15, .pointer (some ⟨b99, 0, none⟩)), (62, .agg #[.int .i64 r90.1, .int .i64 r90.2.1, .int .i64 r90.2.2.1, .int .i64 r90.2.2.2])]) (w' := w100) (by kernel_rfl) ?_
        refine WR.st (St.storeAll (t := 44) (vs := [.int .i64 r90.1, .int .i64 r90.2.1, .int .i64 r90.2.2.1, .int .i64 r90.2.2.2]) (.tmp 15) (.tmp 62) (by kernel_rfl) (by kernel_rfl) (by kernel_rfl) hS (by kernel_rfl) (by kernel_rfl) (by kernel_rfl) (by kernel_rfl) (fun w102 hS => ?_))
        have hS : Sat w102 (rf w0) [pts b99 (.cells #[.int .i64 r90.1, .int .i64 r90.2.1, .int .i64 r90.2.2.1, .int .i64 r90.2.2.2] 44 (0, 0)), O66 b38 o86.2.2.1, oar 52 (r0 (.int .i64)) 1 10 b32 o86.2.2.2] := hS
        refine WR.runk [] [] [1, 7, 8, 15] (L' := [(1, .bool a1), (7, .int .i64 o86.1), (8, .int .i64 o86.2.1), (15, .pointer (some ⟨b99, 0, none⟩))]) (w' := w102) (by kernel_rfl) ?_
        refine WR.nil ?_
        refine At.go ?_
        refine WC.seq (by kernel_rfl) ?_
        refine WC.reg [0, 1, 2, 3, 4, 5, 6, 7, 8, 9, 10, 11, 12, 13, 14, 15, 16, 17, 18, 19, 20, 21, 22, 23, 24, 25, 26, 27] (by kernel_rfl) (by kernel_rfl) ?_
        refine WR.runk [0] [1, 2, 3, 4, 5, 6, 7, 8, 9, 10, 11, 12, 13, 14, 15, 16, 17, 18, 19, 20, 21, 22, 23, 24, 25, 26, 27] [1, 7, 8, 15, 63] (L' := [(1, .bool a1), (7, .int .i64 o86.1), (8, .int .i64 o86.2.1), (15, .pointer (some ⟨b99, 0, none⟩)), (63, .pointer (some ⟨b99, 0, none⟩))]) (w' := w102) (by kernel_rfl) ?_
        refine WR.st (St.ofR (RSt.loadObj (t := 3) (k := 0) (v := .int .i64 r90.1) (.tmp 63) (by kernel_rfl) (by kernel_rfl) (by kernel_rfl) 0 hS rfl (by kernel_rfl) rfl ?_))
        refine WR.runk [2] [3, 4, 5, 6, 7, 8, 9, 10, 11, 12, 13, 14, 15, 16, 17, 18, 19, 20, 21, 22, 23, 24, 25, 26, 27] [1, 7, 8, 15, 64, 65] (L' := [(1, .bool a1), (7, .int .i64 o86.1), (8, .int .i64 o86.2.1), (15, .pointer (some ⟨b99, 0, none⟩)), (64, .int .i64 r90.1), (65, .pointer (some ⟨b99, 1, none⟩))]) (w' := w102) (by kernel_rfl) ?_
        refine WR.st (St.ofR (RSt.loadObj (t := 3) (k := 1) (v := .int .i64 r90.2.1) (.tmp 65) (by kernel_rfl) (by kernel_rfl) (by kernel_rfl) 0 hS rfl (by kernel_rfl) rfl ?_))
        refine WR.runk [4, 5, 6, 7] [8, 9, 10, 11, 12, 13, 14, 15, 16, 17, 18, 19, 20, 21, 22, 23, 24, 25, 26, 27] [1, 8, 15, 70] (L' := [(1, .bool a1), (8, .int .i64 o86.2.1), (15, .pointer (some ⟨b99, 0, none⟩)), (70, .bool ((wi (r90.1 + r90.2.1)) == o86.1))]) (w' := w102) (by kernel_rfl) ?_
        refine WR.split 70 (b := ((wi (r90.1 + r90.2.1)) == o86.1)) (by kernel_rfl) (fun hb103 => ?_) (fun hb103 => ?_)
        · replace H := ite_t H hb103
          refine WR.runk [8] [9, 10, 11, 12, 13, 14, 15, 16, 17, 18, 19, 20, 21, 22, 23, 24, 25, 26, 27] [1, 8, 15, 70, 71] (L' := [(1, .bool a1), (8, .int .i64 o86.2.1), (15, .pointer (some ⟨b99, 0, none⟩)), (70, .bool true), (71, .pointer (some ⟨b99, 3, none⟩))]) (w' := w102) (by kernel_rfl) ?_
          refine WR.st (St.ofR (RSt.loadObj (t := 3) (k := 3) (v := .int .i64 r90.2.2.2) (.tmp 71) (by kernel_rfl) (by kernel_rfl) (by kernel_rfl) 0 hS rfl (by kernel_rfl) rfl ?_))
          refine WR.runk [10, 11, 12] [13, 14, 15, 16, 17, 18, 19, 20, 21, 22, 23, 24, 25, 26, 27] [1, 8, 15, 75] (L' := [(1, .bool a1), (8, .int .i64 o86.2.1), (15, .pointer (some ⟨b99, 0, none⟩)), (75, .bool (r90.2.2.2 == 0))]) (w' := w102) (by kernel_rfl) ?_
          refine WR.split 75 (b := (r90.2.2.2 == 0)) (by kernel_rfl) (fun hb104 => ?_) (fun hb104 => ?_)
          · replace H := ite_t H hb104
            refine WR.runk [13] [14, 15, 16, 17, 18, 19, 20, 21, 22, 23, 24, 25, 26, 27] [1, 8, 15, 75, 76] (L' := [(1, .bool a1), (8, .int .i64 o86.2.1), (15, .pointer (some ⟨b99, 0, none⟩)), (75, .bool true), (76, .pointer (some ⟨b99, 1, none⟩))]) (w' := w102) (by kernel_rfl) ?_
            refine WR.st (St.ofR (RSt.loadObj (t := 3) (k := 1) (v := .int .i64 r90.2.1) (.tmp 76) (by kernel_rfl) (by kernel_rfl) (by kernel_rfl) 0 hS rfl (by kernel_rfl) rfl ?_))
            refine WR.runk [15, 16, 17, 18] [19, 20, 21, 22, 23, 24, 25, 26, 27] [1, 8, 15, 81] (L' := [(1, .bool a1), (8, .int .i64 o86.2.1), (15, .pointer (some ⟨b99, 0, none⟩)), (81, .bool (decide (r90.2.1 ≥ o86.2.1)))]) (w' := w102) (by kernel_rfl) ?_
            refine WR.split 81 (b := decide (r90.2.1 ≥ o86.2.1)) (by kernel_rfl) (fun hb105 => ?_) (fun hb105 => ?_)
            · replace H := ite_t H hb105
              refine WR.runk [19, 20] [21, 22, 23, 24, 25, 26, 27] [8, 15, 81, 83] (L' := [(8, .int .i64 o86.2.1), (15, .pointer (some ⟨b99, 0, none⟩)), (81, .bool true), (83, .bool a1)]) (w' := w102) (by kernel_rfl) ?_
              refine WR.split 83 (b := a1) (by kernel_rfl) (fun hb106 => ?_) (fun hb106 => ?_)
              · replace H := ite_t H hb106
                refine WR.runk [21, 22, 23, 24, 25, 26, 27] [] [4] (L' := [(4, .bool true)]) (w' := w102) (by kernel_rfl) ?_
                refine WR.nil ?_
                refine At.go ?_
                refine WC.ret (by kernel_rfl) ?_
                obtain rfl := Option.some.inj H
                have hS : Sat w102 (rf w0) [] := hS.sel [] (by kernel_rfl)
                exact At.body [.bool true] (by kernel_rfl) ⟨_, rfl, rfl, hS⟩
              · replace H := ite_f H hb106
                refine WR.runk [21] [22, 23, 24, 25, 26, 27] [8, 81, 83, 84] (L' := [(8, .int .i64 o86.2.1), (81, .bool true), (83, .bool false), (84, .pointer (some ⟨b99, 1, none⟩))]) (w' := w102) (by kernel_rfl) ?_
                refine WR.st (St.ofR (RSt.loadObj (t := 3) (k := 1) (v := .int .i64 r90.2.1) (.tmp 84) (by kernel_rfl) (by kernel_rfl) (by kernel_rfl) 0 hS rfl (by kernel_rfl) rfl ?_))
                refine WR.runk [23, 24, 25, 26, 27] [] [4] (L' := [(4, .bool (r90.2.1 == o86.2.1))]) (w' := w102) (by kernel_rfl) ?_
                refine WR.nil ?_
                refine At.go ?_
                refine WC.ret (by kernel_rfl) ?_
                obtain rfl := Option.some.inj H
                have hS : Sat w102 (rf w0) [] := hS.sel [] (by kernel_rfl)
                exact At.body [.bool (r90.2.1 == o86.2.1)] (by kernel_rfl) ⟨_, rfl, rfl, hS⟩
            · replace H := ite_f H hb105
              refine WR.runk [19, 20, 21, 22, 23, 24, 25, 26, 27] [] [4] (L' := [(4, .bool false)]) (w' := w102) (by kernel_rfl) ?_
              refine WR.nil ?_
              refine At.go ?_
              refine WC.ret (by kernel_rfl) ?_
              obtain rfl := Option.some.inj H
              have hS : Sat w102 (rf w0) [] := hS.sel [] (by kernel_rfl)
              exact At.body [.bool false] (by kernel_rfl) ⟨_, rfl, rfl, hS⟩
          · replace H := ite_f H hb104
            refine WR.runk [13, 14, 15, 16, 17, 18, 19, 20, 21, 22, 23, 24, 25, 26, 27] [] [4] (L' := [(4, .bool false)]) (w' := w102) (by kernel_rfl) ?_
            refine WR.nil ?_
            refine At.go ?_
            refine WC.ret (by kernel_rfl) ?_
            obtain rfl := Option.some.inj H
            have hS : Sat w102 (rf w0) [] := hS.sel [] (by kernel_rfl)
            exact At.body [.bool false] (by kernel_rfl) ⟨_, rfl, rfl, hS⟩
        · replace H := ite_f H hb103
          refine WR.runk [8, 9, 10, 11, 12, 13, 14, 15, 16, 17, 18, 19, 20, 21, 22, 23, 24, 25, 26, 27] [] [4] (L' := [(4, .bool false)]) (w' := w102) (by kernel_rfl) ?_
          refine WR.nil ?_
          refine At.go ?_
          refine WC.ret (by kernel_rfl) ?_
          obtain rfl := Option.some.inj H
          have hS : Sat w102 (rf w0) [] := hS.sel [] (by kernel_rfl)
          exact At.body [.bool false] (by kernel_rfl) ⟨_, rfl, rfl, hS⟩
      · subst ho110
        dsimp only at H
        refine At.blockRet ?_
        refine At.thenRet ?_
        obtain rfl := Option.some.inj H
        have hS : Sat w109 (rf w0) [] := hS.sel [] (by kernel_rfl)
        exact At.body [.bool o107.1] (by kernel_rfl) ⟨_, rfl, rfl, hS⟩
    · replace H := ite_f H hb21
      refine WC.skip (by kernel_rfl) ?_
      refine At.go ?_
      refine WC.seq (by kernel_rfl) ?_
      refine WC.reg [0] (by kernel_rfl) (by kernel_rfl) ?_
      refine WR.runk [] [0] [0, 1, 5] (L' := [(0, .slice A0 l0.length c0), (1, .bool a1), (5, pv20)]) (w' := w18) (by kernel_rfl) ?_
      refine WR.st (St.box hS (by kernel_rfl) (.cells ⟨List.replicate 10 (.int .i64 0)⟩ 52) (fun b112 => .pointer (some ⟨b112, 0, none⟩)) (fun _ => by kernel_rfl) (fun b112 w113 hS => ?_))
      have hS : Sat w113 (rf w0) [oar 52 (r0 (.int .i64)) 1 10 b112 (List.replicate 10 (0 : Int)), optP O66 pv20 r11] := oar.ofPts (κ := (.int .i64)) 10 0 [.int .i64 0] (by kernel_rfl) (by kernel_rfl) rfl (by kernel_rfl) hS
      refine WR.runk [] [] [0, 1, 5, 6] (L' := [(0, .slice A0 l0.length c0), (1, .bool a1), (5, pv20), (6, .pointer (some ⟨b112, 0, none⟩))]) (w' := w113) (by kernel_rfl) ?_
      refine WR.nil ?_
      refine At.go ?_
      refine WC.seq (by kernel_rfl) ?_
      refine WC.reg [0, 1] (by kernel_rfl) (by kernel_rfl) ?_
      refine WR.runk [0, 1] [] [0, 1, 5, 6, 7, 8] (L' := [(0, .slice A0 l0.length c0), (1, .bool a1), (5, pv20), (6, .pointer (some ⟨b112, 0, none⟩)), (7, .int .i64 0), (8, .int .i64 0)]) (w' := w113) (by kernel_rfl) ?_
      refine WR.nil ?_
      refine At.go ?_
      refine WC.seq (by kernel_rfl) ?_
      refine WC.seq (by kernel_rfl) ?_
      refine WC.reg [0, 1, 2] (by kernel_rfl) (by kernel_rfl) ?_
      refine WR.runk [0, 1, 2] [] [1, 5, 6, 7, 8, 21, 22, 23] (L' := [(1, .bool a1), (5, pv20), (6, .pointer (some ⟨b112, 0, none⟩)), (7, .int .i64 0), (8, .int .i64 0), (21, .slice A0 l0.length c0), (22, .int .i64 (l0.length : Int)), (23, .int .i64 0)]) (w' := w113) (by kernel_rfl) ?_
      refine WR.nil ?_
      refine At.go ?_
      refine WC.block (by kernel_rfl) ?_
      have hS : Sat w113 (rf w0) [optP O66 pv20 r11, oar 52 (r0 (.int .i64)) 1 10 b112 (List.replicate 10 (0 : Int))] := hS.sel [1, 0] (by kernel_rfl)
      obtain ⟨y115, hr116, H⟩ := bind_ex H
      obtain ⟨b118, hv117, hN191⟩ := optP.some hS hr116
      subst hv117
      have hS : Sat w113 (rf w0) [O66 b118 y115, oar 52 (r0 (.int .i64)) 1 10 b112 (List.replicate 10 (0 : Int))] := hN191
      have hS : Sat w113 (rf w0) [O66 b118 y115, oar 52 (r0 (.int .i64)) 1 10 b112 (List.replicate 10 (0 : Int))] := hS.sel [0, 1] (by kernel_rfl)
      obtain ⟨o164, e165, H⟩ := bind_ex H
      refine WC.loop (by kernel_rfl) ?_
      refine WL.weaken [1, 5, 6, 7, 8, 21, 22, 23] (L' := [(1, .bool a1), (5, .pointer (some ⟨b118, 0, none⟩)), (6, .pointer (some ⟨b112, 0, none⟩)), (7, .int .i64 0), (8, .int .i64 0), (21, .slice A0 l0.length c0), (22, .int .i64 (l0.length : Int)), (23, .int .i64 0)]) (by kernel_rfl) ?_
      refine colophonlaw07_CacheCharges.l2_ok w0 A0 c0 l0 a1 b112 b118 R0 o164 (fun o166 w168 ho169 hS => ?_) (fun o187 w189 ho190 hS => ?_) FU 0 0 0 y115 (List.replicate 10 (0 : Int)) _ hS e165
      · subst ho169
        dsimp only at H
        refine At.hit ?_
        refine At.go ?_
        refine WC.seq (by kernel_rfl) ?_
        refine WC.reg [0, 1, 2, 3] (by kernel_rfl) (by kernel_rfl) ?_
        refine WR.runk [0] [1, 2, 3] [1, 7, 8, 61] (L' := [(1, .bool a1), (7, .int .i64 o166.1), (8, .int .i64 o166.2.1), (61, .pointer (some ⟨b118, 0, none⟩))]) (w' := w168) (by kernel_rfl) ?_
        obtain ⟨r170, e171, H⟩ := bind_ex H
        refine WR.st (St.call (by kernel_rfl) (f := 15) (args := #[.pointer (some ⟨b118, 0, none⟩)]) (by kernel_rfl) (cache_Cache_Stats.calls w168 (.pointer (some ⟨b118, 0, none⟩)) (some o166.2.2.1) (Sat.rdAny 0 hS rfl (fun _ h => O66.rd _ _ _ h)) r170 e171) ?_)
        rintro _ w177 ⟨rfl, hS178⟩
        have hS : Sat w177 (rf w0) [O66 b118 o166.2.2.1, oar 52 (r0 (.int .i64)) 1 10 b112 o166.2.2.2] := hS.ext hS178
        refine WR.runk [] [2, 3] [1, 7, 8, 62] (L' := [(1, .bool a1), (7, .int .i64 o166.1), (8, .int .i64 o166.2.1), (62, .agg #[.int .i64 r170.1, .int .i64 r170.2.1, .int .i64 r170.2.2.1, .int .i64 r170.2.2.2])]) (w' := w177) (by kernel_rfl) ?_
        refine WR.st (St.box hS (by kernel_rfl) (.cells #[.int .i64 0, .int .i64 0, .int .i64 0, .int .i64 0] 44) (fun b179 => .pointer (some ⟨b179, 0, none⟩)) (fun _ => by kernel_rfl) (fun b179 w180 hS => ?_))
        refine WR.runk [] [3] [1, 7, 8, 15, 62] (L' := [(1, .bool a1), (7, .int .i64 o166.1), (8, .int .i64 o166.2.1), (15, .pointer (some ⟨b179, 0, none⟩)), (62, .agg #[.int .i64 r170.1, .int .i64 r170.2.1, .int .i64 r170.2.2.1, .int .i64 r170.2.2.2])]) (w' := w180) (by kernel_rfl) ?_
        refine WR.st (St.storeAll (t := 44) (vs := [.int .i64 r170.1, .int .i64 r170.2.1, .int .i64 r170.2.2.1, .int .i64 r170.2.2.2]) (.tmp 15) (.tmp 62) (by kernel_rfl) (by kernel_rfl) (by kernel_rfl) hS (by kernel_rfl) (by kernel_rfl) (by kernel_rfl) (by kernel_rfl) (fun w182 hS => ?_))
        have hS : Sat w182 (rf w0) [pts b179 (.cells #[.int .i64 r170.1, .int .i64 r170.2.1, .int .i64 r170.2.2.1, .int .i64 r170.2.2.2] 44 (0, 0)), O66 b118 o166.2.2.1, oar 52 (r0 (.int .i64)) 1 10 b112 o166.2.2.2] := hS
        refine WR.runk [] [] [1, 7, 8, 15] (L' := [(1, .bool a1), (7, .int .i64 o166.1), (8, .int .i64 o166.2.1), (15, .pointer (some ⟨b179, 0, none⟩))]) (w' := w182) (by kernel_rfl) ?_
        refine WR.nil ?_
        refine At.go ?_
        refine WC.seq (by kernel_rfl) ?_
        refine WC.reg [0, 1, 2, 3, 4, 5, 6, 7, 8, 9, 10, 11, 12, 13, 14, 15, 16, 17, 18, 19, 20, 21, 22, 23, 24, 25, 26, 27] (by kernel_rfl) (by kernel_rfl) ?_
        refine WR.runk [0] [1, 2, 3, 4, 5, 6, 7, 8, 9, 10, 11, 12, 13, 14, 15, 16, 17, 18, 19, 20, 21, 22, 23, 24, 25, 26, 27] [1, 7, 8, 15, 63] (L' := [(1, .bool a1), (7, .int .i64 o166.1), (8, .int .i64 o166.2.1), (15, .pointer (some ⟨b179, 0, none⟩)), (63, .pointer (some ⟨b179, 0, none⟩))]) (w' := w182) (by kernel_rfl) ?_
        refine WR.st (St.ofR (RSt.loadObj (t := 3) (k := 0) (v := .int .i64 r170.1) (.tmp 63) (by kernel_rfl) (by kernel_rfl) (by kernel_rfl) 0 hS rfl (by kernel_rfl) rfl ?_))
        refine WR.runk [2] [3, 4, 5, 6, 7, 8, 9, 10, 11, 12, 13, 14, 15, 16, 17, 18, 19, 20, 21, 22, 23, 24, 25, 26, 27] [1, 7, 8, 15, 64, 65] (L' := [(1, .bool a1), (7, .int .i64 o166.1), (8, .int .i64 o166.2.1), (15, .pointer (some ⟨b179, 0, none⟩)), (64, .int .i64 r170.1), (65, .pointer (some ⟨b179, 1, none⟩))]) (w' := w182) (by kernel_rfl) ?_
        refine WR.st (St.ofR (RSt.loadObj (t := 3) (k := 1) (v := .int .i64 r170.2.1) (.tmp 65) (by kernel_rfl) (by kernel_rfl) (by kernel_rfl) 0 hS rfl (by kernel_rfl) rfl ?_))
        refine WR.runk [4, 5, 6, 7] [8, 9, 10, 11, 12, 13, 14, 15, 16, 17, 18, 19, 20, 21, 22, 23, 24, 25, 26, 27] [1, 8, 15, 70] (L' := [(1, .bool a1), (8, .int .i64 o166.2.1), (15, .pointer (some ⟨b179, 0, none⟩)), (70, .bool ((wi (r170.1 + r170.2.1)) == o166.1))]) (w' := w182) (by kernel_rfl) ?_
        refine WR.split 70 (b := ((wi (r170.1 + r170.2.1)) == o166.1)) (by kernel_rfl) (fun hb183 => ?_) (fun hb183 => ?_)
        · replace H := ite_t H hb183
          refine WR.runk [8] [9, 10, 11, 12, 13, 14, 15, 16, 17, 18, 19, 20, 21, 22, 23, 24, 25, 26, 27] [1, 8, 15, 70, 71] (L' := [(1, .bool a1), (8, .int .i64 o166.2.1), (15, .pointer (some ⟨b179, 0, none⟩)), (70, .bool true), (71, .pointer (some ⟨b179, 3, none⟩))]) (w' := w182) (by kernel_rfl) ?_
          refine WR.st (St.ofR (RSt.loadObj (t := 3) (k := 3) (v := .int .i64 r170.2.2.2) (.tmp 71) (by kernel_rfl) (by kernel_rfl) (by kernel_rfl) 0 hS rfl (by kernel_rfl) rfl ?_))
          refine WR.runk [10, 11, 12] [13, 14, 15, 16, 17, 18, 19, 20, 21, 22, 23, 24, 25, 26, 27] [1, 8, 15, 75] (L' := [(1, .bool a1), (8, .int .i64 o166.2.1), (15, .pointer (some ⟨b179, 0, none⟩)), (75, .bool (r170.2.2.2 == 0))]) (w' := w182) (by kernel_rfl) ?_
          refine WR.split 75 (b := (r170.2.2.2 == 0)) (by kernel_rfl) (fun hb184 => ?_) (fun hb184 => ?_)
          · replace H := ite_t H hb184
            refine WR.runk [13] [14, 15, 16, 17, 18, 19, 20, 21, 22, 23, 24, 25, 26, 27] [1, 8, 15, 75, 76] (L' := [(1, .bool a1), (8, .int .i64 o166.2.1), (15, .pointer (some ⟨b179, 0, none⟩)), (75, .bool true), (76, .pointer (some ⟨b179, 1, none⟩))]) (w' := w182) (by kernel_rfl) ?_
            refine WR.st (St.ofR (RSt.loadObj (t := 3) (k := 1) (v := .int .i64 r170.2.1) (.tmp 76) (by kernel_rfl) (by kernel_rfl) (by kernel_rfl) 0 hS rfl (by kernel_rfl) rfl ?_))
            refine WR.runk [15, 16, 17, 18] [19, 20, 21, 22, 23, 24, 25, 26, 27] [1, 8, 15, 81] (L' := [(1, .bool a1), (8, .int .i64 o166.2.1), (15, .pointer (some ⟨b179, 0, none⟩)), (81, .bool (decide (r170.2.1 ≥ o166.2.1)))]) (w' := w182) (by kernel_rfl) ?_
            refine WR.split 81 (b := decide (r170.2.1 ≥ o166.2.1)) (by kernel_rfl) (fun hb185 => ?_) (fun hb185 => ?_)
            · replace H := ite_t H hb185
              refine WR.runk [19, 20] [21, 22, 23, 24, 25, 26, 27] [8, 15, 81, 83] (L' := [(8, .int .i64 o166.2.1), (15, .pointer (some ⟨b179, 0, none⟩)), (81, .bool true), (83, .bool a1)]) (w' := w182) (by kernel_rfl) ?_
              refine WR.split 83 (b := a1) (by kernel_rfl) (fun hb186 => ?_) (fun hb186 => ?_)
              · replace H := ite_t H hb186
                refine WR.runk [21, 22, 23, 24, 25, 26, 27] [] [4] (L' := [(4, .bool true)]) (w' := w182) (by kernel_rfl) ?_
                refine WR.nil ?_
                refine At.go ?_
                refine WC.ret (by kernel_rfl) ?_
                obtain rfl := Option.some.inj H
                have hS : Sat w182 (rf w0) [] := hS.sel [] (by kernel_rfl)
                exact At.body [.bool true] (by kernel_rfl) ⟨_, rfl, rfl, hS⟩
              · replace H := ite_f H hb186
                refine WR.runk [21] [22, 23, 24, 25, 26, 27] [8, 81, 83, 84] (L' := [(8, .int .i64 o166.2.1), (81, .bool true), (83, .bool false), (84, .pointer (some ⟨b179, 1, none⟩))]) (w' := w182) (by kernel_rfl) ?_
                refine WR.st (St.ofR (RSt.loadObj (t := 3) (k := 1) (v := .int .i64 r170.2.1) (.tmp 84) (by kernel_rfl) (by kernel_rfl) (by kernel_rfl) 0 hS rfl (by kernel_rfl) rfl ?_))
                refine WR.runk [23, 24, 25, 26, 27] [] [4] (L' := [(4, .bool (r170.2.1 == o166.2.1))]) (w' := w182) (by kernel_rfl) ?_
                refine WR.nil ?_
                refine At.go ?_
                refine WC.ret (by kernel_rfl) ?_
                obtain rfl := Option.some.inj H
                have hS : Sat w182 (rf w0) [] := hS.sel [] (by kernel_rfl)
                exact At.body [.bool (r170.2.1 == o166.2.1)] (by kernel_rfl) ⟨_, rfl, rfl, hS⟩
            · replace H := ite_f H hb185
              refine WR.runk [19, 20, 21, 22, 23, 24, 25, 26, 27] [] [4] (L' := [(4, .bool false)]) (w' := w182) (by kernel_rfl) ?_
              refine WR.nil ?_
              refine At.go ?_
              refine WC.ret (by kernel_rfl) ?_
              obtain rfl := Option.some.inj H
              have hS : Sat w182 (rf w0) [] := hS.sel [] (by kernel_rfl)
              exact At.body [.bool false] (by kernel_rfl) ⟨_, rfl, rfl, hS⟩
          · replace H := ite_f H hb184
            refine WR.runk [13, 14, 15, 16, 17, 18, 19, 20, 21, 22, 23, 24, 25, 26, 27] [] [4] (L' := [(4, .bool false)]) (w' := w182) (by kernel_rfl) ?_
            refine WR.nil ?_
            refine At.go ?_
            refine WC.ret (by kernel_rfl) ?_
            obtain rfl := Option.some.inj H
            have hS : Sat w182 (rf w0) [] := hS.sel [] (by kernel_rfl)
            exact At.body [.bool false] (by kernel_rfl) ⟨_, rfl, rfl, hS⟩
        · replace H := ite_f H hb183
          refine WR.runk [8, 9, 10, 11, 12, 13, 14, 15, 16, 17, 18, 19, 20, 21, 22, 23, 24, 25, 26, 27] [] [4] (L' := [(4, .bool false)]) (w' := w182) (by kernel_rfl) ?_
          refine WR.nil ?_
          refine At.go ?_
          refine WC.ret (by kernel_rfl) ?_
          obtain rfl := Option.some.inj H
          have hS : Sat w182 (rf w0) [] := hS.sel [] (by kernel_rfl)
          exact At.body [.bool false] (by kernel_rfl) ⟨_, rfl, rfl, hS⟩
      · subst ho190
        dsimp only at H
        refine At.blockRet ?_
        refine At.thenRet ?_
        obtain rfl := Option.some.inj H
        have hS : Sat w189 (rf w0) [] := hS.sel [] (by kernel_rfl)
        exact At.body [.bool o187.1] (by kernel_rfl) ⟨_, rfl, rfl, hS⟩
end Go.Proofs.Ytbcdcpkofgfofaa
