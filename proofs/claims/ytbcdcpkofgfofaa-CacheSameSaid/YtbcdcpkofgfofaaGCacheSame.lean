/-
  Printed by gen.py (my own tool): for each Go function a plain Lean function and the proof that a call of it does what that function says.
-/
import Derived.Test.YtbcdcpkofgfofaaGP1d
set_option linter.unusedVariables false
set_option linter.unusedSimpArgs false
set_option maxRecDepth 100000
namespace Go.Proofs.Ytbcdcpkofgfofaa
open Go Go.Gol
/-! ### 6 colophon/colophonlaw07.CacheSame -/
def colophonlaw07_CacheSame.l2 (r85 : (List Int) × Bool × Int × ((Option ((List (List Int)) × (List Int) × (List Int))) × (List (Int × (List Int) × Bool × Int)) × Int × Int × Int)) (y98 : List Int) : Nat → Int → Option (Sum Bool Unit)
  | 0, _ => none
  | k + 1, x102_l2 => (if decide (x102_l2 < 13) then ((at? y98 x102_l2).bind fun v147 => (if (v147 == 1) then ((cache_Cache_Has.f (some r85.2.2.2) x102_l2).bind fun r150 => (if (!r150) then some (.inl false) else colophonlaw07_CacheSame.l2 r85 y98 k (wi (x102_l2 + 1)))) else colophonlaw07_CacheSame.l2 r85 y98 k (wi (x102_l2 + 1)))) else some (.inr ()))
def colophonlaw07_CacheSame.l3 (r85 : (List Int) × Bool × Int × ((Option ((List (List Int)) × (List Int) × (List Int))) × (List (Int × (List Int) × Bool × Int)) × Int × Int × Int)) (y98 : List Int) : Nat → Int → Option (Sum Bool Unit)
  | 0, _ => none
  | k + 1, x102_l3 => (if decide (x102_l3 < 13) then ((at? y98 x102_l3).bind fun v172 => (if (v172 == 1) then ((cache_Cache_Has.f (some r85.2.2.2) x102_l3).bind fun r175 => (if (!r175) then some (.inl false) else colophonlaw07_CacheSame.l3 r85 y98 k (wi (x102_l3 + 1)))) else colophonlaw07_CacheSame.l3 r85 y98 k (wi (x102_l3 + 1)))) else some (.inr ()))
def colophonlaw07_CacheSame.l1 (l1 : List Int) : Nat → Int → ((Option ((List (List Int)) × (List Int) × (List Int))) × (List (Int × (List Int) × Bool × Int)) × Int × Int × Int) → ((Option ((List (List Int)) × (List Int) × (List Int))) × (List (Int × (List Int) × Bool × Int)) × Int × Int × Int) → ((Option ((List (List Int)) × (List Int) × (List Int))) × (List (Int × (List Int) × Bool × Int)) × Int × Int × Int) → (List Int) → Option (Sum (((Option ((List (List Int)) × (List Int) × (List Int))) × (List (Int × (List Int) × Bool × Int)) × Int × Int × Int) × ((Option ((List (List Int)) × (List Int) × (List Int))) × (List (Int × (List Int) × Bool × Int)) × Int × Int × Int) × ((Option ((List (List Int)) × (List Int) × (List Int))) × (List (Int × (List Int) × Bool × Int)) × Int × Int × Int) × (List Int)) (Bool × ((Option ((List (List Int)) × (List Int) × (List Int))) × (List (Int × (List Int) × Bool × Int)) × Int × Int × Int) × ((Option ((List (List Int)) × (List Int) × (List Int))) × (List (Int × (List Int) × Bool × Int)) × Int × Int × Int) × ((Option ((List (List Int)) × (List Int) × (List Int))) × (List (Int × (List Int) × Bool × Int)) × Int × Int × Int) × (List Int)))
  | 0, _, _, _, _, _ => none
  | k + 1, x35_l1, q48_l1, q53_l1, q58_l1, q43_l1 => (if decide (x35_l1 < (l1.length : Int)) then ((at? l1 x35_l1).bind fun v60 => (if decide (x35_l1 ≥ 100) then some (.inl (q48_l1, q53_l1, q58_l1, q43_l1)) else ((cache_Cache_Hold.f q48_l1 (wi (Int.tmod (IntKind.wrap .u64 v60) 13))).bind fun r63 => ((cache_Cache_Hold.f q53_l1 (wi (Int.tmod (IntKind.wrap .u64 v60) 13))).bind fun r74 => ((cache_Cache_Hold.f q58_l1 (wi (Int.tmod (IntKind.wrap .u64 v60) 13))).bind fun r85 => ((at? q43_l1 (wi (Int.tmod (IntKind.wrap .u64 v60) 13))).bind fun v96 => ((set? q43_l1 (wi (Int.tmod (IntKind.wrap .u64 v60) 13)) 1).bind fun y98 => (if (r63.2.1 != r74.2.1) then some (.inr (false, r63.2.2.2, r74.2.2.2, r85.2.2.2, y98)) else (if (r63.2.2.1 != r74.2.2.1) then some (.inr (false, r63.2.2.2, r74.2.2.2, r85.2.2.2, y98)) else (if (!((bs r63.1).toList == (bs r74.1).toList)) then some (.inr (false, r63.2.2.2, r74.2.2.2, r85.2.2.2, y98)) else ((cache_Cache_Stats.f (some r63.2.2.2)).bind fun r106 => ((cache_Cache_Stats.f (some r74.2.2.2)).bind fun r115 => (if (!(([r106.1, r106.2.1, r106.2.2.1, r106.2.2.2] : List Int) == ([r115.1, r115.2.1, r115.2.2.1, r115.2.2.2] : List Int))) then some (.inr (false, r63.2.2.2, r74.2.2.2, r85.2.2.2, y98)) else (if decide (Int.tmod (IntKind.wrap .u64 (Int.tdiv (IntKind.wrap .u64 v60) 13)) 3 > 0) then ((cache_Cache_Drop.f r63.2.2.2 (wi (Int.tmod (IntKind.wrap .u64 v60) 13))).bind fun r126 => ((cache_Cache_Drop.f r74.2.2.2 (wi (Int.tmod (IntKind.wrap .u64 v60) 13))).bind fun r135 => (if (r126.1 != r135.1) then some (.inr (false, r126.2, r135.2, r85.2.2.2, y98)) else ((colophonlaw07_CacheSame.l2 r85 y98 FU 0).bind fun o160 => (match o160 with | .inl o162 => some (.inr (o162, r126.2, r135.2, r85.2.2.2, y98)) | .inr o166 => colophonlaw07_CacheSame.l1 l1 k (wi (x35_l1 + 1)) r126.2 r135.2 r85.2.2.2 y98))))) else ((colophonlaw07_CacheSame.l3 r85 y98 FU 0).bind fun o185 => (match o185 with | .inl o187 => some (.inr (o187, r63.2.2.2, r74.2.2.2, r85.2.2.2, y98)) | .inr o191 => colophonlaw07_CacheSame.l1 l1 k (wi (x35_l1 + 1)) r63.2.2.2 r74.2.2.2 r85.2.2.2 y98)))))))))))))))) else some (.inl (q48_l1, q53_l1, q58_l1, q43_l1)))
def colophonlaw07_CacheSame.f (a0 : Int) (l1 : List Int) : Option Bool := (colophonlaw07_first.f.bind fun r1 => (if (!r1) then some false else ((colophonlaw07_made.f 12 (wi (1 + (wi (Int.tmod (IntKind.wrap .u64 a0) 5))))).bind fun r11 => ((colophonlaw07_made.f 12 (wi (1 + (wi (Int.tmod (IntKind.wrap .u64 a0) 5))))).bind fun r21 => ((colophonlaw07_made.f 12 13).bind fun r31 => (r11.bind fun y44 => (r21.bind fun y49 => (r31.bind fun y54 => ((colophonlaw07_CacheSame.l1 l1 FU 0 y44 y49 y54 (List.replicate 13 (0 : Int))).bind fun o195 => (match o195 with | .inl o197 => some true | .inr o201 => some o201.1))))))))))
def colophonlaw07_CacheSame.post (w : World) (r : Bool) (v : Value) (w' : World) : Prop := v = (.bool r : Value) ∧ Sat w' (rf w) []
theorem colophonlaw07_CacheSame.l2_ok {Q} (w0 : World) (A1 : Option Addr) (c1 : Nat) (l1 : List Int) (b41 : Nat) (b47 : Nat) (b52 : Nat) (b57 : Nat) (x35_l1 : Int) (r85 : (List Int) × Bool × Int × ((Option ((List (List Int)) × (List Int) × (List Int))) × (List (Int × (List Int) × Bool × Int)) × Int × Int × Int)) (y98 : List Int) (r126 : Bool × ((Option ((List (List Int)) × (List Int) × (List Int))) × (List (Int × (List Int) × Bool × Int)) × Int × Int × Int)) (r135 : Bool × ((Option ((List (List Int)) × (List Int) × (List Int))) × (List (Int × (List Int) × Bool × Int)) × Int × Int × Int)) (hl145 : List.length y98 = 13) (out : Sum Bool Unit) (hn0 : ∀ (o0 : Bool) (w : World), out = (.inl o0) → Sat w (rf w0) [O66 b47 r126.2, O66 b52 r135.2, O66 b57 r85.2.2.2, oar 54 (r0 (.int .i64)) 1 13 b41 y98] → At Q .ret 116 [(4, .bool o0)] w) (hn1 : ∀ (o1 : Unit) (w : World), out = (.inr o1) → Sat w (rf w0) [O66 b47 r126.2, O66 b52 r135.2, O66 b57 r85.2.2.2, oar 54 (r0 (.int .i64)) 1 13 b41 y98] → At Q (.exit 2) 116 [(6, .pointer (some ⟨b47, 0, none⟩)), (7, .pointer (some ⟨b52, 0, none⟩)), (8, .pointer (some ⟨b57, 0, none⟩)), (9, .pointer (some ⟨b41, 0, none⟩)), (33, .slice A1 l1.length c1), (34, .int .i64 (l1.length : Int)), (35, .int .i64 x35_l1)] w) :
    ∀ (k : Nat) (x102_l2 : Int) (w : World), Sat w (rf w0) [O66 b47 r126.2, O66 b52 r135.2, O66 b57 r85.2.2.2, oar 54 (r0 (.int .i64)) 1 13 b41 y98] → colophonlaw07_CacheSame.l2 r85 y98 k x102_l2 = some out → WL Try.prog (cbody (cbody (cr (cr (cr (cr (cr (cr (cr (cr (cr (cr (cbody (cl (cr (cr (cbody (cbody (cr (cl (cr (cr (cr (cr (cr C6))))))))))))))))))))))))) Q 116 [(6, .pointer (some ⟨b47, 0, none⟩)), (7, .pointer (some ⟨b52, 0, none⟩)), (8, .pointer (some ⟨b57, 0, none⟩)), (9, .pointer (some ⟨b41, 0, none⟩)), (33, .slice A1 l1.length c1), (34, .int .i64 (l1.length : Int)), (35, .int .i64 x35_l1), (101, (aInts .i64 y98)), (102, .int .i64 x102_l2)] w := by
  intro k
  induction k with
  | zero => intro x102_l2 w hS H; exact absurd (show none = some out from H) (by simp)
  | succ k ih =>
    intro x102_l2 w hS H
    unfold colophonlaw07_CacheSame.l2 at H
    refine WL.round ?_
    refine WC.seq (by kernel_rfl) ?_
    refine WC.reg [0] (by kernel_rfl) (by kernel_rfl) ?_
    refine WR.runk [0] [] [6, 7, 8, 9, 33, 34, 35, 101, 102, 103] (L' := [(6, .pointer (some ⟨b47, 0, none⟩)), (7, .pointer (some ⟨b52, 0, none⟩)), (8, .pointer (some ⟨b57, 0, none⟩)), (9, .pointer (some ⟨b41, 0, none⟩)), (33, .slice A1 l1.length c1), (34, .int .i64 (l1.length : Int)), (35, .int .i64 x35_l1), (101, (aInts .i64 y98)), (102, .int .i64 x102_l2), (103, .bool (decide (x102_l2 < 13)))]) (w' := w) (by kernel_rfl) ?_
    refine WR.nil ?_
    refine At.go ?_
    refine WC.seq (by kernel_rfl) ?_
    refine WC.cond (by kernel_rfl) (decide (x102_l2 < 13)) (by kernel_rfl) (by kernel_rfl) (fun hb146 => ?_) (fun hb146 => ?_)
    · replace H := ite_t H hb146
      refine WC.skip (by kernel_rfl) ?_
      refine At.go ?_
      refine WC.seq (by kernel_rfl) ?_
      refine WC.block (by kernel_rfl) ?_
      refine WC.seq (by kernel_rfl) ?_
      refine WC.reg [0, 1, 2, 3] (by kernel_rfl) (by kernel_rfl) ?_
      refine WR.runk [0] [1, 2, 3] [6, 7, 8, 9, 33, 34, 35, 101, 102, 104] (L' := [(6, .pointer (some ⟨b47, 0, none⟩)), (7, .pointer (some ⟨b52, 0, none⟩)), (8, .pointer (some ⟨b57, 0, none⟩)), (9, .pointer (some ⟨b41, 0, none⟩)), (33, .slice A1 l1.length c1), (34, .int .i64 (l1.length : Int)), (35, .int .i64 x35_l1), (101, (aInts .i64 y98)), (102, .int .i64 x102_l2), (104, .int .i64 x102_l2)]) (w' := w) (by kernel_rfl) ?_
      obtain ⟨v147, e148, H⟩ := bind_ex H
      refine WR.st (St.ofP (PSt.idxAgg (t := 54) (e := 3) (kk := .i64) (k := .i64) (.tmp 101) (.tmp 102) (by kernel_rfl) (by kernel_rfl) (by kernel_rfl) (by kernel_rfl) (by kernel_rfl) hl145 (by kernel_rfl) (by kernel_rfl) e148 ?_))
      refine WR.runk [2, 3] [] [6, 7, 8, 9, 19, 20, 33, 34, 35, 101, 102] (L' := [(6, .pointer (some ⟨b47, 0, none⟩)), (7, .pointer (some ⟨b52, 0, none⟩)), (8, .pointer (some ⟨b57, 0, none⟩)), (9, .pointer (some ⟨b41, 0, none⟩)), (19, .int .i64 x102_l2), (20, .int .i64 v147), (33, .slice A1 l1.length c1), (34, .int .i64 (l1.length : Int)), (35, .int .i64 x35_l1), (101, (aInts .i64 y98)), (102, .int .i64 x102_l2)]) (w' := w) (by kernel_rfl) ?_
      refine WR.nil ?_
      refine At.go ?_
      refine WC.seq (by kernel_rfl) ?_
      refine WC.reg [0, 1, 2, 3, 4, 5, 6, 7] (by kernel_rfl) (by kernel_rfl) ?_
      refine WR.runk [0, 1, 2] [3, 4, 5, 6, 7] [6, 7, 8, 9, 19, 33, 34, 35, 101, 102, 108] (L' := [(6, .pointer (some ⟨b47, 0, none⟩)), (7, .pointer (some ⟨b52, 0, none⟩)), (8, .pointer (some ⟨b57, 0, none⟩)), (9, .pointer (some ⟨b41, 0, none⟩)), (19, .int .i64 x102_l2), (33, .slice A1 l1.length c1), (34, .int .i64 (l1.length : Int)), (35, .int .i64 x35_l1), (101, (aInts .i64 y98)), (102, .int .i64 x102_l2), (108, .bool (v147 == 1))]) (w' := w) (by kernel_rfl) ?_
      refine WR.split 108 (b := (v147 == 1)) (by kernel_rfl) (fun hb149 => ?_) (fun hb149 => ?_)
      · replace H := ite_t H hb149
        refine WR.runk [3, 4] [5, 6, 7] [6, 7, 8, 9, 33, 34, 35, 101, 102, 108, 109, 110] (L' := [(6, .pointer (some ⟨b47, 0, none⟩)), (7, .pointer (some ⟨b52, 0, none⟩)), (8, .pointer (some ⟨b57, 0, none⟩)), (9, .pointer (some ⟨b41, 0, none⟩)), (33, .slice A1 l1.length c1), (34, .int .i64 (l1.length : Int)), (35, .int .i64 x35_l1), (101, (aInts .i64 y98)), (102, .int .i64 x102_l2), (108, .bool true), (109, .pointer (some ⟨b57, 0, none⟩)), (110, .int .i64 x102_l2)]) (w' := w) (by kernel_rfl) ?_
        obtain ⟨r150, e151, H⟩ := bind_ex H
        refine WR.st (St.call (by kernel_rfl) (f := 14) (args := #[.pointer (some ⟨b57, 0, none⟩), .int .i64 x102_l2]) (by kernel_rfl) (cache_Cache_Has.calls w (.pointer (some ⟨b57, 0, none⟩)) (some r85.2.2.2) (Sat.rdAny 2 hS rfl (fun _ h => O66.rd _ _ _ h)) x102_l2 r150 e151) ?_)
        rintro _ w157 ⟨rfl, hS158⟩
        have hS : Sat w157 (rf w0) [O66 b47 r126.2, O66 b52 r135.2, O66 b57 r85.2.2.2, oar 54 (r0 (.int .i64)) 1 13 b41 y98] := hS.ext hS158
        refine WR.runk [6, 7] [] [6, 7, 8, 9, 33, 34, 35, 101, 102, 113] (L' := [(6, .pointer (some ⟨b47, 0, none⟩)), (7, .pointer (some ⟨b52, 0, none⟩)), (8, .pointer (some ⟨b57, 0, none⟩)), (9, .pointer (some ⟨b41, 0, none⟩)), (33, .slice A1 l1.length c1), (34, .int .i64 (l1.length : Int)), (35, .int .i64 x35_l1), (101, (aInts .i64 y98)), (102, .int .i64 x102_l2), (113, .bool (!r150))]) (w' := w157) (by kernel_rfl) ?_
        refine WR.nil ?_
        refine At.go ?_
        refine WC.cond (by kernel_rfl) (!r150) (by kernel_rfl) (by kernel_rfl) (fun hb159 => ?_) (fun hb159 => ?_)
        · replace H := ite_t H hb159
          refine WC.seq (by kernel_rfl) ?_
          refine WC.reg [0] (by kernel_rfl) (by kernel_rfl) ?_
          refine WR.runk [0] [] [4] (L' := [(4, .bool false)]) (w' := w157) (by kernel_rfl) ?_
          refine WR.nil ?_
          refine At.go ?_
          refine WC.ret (by kernel_rfl) ?_
          refine At.blockRet ?_
          refine At.thenRet ?_
          refine At.thenRet ?_
          obtain rfl := Option.some.inj H
          have hS : Sat w157 (rf w0) [O66 b47 r126.2, O66 b52 r135.2, O66 b57 r85.2.2.2, oar 54 (r0 (.int .i64)) 1 13 b41 y98] := hS.sel [0, 1, 2, 3] (by kernel_rfl)
          refine At.weaken [4] (L' := [(4, .bool false)]) (by kernel_rfl) ?_
          exact hn0 false _ rfl hS
        · replace H := ite_f H hb159
          refine WC.skip (by kernel_rfl) ?_
          refine At.blockNormal ?_
          refine At.go ?_
          refine WC.reg [0, 1] (by kernel_rfl) (by kernel_rfl) ?_
          refine WR.runk [0, 1] [] [6, 7, 8, 9, 33, 34, 35, 101, 102] (L' := [(6, .pointer (some ⟨b47, 0, none⟩)), (7, .pointer (some ⟨b52, 0, none⟩)), (8, .pointer (some ⟨b57, 0, none⟩)), (9, .pointer (some ⟨b41, 0, none⟩)), (33, .slice A1 l1.length c1), (34, .int .i64 (l1.length : Int)), (35, .int .i64 x35_l1), (101, (aInts .i64 y98)), (102, .int .i64 (wi (x102_l2 + 1)))]) (w' := w157) (by kernel_rfl) ?_
          refine WR.nil ?_
          have hS : Sat w157 (rf w0) [O66 b47 r126.2, O66 b52 r135.2, O66 b57 r85.2.2.2, oar 54 (r0 (.int .i64)) 1 13 b41 y98] := hS.sel [0, 1, 2, 3] (by kernel_rfl)
          refine At.again ?_
          refine WL.weaken [6, 7, 8, 9, 33, 34, 35, 101, 102] (L' := [(6, .pointer (some ⟨b47, 0, none⟩)), (7, .pointer (some ⟨b52, 0, none⟩)), (8, .pointer (some ⟨b57, 0, none⟩)), (9, .pointer (some ⟨b41, 0, none⟩)), (33, .slice A1 l1.length c1), (34, .int .i64 (l1.length : Int)), (35, .int .i64 x35_l1), (101, (aInts .i64 y98)), (102, .int .i64 (wi (x102_l2 + 1)))]) (by kernel_rfl) ?_
          exact ih (wi (x102_l2 + 1)) _ hS H
      · replace H := ite_f H hb149
        refine WR.runk [3, 4, 5, 6, 7] [] [6, 7, 8, 9, 33, 34, 35, 101, 102, 113] (L' := [(6, .pointer (some ⟨b47, 0, none⟩)), (7, .pointer (some ⟨b52, 0, none⟩)), (8, .pointer (some ⟨b57, 0, none⟩)), (9, .pointer (some ⟨b41, 0, none⟩)), (33, .slice A1 l1.length c1), (34, .int .i64 (l1.length : Int)), (35, .int .i64 x35_l1), (101, (aInts .i64 y98)), (102, .int .i64 x102_l2), (113, .bool false)]) (w' := w) (by kernel_rfl) ?_
        refine WR.nil ?_
        refine At.go ?_
        refine WC.condF (by kernel_rfl) (by kernel_rfl) (by kernel_rfl) ?_
        refine WC.skip (by kernel_rfl) ?_
        refine At.blockNormal ?_
        refine At.go ?_
        refine WC.reg [0, 1] (by kernel_rfl) (by kernel_rfl) ?_
        refine WR.runk [0, 1] [] [6, 7, 8, 9, 33, 34, 35, 101, 102] (L' := [(6, .pointer (some ⟨b47, 0, none⟩)), (7, .pointer (some ⟨b52, 0, none⟩)), (8, .pointer (some ⟨b57, 0, none⟩)), (9, .pointer (some ⟨b41, 0, none⟩)), (33, .slice A1 l1.length c1), (34, .int .i64 (l1.length : Int)), (35, .int .i64 x35_l1), (101, (aInts .i64 y98)), (102, .int .i64 (wi (x102_l2 + 1)))]) (w' := w) (by kernel_rfl) ?_
        refine WR.nil ?_
        have hS : Sat w (rf w0) [O66 b47 r126.2, O66 b52 r135.2, O66 b57 r85.2.2.2, oar 54 (r0 (.int .i64)) 1 13 b41 y98] := hS.sel [0, 1, 2, 3] (by kernel_rfl)
        refine At.again ?_
        refine WL.weaken [6, 7, 8, 9, 33, 34, 35, 101, 102] (L' := [(6, .pointer (some ⟨b47, 0, none⟩)), (7, .pointer (some ⟨b52, 0, none⟩)), (8, .pointer (some ⟨b57, 0, none⟩)), (9, .pointer (some ⟨b41, 0, none⟩)), (33, .slice A1 l1.length c1), (34, .int .i64 (l1.length : Int)), (35, .int .i64 x35_l1), (101, (aInts .i64 y98)), (102, .int .i64 (wi (x102_l2 + 1)))]) (by kernel_rfl) ?_
        exact ih (wi (x102_l2 + 1)) _ hS H
    · replace H := ite_f H hb146
      refine WC.exit (by kernel_rfl) ?_
      refine At.thenExit ?_
      refine At.thenExit ?_
      obtain rfl := Option.some.inj H
      have hS : Sat w (rf w0) [O66 b47 r126.2, O66 b52 r135.2, O66 b57 r85.2.2.2, oar 54 (r0 (.int .i64)) 1 13 b41 y98] := hS.sel [0, 1, 2, 3] (by kernel_rfl)
      refine At.weaken [6, 7, 8, 9, 33, 34, 35] (L' := [(6, .pointer (some ⟨b47, 0, none⟩)), (7, .pointer (some ⟨b52, 0, none⟩)), (8, .pointer (some ⟨b57, 0, none⟩)), (9, .pointer (some ⟨b41, 0, none⟩)), (33, .slice A1 l1.length c1), (34, .int .i64 (l1.length : Int)), (35, .int .i64 x35_l1)]) (by kernel_rfl) ?_
      exact hn1 () _ rfl hS
theorem colophonlaw07_CacheSame.l3_ok {Q} (w0 : World) (A1 : Option Addr) (c1 : Nat) (l1 : List Int) (b41 : Nat) (b47 : Nat) (b52 : Nat) (b57 : Nat) (x35_l1 : Int) (r63 : (List Int) × Bool × Int × ((Option ((List (List Int)) × (List Int) × (List Int))) × (List (Int × (List Int) × Bool × Int)) × Int × Int × Int)) (r74 : (List Int) × Bool × Int × ((Option ((List (List Int)) × (List Int) × (List Int))) × (List (Int × (List Int) × Bool × Int)) × Int × Int × Int)) (r85 : (List Int) × Bool × Int × ((Option ((List (List Int)) × (List Int) × (List Int))) × (List (Int × (List Int) × Bool × Int)) × Int × Int × Int)) (y98 : List Int) (hl170 : List.length y98 = 13) (out : Sum Bool Unit) (hn0 : ∀ (o0 : Bool) (w : World), out = (.inl o0) → Sat w (rf w0) [O66 b47 r63.2.2.2, O66 b52 r74.2.2.2, O66 b57 r85.2.2.2, oar 54 (r0 (.int .i64)) 1 13 b41 y98] → At Q .ret 116 [(4, .bool o0)] w) (hn1 : ∀ (o1 : Unit) (w : World), out = (.inr o1) → Sat w (rf w0) [O66 b47 r63.2.2.2, O66 b52 r74.2.2.2, O66 b57 r85.2.2.2, oar 54 (r0 (.int .i64)) 1 13 b41 y98] → At Q (.exit 2) 116 [(6, .pointer (some ⟨b47, 0, none⟩)), (7, .pointer (some ⟨b52, 0, none⟩)), (8, .pointer (some ⟨b57, 0, none⟩)), (9, .pointer (some ⟨b41, 0, none⟩)), (33, .slice A1 l1.length c1), (34, .int .i64 (l1.length : Int)), (35, .int .i64 x35_l1)] w) :
    ∀ (k : Nat) (x102_l3 : Int) (w : World), Sat w (rf w0) [O66 b47 r63.2.2.2, O66 b52 r74.2.2.2, O66 b57 r85.2.2.2, oar 54 (r0 (.int .i64)) 1 13 b41 y98] → colophonlaw07_CacheSame.l3 r85 y98 k x102_l3 = some out → WL Try.prog (cbody (cbody (cr (cr (cr (cr (cr (cr (cr (cr (cr (cr (cbody (cl (cr (cr (cbody (cbody (cr (cl (cr (cr (cr (cr (cr C6))))))))))))))))))))))))) Q 116 [(6, .pointer (some ⟨b47, 0, none⟩)), (7, .pointer (some ⟨b52, 0, none⟩)), (8, .pointer (some ⟨b57, 0, none⟩)), (9, .pointer (some ⟨b41, 0, none⟩)), (33, .slice A1 l1.length c1), (34, .int .i64 (l1.length : Int)), (35, .int .i64 x35_l1), (101, (aInts .i64 y98)), (102, .int .i64 x102_l3)] w := by
  intro k
  induction k with
  | zero => intro x102_l3 w hS H; exact absurd (show none = some out from H) (by simp)
  | succ k ih =>
    intro x102_l3 w hS H
    unfold colophonlaw07_CacheSame.l3 at H
    refine WL.round ?_
    refine WC.seq (by kernel_rfl) ?_
    refine WC.reg [0] (by kernel_rfl) (by kernel_rfl) ?_
    refine WR.runk [0] [] [6, 7, 8, 9, 33, 34, 35, 101, 102, 103] (L' := [(6, .pointer (some ⟨b47, 0, none⟩)), (7, .pointer (some ⟨b52, 0, none⟩)), (8, .pointer (some ⟨b57, 0, none⟩)), (9, .pointer (some ⟨b41, 0, none⟩)), (33, .slice A1 l1.length c1), (34, .int .i64 (l1.length : Int)), (35, .int .i64 x35_l1), (101, (aInts .i64 y98)), (102, .int .i64 x102_l3), (103, .bool (decide (x102_l3 < 13)))]) (w' := w) (by kernel_rfl) ?_
    refine WR.nil ?_
    refine At.go ?_
    refine WC.seq (by kernel_rfl) ?_
    refine WC.cond (by kernel_rfl) (decide (x102_l3 < 13)) (by kernel_rfl) (by kernel_rfl) (fun hb171 => ?_) (fun hb171 => ?_)
    · replace H := ite_t H hb171
      refine WC.skip (by kernel_rfl) ?_
      refine At.go ?_
      refine WC.seq (by kernel_rfl) ?_
      refine WC.block (by kernel_rfl) ?_
      refine WC.seq (by kernel_rfl) ?_
      refine WC.reg [0, 1, 2, 3] (by kernel_rfl) (by kernel_rfl) ?_
      refine WR.runk [0] [1, 2, 3] [6, 7, 8, 9, 33, 34, 35, 101, 102, 104] (L' := [(6, .pointer (some ⟨b47, 0, none⟩)), (7, .pointer (some ⟨b52, 0, none⟩)), (8, .pointer (some ⟨b57, 0, none⟩)), (9, .pointer (some ⟨b41, 0, none⟩)), (33, .slice A1 l1.length c1), (34, .int .i64 (l1.length : Int)), (35, .int .i64 x35_l1), (101, (aInts .i64 y98)), (102, .int .i64 x102_l3), (104, .int .i64 x102_l3)]) (w' := w) (by kernel_rfl) ?_
      obtain ⟨v172, e173, H⟩ := bind_ex H
      refine WR.st (St.ofP (PSt.idxAgg (t := 54) (e := 3) (kk := .i64) (k := .i64) (.tmp 101) (.tmp 102) (by kernel_rfl) (by kernel_rfl) (by kernel_rfl) (by kernel_rfl) (by kernel_rfl) hl170 (by kernel_rfl) (by kernel_rfl) e173 ?_))
      refine WR.runk [2, 3] [] [6, 7, 8, 9, 19, 20, 33, 34, 35, 101, 102] (L' := [(6, .pointer (some ⟨b47, 0, none⟩)), (7, .pointer (some ⟨b52, 0, none⟩)), (8, .pointer (some ⟨b57, 0, none⟩)), (9, .pointer (some ⟨b41, 0, none⟩)), (19, .int .i64 x102_l3), (20, .int .i64 v172), (33, .slice A1 l1.length c1), (34, .int .i64 (l1.length : Int)), (35, .int .i64 x35_l1), (101, (aInts .i64 y98)), (102, .int .i64 x102_l3)]) (w' := w) (by kernel_rfl) ?_
      refine WR.nil ?_
      refine At.go ?_
      refine WC.seq (by kernel_rfl) ?_
      refine WC.reg [0, 1, 2, 3, 4, 5, 6, 7] (by kernel_rfl) (by kernel_rfl) ?_
      refine WR.runk [0, 1, 2] [3, 4, 5, 6, 7] [6, 7, 8, 9, 19, 33, 34, 35, 101, 102, 108] (L' := [(6, .pointer (some ⟨b47, 0, none⟩)), (7, .pointer (some ⟨b52, 0, none⟩)), (8, .pointer (some ⟨b57, 0, none⟩)), (9, .pointer (some ⟨b41, 0, none⟩)), (19, .int .i64 x102_l3), (33, .slice A1 l1.length c1), (34, .int .i64 (l1.length : Int)), (35, .int .i64 x35_l1), (101, (aInts .i64 y98)), (102, .int .i64 x102_l3), (108, .bool (v172 == 1))]) (w' := w) (by kernel_rfl) ?_
      refine WR.split 108 (b := (v172 == 1)) (by kernel_rfl) (fun hb174 => ?_) (fun hb174 => ?_)
      · replace H := ite_t H hb174
        refine WR.runk [3, 4] [5, 6, 7] [6, 7, 8, 9, 33, 34, 35, 101, 102, 108, 109, 110] (L' := [(6, .pointer (some ⟨b47, 0, none⟩)), (7, .pointer (some ⟨b52, 0, none⟩)), (8, .pointer (some ⟨b57, 0, none⟩)), (9, .pointer (some ⟨b41, 0, none⟩)), (33, .slice A1 l1.length c1), (34, .int .i64 (l1.length : Int)), (35, .int .i64 x35_l1), (101, (aInts .i64 y98)), (102, .int .i64 x102_l3), (108, .bool true), (109, .pointer (some ⟨b57, 0, none⟩)), (110, .int .i64 x102_l3)]) (w' := w) (by kernel_rfl) ?_
        obtain ⟨r175, e176, H⟩ := bind_ex H
        refine WR.st (St.call (by kernel_rfl) (f := 14) (args := #[.pointer (some ⟨b57, 0, none⟩), .int .i64 x102_l3]) (by kernel_rfl) (cache_Cache_Has.calls w (.pointer (some ⟨b57, 0, none⟩)) (some r85.2.2.2) (Sat.rdAny 2 hS rfl (fun _ h => O66.rd _ _ _ h)) x102_l3 r175 e176) ?_)
        rintro _ w182 ⟨rfl, hS183⟩
        have hS : Sat w182 (rf w0) [O66 b47 r63.2.2.2, O66 b52 r74.2.2.2, O66 b57 r85.2.2.2, oar 54 (r0 (.int .i64)) 1 13 b41 y98] := hS.ext hS183
        refine WR.runk [6, 7] [] [6, 7, 8, 9, 33, 34, 35, 101, 102, 113] (L' := [(6, .pointer (some ⟨b47, 0, none⟩)), (7, .pointer (some ⟨b52, 0, none⟩)), (8, .pointer (some ⟨b57, 0, none⟩)), (9, .pointer (some ⟨b41, 0, none⟩)), (33, .slice A1 l1.length c1), (34, .int .i64 (l1.length : Int)), (35, .int .i64 x35_l1), (101, (aInts .i64 y98)), (102, .int .i64 x102_l3), (113, .bool (!r175))]) (w' := w182) (by kernel_rfl) ?_
        refine WR.nil ?_
        refine At.go ?_
        refine WC.cond (by kernel_rfl) (!r175) (by kernel_rfl) (by kernel_rfl) (fun hb184 => ?_) (fun hb184 => ?_)
        · replace H := ite_t H hb184
          refine WC.seq (by kernel_rfl) ?_
          refine WC.reg [0] (by kernel_rfl) (by kernel_rfl) ?_
          refine WR.runk [0] [] [4] (L' := [(4, .bool false)]) (w' := w182) (by kernel_rfl) ?_
          refine WR.nil ?_
          refine At.go ?_
          refine WC.ret (by kernel_rfl) ?_
          refine At.blockRet ?_
          refine At.thenRet ?_
          refine At.thenRet ?_
          obtain rfl := Option.some.inj H
          have hS : Sat w182 (rf w0) [O66 b47 r63.2.2.2, O66 b52 r74.2.2.2, O66 b57 r85.2.2.2, oar 54 (r0 (.int .i64)) 1 13 b41 y98] := hS.sel [0, 1, 2, 3] (by kernel_rfl)
          refine At.weaken [4] (L' := [(4, .bool false)]) (by kernel_rfl) ?_
          exact hn0 false _ rfl hS
        · replace H := ite_f H hb184
          refine WC.skip (by kernel_rfl) ?_
          refine At.blockNormal ?_
          refine At.go ?_
          refine WC.reg [0, 1] (by kernel_rfl) (by kernel_rfl) ?_
          refine WR.runk [0, 1] [] [6, 7, 8, 9, 33, 34, 35, 101, 102] (L' := [(6, .pointer (some ⟨b47, 0, none⟩)), (7, .pointer (some ⟨b52, 0, none⟩)), (8, .pointer (some ⟨b57, 0, none⟩)), (9, .pointer (some ⟨b41, 0, none⟩)), (33, .slice A1 l1.length c1), (34, .int .i64 (l1.length : Int)), (35, .int .i64 x35_l1), (101, (aInts .i64 y98)), (102, .int .i64 (wi (x102_l3 + 1)))]) (w' := w182) (by kernel_rfl) ?_
          refine WR.nil ?_
          have hS : Sat w182 (rf w0) [O66 b47 r63.2.2.2, O66 b52 r74.2.2.2, O66 b57 r85.2.2.2, oar 54 (r0 (.int .i64)) 1 13 b41 y98] := hS.sel [0, 1, 2, 3] (by kernel_rfl)
          refine At.again ?_
          refine WL.weaken [6, 7, 8, 9, 33, 34, 35, 101, 102] (L' := [(6, .pointer (some ⟨b47, 0, none⟩)), (7, .pointer (some ⟨b52, 0, none⟩)), (8, .pointer (some ⟨b57, 0, none⟩)), (9, .pointer (some ⟨b41, 0, none⟩)), (33, .slice A1 l1.length c1), (34, .int .i64 (l1.length : Int)), (35, .int .i64 x35_l1), (101, (aInts .i64 y98)), (102, .int .i64 (wi (x102_l3 + 1)))]) (by kernel_rfl) ?_
          exact ih (wi (x102_l3 + 1)) _ hS H
      · replace H := ite_f H hb174
        refine WR.runk [3, 4, 5, 6, 7] [] [6, 7, 8, 9, 33, 34, 35, 101, 102, 113] (L' := [(6, .pointer (some ⟨b47, 0, none⟩)), (7, .pointer (some ⟨b52, 0, none⟩)), (8, .pointer (some ⟨b57, 0, none⟩)), (9, .pointer (some ⟨b41, 0, none⟩)), (33, .slice A1 l1.length c1), (34, .int .i64 (l1.length : Int)), (35, .int .i64 x35_l1), (101, (aInts .i64 y98)), (102, .int .i64 x102_l3), (113, .bool false)]) (w' := w) (by kernel_rfl) ?_
        refine WR.nil ?_
        refine At.go ?_
        refine WC.condF (by kernel_rfl) (by kernel_rfl) (by kernel_rfl) ?_
        refine WC.skip (by kernel_rfl) ?_
        refine At.blockNormal ?_
        refine At.go ?_
        refine WC.reg [0, 1] (by kernel_rfl) (by kernel_rfl) ?_
        refine WR.runk [0, 1] [] [6, 7, 8, 9, 33, 34, 35, 101, 102] (L' := [(6, .pointer (some ⟨b47, 0, none⟩)), (7, .pointer (some ⟨b52, 0, none⟩)), (8, .pointer (some ⟨b57, 0, none⟩)), (9, .pointer (some ⟨b41, 0, none⟩)), (33, .slice A1 l1.length c1), (34, .int .i64 (l1.length : Int)), (35, .int .i64 x35_l1), (101, (aInts .i64 y98)), (102, .int .i64 (wi (x102_l3 + 1)))]) (w' := w) (by kernel_rfl) ?_
        refine WR.nil ?_
        have hS : Sat w (rf w0) [O66 b47 r63.2.2.2, O66 b52 r74.2.2.2, O66 b57 r85.2.2.2, oar 54 (r0 (.int .i64)) 1 13 b41 y98] := hS.sel [0, 1, 2, 3] (by kernel_rfl)
        refine At.again ?_
        refine WL.weaken [6, 7, 8, 9, 33, 34, 35, 101, 102] (L' := [(6, .pointer (some ⟨b47, 0, none⟩)), (7, .pointer (some ⟨b52, 0, none⟩)), (8, .pointer (some ⟨b57, 0, none⟩)), (9, .pointer (some ⟨b41, 0, none⟩)), (33, .slice A1 l1.length c1), (34, .int .i64 (l1.length : Int)), (35, .int .i64 x35_l1), (101, (aInts .i64 y98)), (102, .int .i64 (wi (x102_l3 + 1)))]) (by kernel_rfl) ?_
        exact ih (wi (x102_l3 + 1)) _ hS H
    · replace H := ite_f H hb171
      refine WC.exit (by kernel_rfl) ?_
      refine At.thenExit ?_
      refine At.thenExit ?_
      obtain rfl := Option.some.inj H
      have hS : Sat w (rf w0) [O66 b47 r63.2.2.2, O66 b52 r74.2.2.2, O66 b57 r85.2.2.2, oar 54 (r0 (.int .i64)) 1 13 b41 y98] := hS.sel [0, 1, 2, 3] (by kernel_rfl)
      refine At.weaken [6, 7, 8, 9, 33, 34, 35] (L' := [(6, .pointer (some ⟨b47, 0, none⟩)), (7, .pointer (some ⟨b52, 0, none⟩)), (8, .pointer (some ⟨b57, 0, none⟩)), (9, .pointer (some ⟨b41, 0, none⟩)), (33, .slice A1 l1.length c1), (34, .int .i64 (l1.length : Int)), (35, .int .i64 x35_l1)]) (by kernel_rfl) ?_
      exact hn1 () _ rfl hS
theorem colophonlaw07_CacheSame.l1_ok {Q} (w0 : World) (A1 : Option Addr) (c1 : Nat) (l1 : List Int) (b41 : Nat) (b47 : Nat) (b52 : Nat) (b57 : Nat) (R1 : rdS (r0 (.int .i64)) 1 (hp w0) A1 c1 l1) (out : Sum (((Option ((List (List Int)) × (List Int) × (List Int))) × (List (Int × (List Int) × Bool × Int)) × Int × Int × Int) × ((Option ((List (List Int)) × (List Int) × (List Int))) × (List (Int × (List Int) × Bool × Int)) × Int × Int × Int) × ((Option ((List (List Int)) × (List Int) × (List Int))) × (List (Int × (List Int) × Bool × Int)) × Int × Int × Int) × (List Int)) (Bool × ((Option ((List (List Int)) × (List Int) × (List Int))) × (List (Int × (List Int) × Bool × Int)) × Int × Int × Int) × ((Option ((List (List Int)) × (List Int) × (List Int))) × (List (Int × (List Int) × Bool × Int)) × Int × Int × Int) × ((Option ((List (List Int)) × (List Int) × (List Int))) × (List (Int × (List Int) × Bool × Int)) × Int × Int × Int) × (List Int))) (hn0 : ∀ (o0 : ((Option ((List (List Int)) × (List Int) × (List Int))) × (List (Int × (List Int) × Bool × Int)) × Int × Int × Int) × ((Option ((List (List Int)) × (List Int) × (List Int))) × (List (Int × (List Int) × Bool × Int)) × Int × Int × Int) × ((Option ((List (List Int)) × (List Int) × (List Int))) × (List (Int × (List Int) × Bool × Int)) × Int × Int × Int) × (List Int)) (w : World), out = (.inl o0) → Sat w (rf w0) [O66 b47 o0.1, O66 b52 o0.2.1, O66 b57 o0.2.2.1, oar 54 (r0 (.int .i64)) 1 13 b41 o0.2.2.2] → At Q (.exit 0) 116 [] w) (hn1 : ∀ (o1 : Bool × ((Option ((List (List Int)) × (List Int) × (List Int))) × (List (Int × (List Int) × Bool × Int)) × Int × Int × Int) × ((Option ((List (List Int)) × (List Int) × (List Int))) × (List (Int × (List Int) × Bool × Int)) × Int × Int × Int) × ((Option ((List (List Int)) × (List Int) × (List Int))) × (List (Int × (List Int) × Bool × Int)) × Int × Int × Int) × (List Int)) (w : World), out = (.inr o1) → Sat w (rf w0) [O66 b47 o1.2.1, O66 b52 o1.2.2.1, O66 b57 o1.2.2.2.1, oar 54 (r0 (.int .i64)) 1 13 b41 o1.2.2.2.2] → At Q .ret 116 [(4, .bool o1.1)] w) :
    ∀ (k : Nat) (x35_l1 : Int) (q48_l1 : (Option ((List (List Int)) × (List Int) × (List Int))) × (List (Int × (List Int) × Bool × Int)) × Int × Int × Int) (q53_l1 : (Option ((List (List Int)) × (List Int) × (List Int))) × (List (Int × (List Int) × Bool × Int)) × Int × Int × Int) (q58_l1 : (Option ((List (List Int)) × (List Int) × (List Int))) × (List (Int × (List Int) × Bool × Int)) × Int × Int × Int) (q43_l1 : List Int) (w : World), Sat w (rf w0) [O66 b47 q48_l1, O66 b52 q53_l1, O66 b57 q58_l1, oar 54 (r0 (.int .i64)) 1 13 b41 q43_l1] → colophonlaw07_CacheSame.l1 l1 k x35_l1 q48_l1 q53_l1 q58_l1 q43_l1 = some out → WL Try.prog (cbody (cbody (cr (cl (cr (cr (cr (cr (cr C6))))))))) Q 116 [(6, .pointer (some ⟨b47, 0, none⟩)), (7, .pointer (some ⟨b52, 0, none⟩)), (8, .pointer (some ⟨b57, 0, none⟩)), (9, .pointer (some ⟨b41, 0, none⟩)), (33, .slice A1 l1.length c1), (34, .int .i64 (l1.length : Int)), (35, .int .i64 x35_l1)] w := by
  intro k
  induction k with
  | zero => intro x35_l1 q48_l1 q53_l1 q58_l1 q43_l1 w hS H; exact absurd (show none = some out from H) (by simp)
  | succ k ih =>
    intro x35_l1 q48_l1 q53_l1 q58_l1 q43_l1 w hS H
    unfold colophonlaw07_CacheSame.l1 at H
    refine WL.round ?_
    refine WC.seq (by kernel_rfl) ?_
    refine WC.reg [0] (by kernel_rfl) (by kernel_rfl) ?_
    refine WR.runk [0] [] [6, 7, 8, 9, 33, 34, 35, 36] (L' := [(6, .pointer (some ⟨b47, 0, none⟩)), (7, .pointer (some ⟨b52, 0, none⟩)), (8, .pointer (some ⟨b57, 0, none⟩)), (9, .pointer (some ⟨b41, 0, none⟩)), (33, .slice A1 l1.length c1), (34, .int .i64 (l1.length : Int)), (35, .int .i64 x35_l1), (36, .bool (decide (x35_l1 < (l1.length : Int))))]) (w' := w) (by kernel_rfl) ?_
    refine WR.nil ?_
    refine At.go ?_
    refine WC.seq (by kernel_rfl) ?_
    refine WC.cond (by kernel_rfl) (decide (x35_l1 < (l1.length : Int))) (by kernel_rfl) (by kernel_rfl) (fun hb59 => ?_) (fun hb59 => ?_)
    · replace H := ite_t H hb59
      refine WC.skip (by kernel_rfl) ?_
      refine At.go ?_
      refine WC.seq (by kernel_rfl) ?_
      refine WC.block (by kernel_rfl) ?_
      refine WC.seq (by kernel_rfl) ?_
      refine WC.reg [0, 1, 2, 3, 4] (by kernel_rfl) (by kernel_rfl) ?_
      refine WR.runk [0] [1, 2, 3, 4] [6, 7, 8, 9, 33, 34, 35, 37] (L' := [(6, .pointer (some ⟨b47, 0, none⟩)), (7, .pointer (some ⟨b52, 0, none⟩)), (8, .pointer (some ⟨b57, 0, none⟩)), (9, .pointer (some ⟨b41, 0, none⟩)), (33, .slice A1 l1.length c1), (34, .int .i64 (l1.length : Int)), (35, .int .i64 x35_l1), (37, .int .i64 x35_l1)]) (w' := w) (by kernel_rfl) ?_
      obtain ⟨v60, e61, H⟩ := bind_ex H
      refine WR.st (St.ofP (PSt.idx (k := .i64) (.tmp 33) (.tmp 35) (by kernel_rfl) (by kernel_rfl) E47 (by kernel_rfl) (by kernel_rfl) (rdS.up R1 hS.sub0) e61 ?_))
      refine WR.runk [] [2, 3, 4] [6, 7, 8, 9, 33, 34, 35, 37, 38] (L' := [(6, .pointer (some ⟨b47, 0, none⟩)), (7, .pointer (some ⟨b52, 0, none⟩)), (8, .pointer (some ⟨b57, 0, none⟩)), (9, .pointer (some ⟨b41, 0, none⟩)), (33, .slice A1 l1.length c1), (34, .int .i64 (l1.length : Int)), (35, .int .i64 x35_l1), (37, .int .i64 x35_l1), (38, .pointer (some (adr A1 x35_l1.toNat 1)))]) (w' := w) (by kernel_rfl) ?_
      refine WR.st (St.ofR (RSt.loadInt (t := 3) (.tmp 38) (by kernel_rfl) (by kernel_rfl) (by kernel_rfl) (by kernel_rfl) (rdS.up R1 hS.sub0) e61 ?_))
      refine WR.runk [3, 4] [] [6, 7, 8, 9, 10, 11, 33, 34, 35] (L' := [(6, .pointer (some ⟨b47, 0, none⟩)), (7, .pointer (some ⟨b52, 0, none⟩)), (8, .pointer (some ⟨b57, 0, none⟩)), (9, .pointer (some ⟨b41, 0, none⟩)), (10, .int .i64 x35_l1), (11, .int .i64 v60), (33, .slice A1 l1.length c1), (34, .int .i64 (l1.length : Int)), (35, .int .i64 x35_l1)]) (w' := w) (by kernel_rfl) ?_
      refine WR.nil ?_
      refine At.go ?_
      refine WC.seq (by kernel_rfl) ?_
      refine WC.seq (by kernel_rfl) ?_
      refine WC.reg [0, 1] (by kernel_rfl) (by kernel_rfl) ?_
      refine WR.runk [0, 1] [] [6, 7, 8, 9, 11, 33, 34, 35, 41] (L' := [(6, .pointer (some ⟨b47, 0, none⟩)), (7, .pointer (some ⟨b52, 0, none⟩)), (8, .pointer (some ⟨b57, 0, none⟩)), (9, .pointer (some ⟨b41, 0, none⟩)), (11, .int .i64 v60), (33, .slice A1 l1.length c1), (34, .int .i64 (l1.length : Int)), (35, .int .i64 x35_l1), (41, .bool (decide (x35_l1 ≥ 100)))]) (w' := w) (by kernel_rfl) ?_
      refine WR.nil ?_
      refine At.go ?_
      refine WC.cond (by kernel_rfl) (decide (x35_l1 ≥ 100)) (by kernel_rfl) (by kernel_rfl) (fun hb62 => ?_) (fun hb62 => ?_)
      · replace H := ite_t H hb62
        refine WC.exit (by kernel_rfl) ?_
        refine At.thenExit ?_
        refine At.miss (by kernel_rfl) ?_
        refine At.thenExit ?_
        refine At.thenExit ?_
        obtain rfl := Option.some.inj H
        have hS : Sat w (rf w0) [O66 b47 q48_l1, O66 b52 q53_l1, O66 b57 q58_l1, oar 54 (r0 (.int .i64)) 1 13 b41 q43_l1] := hS.sel [0, 1, 2, 3] (by kernel_rfl)
        refine At.weaken [] (L' := []) (by kernel_rfl) ?_
        exact hn0 (q48_l1, q53_l1, q58_l1, q43_l1) _ rfl hS
      · replace H := ite_f H hb62
        refine WC.skip (by kernel_rfl) ?_
        refine At.go ?_
        refine WC.seq (by kernel_rfl) ?_
        refine WC.reg [0, 1, 2, 3, 4] (by kernel_rfl) (by kernel_rfl) ?_
        refine WR.runk [0, 1, 2, 3, 4] [] [6, 7, 8, 9, 11, 12, 33, 34, 35] (L' := [(6, .pointer (some ⟨b47, 0, none⟩)), (7, .pointer (some ⟨b52, 0, none⟩)), (8, .pointer (some ⟨b57, 0, none⟩)), (9, .pointer (some ⟨b41, 0, none⟩)), (11, .int .i64 v60), (12, .int .i64 (wi (Int.tmod (IntKind.wrap .u64 v60) 13))), (33, .slice A1 l1.length c1), (34, .int .i64 (l1.length : Int)), (35, .int .i64 x35_l1)]) (w' := w) (by kernel_rfl) ?_
        refine WR.nil ?_
        refine At.go ?_
        refine WC.seq (by kernel_rfl) ?_
        refine WC.reg [0, 1, 2, 3, 4, 5, 6, 7, 8, 9] (by kernel_rfl) (by kernel_rfl) ?_
        refine WR.runk [0, 1] [2, 3, 4, 5, 6, 7, 8, 9] [6, 7, 8, 9, 11, 12, 33, 34, 35, 47, 48] (L' := [(6, .pointer (some ⟨b47, 0, none⟩)), (7, .pointer (some ⟨b52, 0, none⟩)), (8, .pointer (some ⟨b57, 0, none⟩)), (9, .pointer (some ⟨b41, 0, none⟩)), (11, .int .i64 v60), (12, .int .i64 (wi (Int.tmod (IntKind.wrap .u64 v60) 13))), (33, .slice A1 l1.length c1), (34, .int .i64 (l1.length : Int)), (35, .int .i64 x35_l1), (47, .pointer (some ⟨b47, 0, none⟩)), (48, .int .i64 (wi (Int.tmod (IntKind.wrap .u64 v60) 13)))]) (w' := w) (by kernel_rfl) ?_
        obtain ⟨r63, e64, H⟩ := bind_ex H
        obtain ⟨B69, hso68, hsub66, hcs67, hb65⟩ := Sat.lend [O66 b47 q48_l1] (cs := [O66 b52 q53_l1, O66 b57 q58_l1, oar 54 (r0 (.int .i64)) 1 13 b41 q43_l1]) hS
        refine WR.st (St.call (by kernel_rfl) (f := 10) (args := #[.pointer (some ⟨b47, 0, none⟩), .int .i64 (wi (Int.tmod (IntKind.wrap .u64 v60) 13))]) (by kernel_rfl) (cache_Cache_Hold.calls B69 w b47 q48_l1 hso68 (wi (Int.tmod (IntKind.wrap .u64 v60) 13)) r63 e64) ?_)
        rintro _ w70 ⟨A72, c73, rfl, hS71⟩
        have hS : Sat w70 (rf w0) [O66 b47 r63.2.2.2, osl 5 (r0 (.int .u8)) 1 A72 c73 r63.1, O66 b52 q53_l1, O66 b57 q58_l1, oar 54 (r0 (.int .i64)) 1 13 b41 q43_l1] := hb65 _ _ hS71
        refine WR.runk [3, 4, 5, 6, 7, 8, 9] [] [6, 7, 8, 9, 11, 12, 13, 14, 15, 33, 34, 35] (L' := [(6, .pointer (some ⟨b47, 0, none⟩)), (7, .pointer (some ⟨b52, 0, none⟩)), (8, .pointer (some ⟨b57, 0, none⟩)), (9, .pointer (some ⟨b41, 0, none⟩)), (11, .int .i64 v60), (12, .int .i64 (wi (Int.tmod (IntKind.wrap .u64 v60) 13))), (13, .slice A72 r63.1.length c73), (14, .bool r63.2.1), (15, .int .i64 r63.2.2.1), (33, .slice A1 l1.length c1), (34, .int .i64 (l1.length : Int)), (35, .int .i64 x35_l1)]) (w' := w70) (by kernel_rfl) ?_
        refine WR.nil ?_
        refine At.go ?_
        refine WC.seq (by kernel_rfl) ?_
        refine WC.reg [0, 1, 2, 3, 4, 5, 6, 7, 8, 9] (by kernel_rfl) (by kernel_rfl) ?_
        refine WR.runk [0, 1] [2, 3, 4, 5, 6, 7, 8, 9] [6, 7, 8, 9, 11, 12, 13, 14, 15, 33, 34, 35, 54, 55] (L' := [(6, .pointer (some ⟨b47, 0, none⟩)), (7, .pointer (some ⟨b52, 0, none⟩)), (8, .pointer (some ⟨b57, 0, none⟩)), (9, .pointer (some ⟨b41, 0, none⟩)), (11, .int .i64 v60), (12, .int .i64 (wi (Int.tmod (IntKind.wrap .u64 v60) 13))), (13, .slice A72 r63.1.length c73), (14, .bool r63.2.1), (15, .int .i64 r63.2.2.1), (33, .slice A1 l1.length c1), (34, .int .i64 (l1.length : Int)), (35, .int .i64 x35_l1), (54, .pointer (some ⟨b52, 0, none⟩)), (55, .int .i64 (wi (Int.tmod (IntKind.wrap .u64 v60) 13)))]) (w' := w70) (by kernel_rfl) ?_
        have hS : Sat w70 (rf w0) [O66 b52 q53_l1, O66 b47 r63.2.2.2, osl 5 (r0 (.int .u8)) 1 A72 c73 r63.1, O66 b57 q58_l1, oar 54 (r0 (.int .i64)) 1 13 b41 q43_l1] := hS.sel [2, 0, 1, 3, 4] (by kernel_rfl)
        obtain ⟨r74, e75, H⟩ := bind_ex H
        obtain ⟨B80, hso79, hsub77, hcs78, hb76⟩ := Sat.lend [O66 b52 q53_l1] (cs := [O66 b47 r63.2.2.2, osl 5 (r0 (.int .u8)) 1 A72 c73 r63.1, O66 b57 q58_l1, oar 54 (r0 (.int .i64)) 1 13 b41 q43_l1]) hS
        refine WR.st (St.call (by kernel_rfl) (f := 10) (args := #[.pointer (some ⟨b52, 0, none⟩), .int .i64 (wi (Int.tmod (IntKind.wrap .u64 v60) 13))]) (by kernel_rfl) (cache_Cache_Hold.calls B80 w70 b52 q53_l1 hso79 (wi (Int.tmod (IntKind.wrap .u64 v60) 13)) r74 e75) ?_)
        rintro _ w81 ⟨A83, c84, rfl, hS82⟩
        have hS : Sat w81 (rf w0) [O66 b52 r74.2.2.2, osl 5 (r0 (.int .u8)) 1 A83 c84 r74.1, O66 b47 r63.2.2.2, osl 5 (r0 (.int .u8)) 1 A72 c73 r63.1, O66 b57 q58_l1, oar 54 (r0 (.int .i64)) 1 13 b41 q43_l1] := hb76 _ _ hS82
        refine WR.runk [3, 4, 5, 6, 7, 8, 9] [] [6, 7, 8, 9, 11, 12, 13, 14, 15, 16, 17, 18, 33, 34, 35] (L' := [(6, .pointer (some ⟨b47, 0, none⟩)), (7, .pointer (some ⟨b52, 0, none⟩)), (8, .pointer (some ⟨b57, 0, none⟩)), (9, .pointer (some ⟨b41, 0, none⟩)), (11, .int .i64 v60), (12, .int .i64 (wi (Int.tmod (IntKind.wrap .u64 v60) 13))), (13, .slice A72 r63.1.length c73), (14, .bool r63.2.1), (15, .int .i64 r63.2.2.1), (16, .slice A83 r74.1.length c84), (17, .bool r74.2.1), (18, .int .i64 r74.2.2.1), (33, .slice A1 l1.length c1), (34, .int .i64 (l1.length : Int)), (35, .int .i64 x35_l1)]) (w' := w81) (by kernel_rfl) ?_
        refine WR.nil ?_
        refine At.go ?_
        refine WC.seq (by kernel_rfl) ?_
        refine WC.reg [0, 1, 2] (by kernel_rfl) (by kernel_rfl) ?_
        refine WR.runk [0, 1] [2] [6, 7, 8, 9, 11, 12, 13, 14, 15, 16, 17, 18, 33, 34, 35, 60, 61] (L' := [(6, .pointer (some ⟨b47, 0, none⟩)), (7, .pointer (some ⟨b52, 0, none⟩)), (8, .pointer (some ⟨b57, 0, none⟩)), (9, .pointer (some ⟨b41, 0, none⟩)), (11, .int .i64 v60), (12, .int .i64 (wi (Int.tmod (IntKind.wrap .u64 v60) 13))), (13, .slice A72 r63.1.length c73), (14, .bool r63.2.1), (15, .int .i64 r63.2.2.1), (16, .slice A83 r74.1.length c84), (17, .bool r74.2.1), (18, .int .i64 r74.2.2.1), (33, .slice A1 l1.length c1), (34, .int .i64 (l1.length : Int)), (35, .int .i64 x35_l1), (60, .pointer (some ⟨b57, 0, none⟩)), (61, .int .i64 (wi (Int.tmod (IntKind.wrap .u64 v60) 13)))]) (w' := w81) (by kernel_rfl) ?_
        have hS : Sat w81 (rf w0) [O66 b57 q58_l1, O66 b52 r74.2.2.2, osl 5 (r0 (.int .u8)) 1 A83 c84 r74.1, O66 b47 r63.2.2.2, osl 5 (r0 (.int .u8)) 1 A72 c73 r63.1, oar 54 (r0 (.int .i64)) 1 13 b41 q43_l1] := hS.sel [4, 0, 1, 2, 3, 5] (by kernel_rfl)
        obtain ⟨r85, e86, H⟩ := bind_ex H
        obtain ⟨B91, hso90, hsub88, hcs89, hb87⟩ := Sat.lend [O66 b57 q58_l1] (cs := [O66 b52 r74.2.2.2, osl 5 (r0 (.int .u8)) 1 A83 c84 r74.1, O66 b47 r63.2.2.2, osl 5 (r0 (.int .u8)) 1 A72 c73 r63.1, oar 54 (r0 (.int .i64)) 1 13 b41 q43_l1]) hS
        refine WR.st (St.call (by kernel_rfl) (f := 10) (args := #[.pointer (some ⟨b57, 0, none⟩), .int .i64 (wi (Int.tmod (IntKind.wrap .u64 v60) 13))]) (by kernel_rfl) (cache_Cache_Hold.calls B91 w81 b57 q58_l1 hso90 (wi (Int.tmod (IntKind.wrap .u64 v60) 13)) r85 e86) ?_)
        rintro _ w92 ⟨A94, c95, rfl, hS93⟩
        have hS : Sat w92 (rf w0) [O66 b57 r85.2.2.2, osl 5 (r0 (.int .u8)) 1 A94 c95 r85.1, O66 b52 r74.2.2.2, osl 5 (r0 (.int .u8)) 1 A83 c84 r74.1, O66 b47 r63.2.2.2, osl 5 (r0 (.int .u8)) 1 A72 c73 r63.1, oar 54 (r0 (.int .i64)) 1 13 b41 q43_l1] := hb87 _ _ hS93
        refine WR.runk [] [] [6, 7, 8, 9, 11, 12, 13, 14, 15, 16, 17, 18, 33, 34, 35] (L' := [(6, .pointer (some ⟨b47, 0, none⟩)), (7, .pointer (some ⟨b52, 0, none⟩)), (8, .pointer (some ⟨b57, 0, none⟩)), (9, .pointer (some ⟨b41, 0, none⟩)), (11, .int .i64 v60), (12, .int .i64 (wi (Int.tmod (IntKind.wrap .u64 v60) 13))), (13, .slice A72 r63.1.length c73), (14, .bool r63.2.1), (15, .int .i64 r63.2.2.1), (16, .slice A83 r74.1.length c84), (17, .bool r74.2.1), (18, .int .i64 r74.2.2.1), (33, .slice A1 l1.length c1), (34, .int .i64 (l1.length : Int)), (35, .int .i64 x35_l1)]) (w' := w92) (by kernel_rfl) ?_
        refine WR.nil ?_
        refine At.go ?_
        refine WC.seq (by kernel_rfl) ?_
        refine WC.reg [0, 1, 2] (by kernel_rfl) (by kernel_rfl) ?_
        refine WR.runk [0] [1, 2] [6, 7, 8, 9, 11, 12, 13, 14, 15, 16, 17, 18, 33, 34, 35, 63] (L' := [(6, .pointer (some ⟨b47, 0, none⟩)), (7, .pointer (some ⟨b52, 0, none⟩)), (8, .pointer (some ⟨b57, 0, none⟩)), (9, .pointer (some ⟨b41, 0, none⟩)), (11, .int .i64 v60), (12, .int .i64 (wi (Int.tmod (IntKind.wrap .u64 v60) 13))), (13, .slice A72 r63.1.length c73), (14, .bool r63.2.1), (15, .int .i64 r63.2.2.1), (16, .slice A83 r74.1.length c84), (17, .bool r74.2.1), (18, .int .i64 r74.2.2.1), (33, .slice A1 l1.length c1), (34, .int .i64 (l1.length : Int)), (35, .int .i64 x35_l1), (63, .int .i64 (wi (Int.tmod (IntKind.wrap .u64 v60) 13)))]) (w' := w92) (by kernel_rfl) ?_
        obtain ⟨v96, e97, H⟩ := bind_ex H
        refine WR.st (St.ofP (PSt.idxArr (k := .i64) (t := 54) (e := 3) (sz := 1) (b := b41) (.tmp 9) (.tmp 63) (by kernel_rfl) (by kernel_rfl) (by kernel_rfl) (by kernel_rfl) (by kernel_rfl) (by kernel_rfl) (by kernel_rfl) (Sat.oarAt 6 hS rfl).2 e97 ?_))
        refine WR.runk [] [2] [6, 7, 8, 9, 11, 12, 13, 14, 15, 16, 17, 18, 33, 34, 35, 64] (L' := [(6, .pointer (some ⟨b47, 0, none⟩)), (7, .pointer (some ⟨b52, 0, none⟩)), (8, .pointer (some ⟨b57, 0, none⟩)), (9, .pointer (some ⟨b41, 0, none⟩)), (11, .int .i64 v60), (12, .int .i64 (wi (Int.tmod (IntKind.wrap .u64 v60) 13))), (13, .slice A72 r63.1.length c73), (14, .bool r63.2.1), (15, .int .i64 r63.2.2.1), (16, .slice A83 r74.1.length c84), (17, .bool r74.2.1), (18, .int .i64 r74.2.2.1), (33, .slice A1 l1.length c1), (34, .int .i64 (l1.length : Int)), (35, .int .i64 x35_l1), (64, .pointer (some (adr (some ⟨b41, 0, none⟩) (wi (Int.tmod (IntKind.wrap .u64 v60) 13)).toNat 1)))]) (w' := w92) (by kernel_rfl) ?_
        have hS : Sat w92 (rf w0) [oar 54 (r0 (.int .i64)) 1 13 b41 q43_l1, O66 b57 r85.2.2.2, osl 5 (r0 (.int .u8)) 1 A94 c95 r85.1, O66 b52 r74.2.2.2, osl 5 (r0 (.int .u8)) 1 A83 c84 r74.1, O66 b47 r63.2.2.2, osl 5 (r0 (.int .u8)) 1 A72 c73 r63.1] := hS.sel [6, 0, 1, 2, 3, 4, 5] (by kernel_rfl)
        obtain ⟨y98, e99, H⟩ := bind_ex H
        obtain ⟨hl101, hS⟩ := oar.op hS
        refine WR.st (St.storeElem' (t := 3) (.tmp 64) (.const (.int .i64 1)) (by kernel_rfl) (by kernel_rfl) (by kernel_rfl) hS (by kernel_rfl) (by kernel_rfl) rfl e99 rfl (fun w100 hS => ?_))
        have hl102 := (set?_len e99).trans hl101
        have hS : Sat w100 (rf w0) [oar 54 (r0 (.int .i64)) 1 13 b41 y98, O66 b57 r85.2.2.2, osl 5 (r0 (.int .u8)) 1 A94 c95 r85.1, O66 b52 r74.2.2.2, osl 5 (r0 (.int .u8)) 1 A83 c84 r74.1, O66 b47 r63.2.2.2, osl 5 (r0 (.int .u8)) 1 A72 c73 r63.1] := oar.cl hl102 hS
        refine WR.runk [] [] [6, 7, 8, 9, 11, 12, 13, 14, 15, 16, 17, 18, 33, 34, 35] (L' := [(6, .pointer (some ⟨b47, 0, none⟩)), (7, .pointer (some ⟨b52, 0, none⟩)), (8, .pointer (some ⟨b57, 0, none⟩)), (9, .pointer (some ⟨b41, 0, none⟩)), (11, .int .i64 v60), (12, .int .i64 (wi (Int.tmod (IntKind.wrap .u64 v60) 13))), (13, .slice A72 r63.1.length c73), (14, .bool r63.2.1), (15, .int .i64 r63.2.2.1), (16, .slice A83 r74.1.length c84), (17, .bool r74.2.1), (18, .int .i64 r74.2.2.1), (33, .slice A1 l1.length c1), (34, .int .i64 (l1.length : Int)), (35, .int .i64 x35_l1)]) (w' := w100) (by kernel_rfl) ?_
        refine WR.nil ?_
        refine At.go ?_
        refine WC.seq (by kernel_rfl) ?_
        refine WC.seq (by kernel_rfl) ?_
        refine WC.reg [0, 1, 2, 3, 4, 5, 6, 7, 8, 9, 10, 11, 12, 13, 14, 15, 16, 17, 18, 19, 20, 21] (by kernel_rfl) (by kernel_rfl) ?_
        refine WR.runk [0, 1, 2, 3] [4, 5, 6, 7, 8, 9, 10, 11, 12, 13, 14, 15, 16, 17, 18, 19, 20, 21] [6, 7, 8, 9, 11, 12, 13, 15, 16, 18, 33, 34, 35, 68] (L' := [(6, .pointer (some ⟨b47, 0, none⟩)), (7, .pointer (some ⟨b52, 0, none⟩)), (8, .pointer (some ⟨b57, 0, none⟩)), (9, .pointer (some ⟨b41, 0, none⟩)), (11, .int .i64 v60), (12, .int .i64 (wi (Int.tmod (IntKind.wrap .u64 v60) 13))), (13, .slice A72 r63.1.length c73), (15, .int .i64 r63.2.2.1), (16, .slice A83 r74.1.length c84), (18, .int .i64 r74.2.2.1), (33, .slice A1 l1.length c1), (34, .int .i64 (l1.length : Int)), (35, .int .i64 x35_l1), (68, .bool (r63.2.1 != r74.2.1))]) (w' := w100) (by kernel_rfl) ?_
        refine WR.split 68 (b := (r63.2.1 != r74.2.1)) (by kernel_rfl) (fun hb103 => ?_) (fun hb103 => ?_)
        · replace H := ite_t H hb103
          refine WR.runk [4, 5, 6, 7, 8, 9, 10, 11, 12, 13, 14, 15, 16, 17, 18, 19, 20, 21] [] [6, 7, 8, 9, 11, 12, 33, 34, 35, 86] (L' := [(6, .pointer (some ⟨b47, 0, none⟩)), (7, .pointer (some ⟨b52, 0, none⟩)), (8, .pointer (some ⟨b57, 0, none⟩)), (9, .pointer (some ⟨b41, 0, none⟩)), (11, .int .i64 v60), (12, .int .i64 (wi (Int.tmod (IntKind.wrap .u64 v60) 13))), (33, .slice A1 l1.length c1), (34, .int .i64 (l1.length : Int)), (35, .int .i64 x35_l1), (86, .bool true)]) (w' := w100) (by kernel_rfl) ?_
          refine WR.nil ?_
          refine At.go ?_
          refine WC.condT (by kernel_rfl) (by kernel_rfl) (by kernel_rfl) ?_
          refine WC.seq (by kernel_rfl) ?_
          refine WC.reg [0] (by kernel_rfl) (by kernel_rfl) ?_
          refine WR.runk [0] [] [4] (L' := [(4, .bool false)]) (w' := w100) (by kernel_rfl) ?_
          refine WR.nil ?_
          refine At.go ?_
          refine WC.ret (by kernel_rfl) ?_
          refine At.thenRet ?_
          refine At.blockRet ?_
          refine At.thenRet ?_
          refine At.thenRet ?_
          obtain rfl := Option.some.inj H
          have hS : Sat w100 (rf w0) [O66 b47 r63.2.2.2, O66 b52 r74.2.2.2, O66 b57 r85.2.2.2, oar 54 (r0 (.int .i64)) 1 13 b41 y98] := hS.sel [5, 3, 1, 0] (by kernel_rfl)
          refine At.weaken [4] (L' := [(4, .bool false)]) (by kernel_rfl) ?_
          exact hn1 (false, r63.2.2.2, r74.2.2.2, r85.2.2.2, y98) _ rfl hS
        · replace H := ite_f H hb103
          refine WR.runk [4, 5, 6, 7, 8] [9, 10, 11, 12, 13, 14, 15, 16, 17, 18, 19, 20, 21] [6, 7, 8, 9, 11, 12, 13, 16, 33, 34, 35, 73] (L' := [(6, .pointer (some ⟨b47, 0, none⟩)), (7, .pointer (some ⟨b52, 0, none⟩)), (8, .pointer (some ⟨b57, 0, none⟩)), (9, .pointer (some ⟨b41, 0, none⟩)), (11, .int .i64 v60), (12, .int .i64 (wi (Int.tmod (IntKind.wrap .u64 v60) 13))), (13, .slice A72 r63.1.length c73), (16, .slice A83 r74.1.length c84), (33, .slice A1 l1.length c1), (34, .int .i64 (l1.length : Int)), (35, .int .i64 x35_l1), (73, .bool (r63.2.2.1 != r74.2.2.1))]) (w' := w100) (by kernel_rfl) ?_
          refine WR.split 73 (b := (r63.2.2.1 != r74.2.2.1)) (by kernel_rfl) (fun hb104 => ?_) (fun hb104 => ?_)
          · replace H := ite_t H hb104
            refine WR.runk [9, 10, 11, 12, 13, 14, 15, 16, 17, 18, 19, 20, 21] [] [6, 7, 8, 9, 11, 12, 33, 34, 35, 86] (L' := [(6, .pointer (some ⟨b47, 0, none⟩)), (7, .pointer (some ⟨b52, 0, none⟩)), (8, .pointer (some ⟨b57, 0, none⟩)), (9, .pointer (some ⟨b41, 0, none⟩)), (11, .int .i64 v60), (12, .int .i64 (wi (Int.tmod (IntKind.wrap .u64 v60) 13))), (33, .slice A1 l1.length c1), (34, .int .i64 (l1.length : Int)), (35, .int .i64 x35_l1), (86, .bool true)]) (w' := w100) (by kernel_rfl) ?_
            refine WR.nil ?_
            refine At.go ?_
            refine WC.condT (by kernel_rfl) (by kernel_rfl) (by kernel_rfl) ?_
            refine WC.seq (by kernel_rfl) ?_
            refine WC.reg [0] (by kernel_rfl) (by kernel_rfl) ?_
            refine WR.runk [0] [] [4] (L' := [(4, .bool false)]) (w' := w100) (by kernel_rfl) ?_
            refine WR.nil ?_
            refine At.go ?_
            refine WC.ret (by kernel_rfl) ?_
            refine At.thenRet ?_
            refine At.blockRet ?_
            refine At.thenRet ?_
            refine At.thenRet ?_
            obtain rfl := Option.some.inj H
            have hS : Sat w100 (rf w0) [O66 b47 r63.2.2.2, O66 b52 r74.2.2.2, O66 b57 r85.2.2.2, oar 54 (r0 (.int .i64)) 1 13 b41 y98] := hS.sel [5, 3, 1, 0] (by kernel_rfl)
            refine At.weaken [4] (L' := [(4, .bool false)]) (by kernel_rfl) ?_
            exact hn1 (false, r63.2.2.2, r74.2.2.2, r85.2.2.2, y98) _ rfl hS
          · replace H := ite_f H hb104
            refine WR.runk [9] [10, 11, 12, 13, 14, 15, 16, 17, 18, 19, 20, 21] [6, 7, 8, 9, 11, 12, 16, 33, 34, 35, 73, 74] (L' := [(6, .pointer (some ⟨b47, 0, none⟩)), (7, .pointer (some ⟨b52, 0, none⟩)), (8, .pointer (some ⟨b57, 0, none⟩)), (9, .pointer (some ⟨b41, 0, none⟩)), (11, .int .i64 v60), (12, .int .i64 (wi (Int.tmod (IntKind.wrap .u64 v60) 13))), (16, .slice A83 r74.1.length c84), (33, .slice A1 l1.length c1), (34, .int .i64 (l1.length : Int)), (35, .int .i64 x35_l1), (73, .bool false), (74, .slice A72 r63.1.length c73)]) (w' := w100) (by kernel_rfl) ?_
            refine WR.st (St.ofR (RSt.toStr (src := 31) (dst := 9) (e := 5) (.tmp 74) (by kernel_rfl) (by kernel_rfl) (by kernel_rfl) (by kernel_rfl) (by kernel_rfl) (by kernel_rfl) (Sat.rdAt 6 hS rfl) ?_))
            refine WR.runk [11] [12, 13, 14, 15, 16, 17, 18, 19, 20, 21] [6, 7, 8, 9, 11, 12, 33, 34, 35, 73, 75, 76] (L' := [(6, .pointer (some ⟨b47, 0, none⟩)), (7, .pointer (some ⟨b52, 0, none⟩)), (8, .pointer (some ⟨b57, 0, none⟩)), (9, .pointer (some ⟨b41, 0, none⟩)), (11, .int .i64 v60), (12, .int .i64 (wi (Int.tmod (IntKind.wrap .u64 v60) 13))), (33, .slice A1 l1.length c1), (34, .int .i64 (l1.length : Int)), (35, .int .i64 x35_l1), (73, .bool false), (75, .string (bs r63.1)), (76, .slice A83 r74.1.length c84)]) (w' := w100) (by kernel_rfl) ?_
            refine WR.st (St.ofR (RSt.toStr (src := 31) (dst := 9) (e := 5) (.tmp 76) (by kernel_rfl) (by kernel_rfl) (by kernel_rfl) (by kernel_rfl) (by kernel_rfl) (by kernel_rfl) (Sat.rdAt 4 hS rfl) ?_))
            refine WR.runk [13, 14, 15] [16, 17, 18, 19, 20, 21] [6, 7, 8, 9, 11, 12, 33, 34, 35, 80] (L' := [(6, .pointer (some ⟨b47, 0, none⟩)), (7, .pointer (some ⟨b52, 0, none⟩)), (8, .pointer (some ⟨b57, 0, none⟩)), (9, .pointer (some ⟨b41, 0, none⟩)), (11, .int .i64 v60), (12, .int .i64 (wi (Int.tmod (IntKind.wrap .u64 v60) 13))), (33, .slice A1 l1.length c1), (34, .int .i64 (l1.length : Int)), (35, .int .i64 x35_l1), (80, .bool (!((bs r63.1).toList == (bs r74.1).toList)))]) (w' := w100) (by kernel_rfl) ?_
            refine WR.split 80 (b := (!((bs r63.1).toList == (bs r74.1).toList))) (by kernel_rfl) (fun hb105 => ?_) (fun hb105 => ?_)
            · replace H := ite_t H hb105
              refine WR.runk [16, 17, 18, 19, 20, 21] [] [6, 7, 8, 9, 11, 12, 33, 34, 35, 86] (L' := [(6, .pointer (some ⟨b47, 0, none⟩)), (7, .pointer (some ⟨b52, 0, none⟩)), (8, .pointer (some ⟨b57, 0, none⟩)), (9, .pointer (some ⟨b41, 0, none⟩)), (11, .int .i64 v60), (12, .int .i64 (wi (Int.tmod (IntKind.wrap .u64 v60) 13))), (33, .slice A1 l1.length c1), (34, .int .i64 (l1.length : Int)), (35, .int .i64 x35_l1), (86, .bool true)]) (w' := w100) (by kernel_rfl) ?_
              refine WR.nil ?_
              refine At.go ?_
              refine WC.condT (by kernel_rfl) (by kernel_rfl) (by kernel_rfl) ?_
              refine WC.seq (by kernel_rfl) ?_
              refine WC.reg [0] (by kernel_rfl) (by kernel_rfl) ?_
              refine WR.runk [0] [] [4] (L' := [(4, .bool false)]) (w' := w100) (by kernel_rfl) ?_
              refine WR.nil ?_
              refine At.go ?_
              refine WC.ret (by kernel_rfl) ?_
              refine At.thenRet ?_
              refine At.blockRet ?_
              refine At.thenRet ?_
              refine At.thenRet ?_
              obtain rfl := Option.some.inj H
              have hS : Sat w100 (rf w0) [O66 b47 r63.2.2.2, O66 b52 r74.2.2.2, O66 b57 r85.2.2.2, oar 54 (r0 (.int .i64)) 1 13 b41 y98] := hS.sel [5, 3, 1, 0] (by kernel_rfl)
              refine At.weaken [4] (L' := [(4, .bool false)]) (by kernel_rfl) ?_
              exact hn1 (false, r63.2.2.2, r74.2.2.2, r85.2.2.2, y98) _ rfl hS
            · replace H := ite_f H hb105
              refine WR.runk [16] [17, 18, 19, 20, 21] [6, 7, 8, 9, 11, 12, 33, 34, 35, 80, 81] (L' := [(6, .pointer (some ⟨b47, 0, none⟩)), (7, .pointer (some ⟨b52, 0, none⟩)), (8, .pointer (some ⟨b57, 0, none⟩)), (9, .pointer (some ⟨b41, 0, none⟩)), (11, .int .i64 v60), (12, .int .i64 (wi (Int.tmod (IntKind.wrap .u64 v60) 13))), (33, .slice A1 l1.length c1), (34, .int .i64 (l1.length : Int)), (35, .int .i64 x35_l1), (80, .bool false), (81, .pointer (some ⟨b47, 0, none⟩))]) (w' := w100) (by kernel_rfl) ?_
              obtain ⟨r106, e107, H⟩ := bind_ex H
              refine WR.st (St.call (by kernel_rfl) (f := 15) (args := #[.pointer (some ⟨b47, 0, none⟩)]) (by kernel_rfl) (cache_Cache_Stats.calls w100 (.pointer (some ⟨b47, 0, none⟩)) (some r63.2.2.2) (Sat.rdAny 5 hS rfl (fun _ h => O66.rd _ _ _ h)) r106 e107) ?_)
              rintro _ w113 ⟨rfl, hS114⟩
              have hS : Sat w113 (rf w0) [oar 54 (r0 (.int .i64)) 1 13 b41 y98, O66 b57 r85.2.2.2, osl 5 (r0 (.int .u8)) 1 A94 c95 r85.1, O66 b52 r74.2.2.2, osl 5 (r0 (.int .u8)) 1 A83 c84 r74.1, O66 b47 r63.2.2.2, osl 5 (r0 (.int .u8)) 1 A72 c73 r63.1] := hS.ext hS114
              refine WR.runk [18] [19, 20, 21] [6, 7, 8, 9, 11, 12, 33, 34, 35, 80, 82, 83] (L' := [(6, .pointer (some ⟨b47, 0, none⟩)), (7, .pointer (some ⟨b52, 0, none⟩)), (8, .pointer (some ⟨b57, 0, none⟩)), (9, .pointer (some ⟨b41, 0, none⟩)), (11, .int .i64 v60), (12, .int .i64 (wi (Int.tmod (IntKind.wrap .u64 v60) 13))), (33, .slice A1 l1.length c1), (34, .int .i64 (l1.length : Int)), (35, .int .i64 x35_l1), (80, .bool false), (82, .agg #[.int .i64 r106.1, .int .i64 r106.2.1, .int .i64 r106.2.2.1, .int .i64 r106.2.2.2]), (83, .pointer (some ⟨b52, 0, none⟩))]) (w' := w113) (by kernel_rfl) ?_
              obtain ⟨r115, e116, H⟩ := bind_ex H
              refine WR.st (St.call (by kernel_rfl) (f := 15) (args := #[.pointer (some ⟨b52, 0, none⟩)]) (by kernel_rfl) (cache_Cache_Stats.calls w113 (.pointer (some ⟨b52, 0, none⟩)) (some r74.2.2.2) (Sat.rdAny 3 hS rfl (fun _ h => O66.rd _ _ _ h)) r115 e116) ?_)
              rintro _ w122 ⟨rfl, hS123⟩
              have hS : Sat w122 (rf w0) [oar 54 (r0 (.int .i64)) 1 13 b41 y98, O66 b57 r85.2.2.2, osl 5 (r0 (.int .u8)) 1 A94 c95 r85.1, O66 b52 r74.2.2.2, osl 5 (r0 (.int .u8)) 1 A83 c84 r74.1, O66 b47 r63.2.2.2, osl 5 (r0 (.int .u8)) 1 A72 c73 r63.1] := hS.ext hS123
              refine WR.runk [] [20, 21] [6, 7, 8, 9, 11, 12, 33, 34, 35, 80, 82, 84] (L' := [(6, .pointer (some ⟨b47, 0, none⟩)), (7, .pointer (some ⟨b52, 0, none⟩)), (8, .pointer (some ⟨b57, 0, none⟩)), (9, .pointer (some ⟨b41, 0, none⟩)), (11, .int .i64 v60), (12, .int .i64 (wi (Int.tmod (IntKind.wrap .u64 v60) 13))), (33, .slice A1 l1.length c1), (34, .int .i64 (l1.length : Int)), (35, .int .i64 x35_l1), (80, .bool false), (82, .agg #[.int .i64 r106.1, .int .i64 r106.2.1, .int .i64 r106.2.2.1, .int .i64 r106.2.2.2]), (84, .agg #[.int .i64 r115.1, .int .i64 r115.2.1, .int .i64 r115.2.2.1, .int .i64 r115.2.2.2])]) (w' := w122) (by kernel_rfl) ?_
              refine WR.st (St.ofP (PSt.eqInts (t := 44) (t2 := 44) (X := ([r106.1, r106.2.1, r106.2.2.1, r106.2.2.2] : List Int)) (Y := ([r115.1, r115.2.1, r115.2.2.1, r115.2.2.2] : List Int)) .neq (by decide) (.tmp 82) (.tmp 84) (by kernel_rfl) (by kernel_rfl) (by kernel_rfl) (by kernel_rfl) (by kernel_rfl) (by kernel_rfl) (by kernel_rfl) (by kernel_rfl) (by kernel_rfl) (by kernel_rfl) ?_))
              refine WR.runk [21] [] [6, 7, 8, 9, 11, 12, 33, 34, 35, 86] (L' := [(6, .pointer (some ⟨b47, 0, none⟩)), (7, .pointer (some ⟨b52, 0, none⟩)), (8, .pointer (some ⟨b57, 0, none⟩)), (9, .pointer (some ⟨b41, 0, none⟩)), (11, .int .i64 v60), (12, .int .i64 (wi (Int.tmod (IntKind.wrap .u64 v60) 13))), (33, .slice A1 l1.length c1), (34, .int .i64 (l1.length : Int)), (35, .int .i64 x35_l1), (86, .bool (!(([r106.1, r106.2.1, r106.2.2.1, r106.2.2.2] : List Int) == ([r115.1, r115.2.1, r115.2.2.1, r115.2.2.2] : List Int))))]) (w' := w122) (by kernel_rfl) ?_
              refine WR.nil ?_
              refine At.go ?_
              refine WC.cond (by kernel_rfl) (!(([r106.1, r106.2.1, r106.2.2.1, r106.2.2.2] : List Int) == ([r115.1, r115.2.1, r115.2.2.1, r115.2.2.2] : List Int))) (by kernel_rfl) (by kernel_rfl) (fun hb124 => ?_) (fun hb124 => ?_)
              · replace H := ite_t H hb124
                refine WC.seq (by kernel_rfl) ?_
                refine WC.reg [0] (by kernel_rfl) (by kernel_rfl) ?_
                refine WR.runk [0] [] [4] (L' := [(4, .bool false)]) (w' := w122) (by kernel_rfl) ?_
                refine WR.nil ?_
                refine At.go ?_
                refine WC.ret (by kernel_rfl) ?_
                refine At.thenRet ?_
                refine At.blockRet ?_
                refine At.thenRet ?_
                refine At.thenRet ?_
                obtain rfl := Option.some.inj H
                have hS : Sat w122 (rf w0) [O66 b47 r63.2.2.2, O66 b52 r74.2.2.2, O66 b57 r85.2.2.2, oar 54 (r0 (.int .i64)) 1 13 b41 y98] := hS.sel [5, 3, 1, 0] (by kernel_rfl)
                refine At.weaken [4] (L' := [(4, .bool false)]) (by kernel_rfl) ?_
                exact hn1 (false, r63.2.2.2, r74.2.2.2, r85.2.2.2, y98) _ rfl hS
              · replace H := ite_f H hb124
                refine WC.skip (by kernel_rfl) ?_
                refine At.go ?_
                refine WC.seq (by kernel_rfl) ?_
                refine WC.seq (by kernel_rfl) ?_
                refine WC.reg [0, 1, 2, 3, 4, 5, 6, 7, 8, 9, 10, 11, 12, 13] (by kernel_rfl) (by kernel_rfl) ?_
                refine WR.runk [0, 1, 2, 3, 4, 5] [6, 7, 8, 9, 10, 11, 12, 13] [6, 7, 8, 9, 12, 33, 34, 35, 92] (L' := [(6, .pointer (some ⟨b47, 0, none⟩)), (7, .pointer (some ⟨b52, 0, none⟩)), (8, .pointer (some ⟨b57, 0, none⟩)), (9, .pointer (some ⟨b41, 0, none⟩)), (12, .int .i64 (wi (Int.tmod (IntKind.wrap .u64 v60) 13))), (33, .slice A1 l1.length c1), (34, .int .i64 (l1.length : Int)), (35, .int .i64 x35_l1), (92, .bool (decide (Int.tmod (IntKind.wrap .u64 (Int.tdiv (IntKind.wrap .u64 v60) 13)) 3 > 0)))]) (w' := w122) (by kernel_rfl) ?_
                refine WR.split 92 (b := decide (Int.tmod (IntKind.wrap .u64 (Int.tdiv (IntKind.wrap .u64 v60) 13)) 3 > 0)) (by kernel_rfl) (fun hb125 => ?_) (fun hb125 => ?_)
                · replace H := ite_t H hb125
                  refine WR.runk [6, 7] [8, 9, 10, 11, 12, 13] [6, 7, 8, 9, 12, 33, 34, 35, 92, 93, 94] (L' := [(6, .pointer (some ⟨b47, 0, none⟩)), (7, .pointer (some ⟨b52, 0, none⟩)), (8, .pointer (some ⟨b57, 0, none⟩)), (9, .pointer (some ⟨b41, 0, none⟩)), (12, .int .i64 (wi (Int.tmod (IntKind.wrap .u64 v60) 13))), (33, .slice A1 l1.length c1), (34, .int .i64 (l1.length : Int)), (35, .int .i64 x35_l1), (92, .bool true), (93, .pointer (some ⟨b47, 0, none⟩)), (94, .int .i64 (wi (Int.tmod (IntKind.wrap .u64 v60) 13)))]) (w' := w122) (by kernel_rfl) ?_
                  have hS : Sat w122 (rf w0) [O66 b47 r63.2.2.2, oar 54 (r0 (.int .i64)) 1 13 b41 y98, O66 b57 r85.2.2.2, osl 5 (r0 (.int .u8)) 1 A94 c95 r85.1, O66 b52 r74.2.2.2, osl 5 (r0 (.int .u8)) 1 A83 c84 r74.1, osl 5 (r0 (.int .u8)) 1 A72 c73 r63.1] := hS.sel [5, 0, 1, 2, 3, 4, 6] (by kernel_rfl)
                  obtain ⟨r126, e127, H⟩ := bind_ex H
                  obtain ⟨B132, hso131, hsub129, hcs130, hb128⟩ := Sat.lend [O66 b47 r63.2.2.2] (cs := [oar 54 (r0 (.int .i64)) 1 13 b41 y98, O66 b57 r85.2.2.2, osl 5 (r0 (.int .u8)) 1 A94 c95 r85.1, O66 b52 r74.2.2.2, osl 5 (r0 (.int .u8)) 1 A83 c84 r74.1, osl 5 (r0 (.int .u8)) 1 A72 c73 r63.1]) hS
                  refine WR.st (St.call (by kernel_rfl) (f := 12) (args := #[.pointer (some ⟨b47, 0, none⟩), .int .i64 (wi (Int.tmod (IntKind.wrap .u64 v60) 13))]) (by kernel_rfl) (cache_Cache_Drop.calls B132 w122 b47 r63.2.2.2 hso131 (wi (Int.tmod (IntKind.wrap .u64 v60) 13)) r126 e127) ?_)
                  rintro _ w133 ⟨rfl, hS134⟩
                  have hS : Sat w133 (rf w0) [O66 b47 r126.2, oar 54 (r0 (.int .i64)) 1 13 b41 y98, O66 b57 r85.2.2.2, osl 5 (r0 (.int .u8)) 1 A94 c95 r85.1, O66 b52 r74.2.2.2, osl 5 (r0 (.int .u8)) 1 A83 c84 r74.1, osl 5 (r0 (.int .u8)) 1 A72 c73 r63.1] := hb128 _ _ hS134
                  refine WR.runk [9, 10] [11, 12, 13] [6, 7, 8, 9, 33, 34, 35, 92, 95, 96, 97] (L' := [(6, .pointer (some ⟨b47, 0, none⟩)), (7, .pointer (some ⟨b52, 0, none⟩)), (8, .pointer (some ⟨b57, 0, none⟩)), (9, .pointer (some ⟨b41, 0, none⟩)), (33, .slice A1 l1.length c1), (34, .int .i64 (l1.length : Int)), (35, .int .i64 x35_l1), (92, .bool true), (95, .bool r126.1), (96, .pointer (some ⟨b52, 0, none⟩)), (97, .int .i64 (wi (Int.tmod (IntKind.wrap .u64 v60) 13)))]) (w' := w133) (by kernel_rfl) ?_
                  have hS : Sat w133 (rf w0) [O66 b52 r74.2.2.2, O66 b47 r126.2, oar 54 (r0 (.int .i64)) 1 13 b41 y98, O66 b57 r85.2.2.2, osl 5 (r0 (.int .u8)) 1 A94 c95 r85.1, osl 5 (r0 (.int .u8)) 1 A83 c84 r74.1, osl 5 (r0 (.int .u8)) 1 A72 c73 r63.1] := hS.sel [4, 0, 1, 2, 3, 5, 6] (by kernel_rfl)
                  obtain ⟨r135, e136, H⟩ := bind_ex H
                  obtain ⟨B141, hso140, hsub138, hcs139, hb137⟩ := Sat.lend [O66 b52 r74.2.2.2] (cs := [O66 b47 r126.2, oar 54 (r0 (.int .i64)) 1 13 b41 y98, O66 b57 r85.2.2.2, osl 5 (r0 (.int .u8)) 1 A94 c95 r85.1, osl 5 (r0 (.int .u8)) 1 A83 c84 r74.1, osl 5 (r0 (.int .u8)) 1 A72 c73 r63.1]) hS
                  refine WR.st (St.call (by kernel_rfl) (f := 12) (args := #[.pointer (some ⟨b52, 0, none⟩), .int .i64 (wi (Int.tmod (IntKind.wrap .u64 v60) 13))]) (by kernel_rfl) (cache_Cache_Drop.calls B141 w133 b52 r74.2.2.2 hso140 (wi (Int.tmod (IntKind.wrap .u64 v60) 13)) r135 e136) ?_)
                  rintro _ w142 ⟨rfl, hS143⟩
                  have hS : Sat w142 (rf w0) [O66 b52 r135.2, O66 b47 r126.2, oar 54 (r0 (.int .i64)) 1 13 b41 y98, O66 b57 r85.2.2.2, osl 5 (r0 (.int .u8)) 1 A94 c95 r85.1, osl 5 (r0 (.int .u8)) 1 A83 c84 r74.1, osl 5 (r0 (.int .u8)) 1 A72 c73 r63.1] := hb137 _ _ hS143
                  refine WR.runk [12, 13] [] [6, 7, 8, 9, 33, 34, 35, 100] (L' := [(6, .pointer (some ⟨b47, 0, none⟩)), (7, .pointer (some ⟨b52, 0, none⟩)), (8, .pointer (some ⟨b57, 0, none⟩)), (9, .pointer (some ⟨b41, 0, none⟩)), (33, .slice A1 l1.length c1), (34, .int .i64 (l1.length : Int)), (35, .int .i64 x35_l1), (100, .bool (r126.1 != r135.1))]) (w' := w142) (by kernel_rfl) ?_
                  refine WR.nil ?_
                  refine At.go ?_
                  refine WC.cond (by kernel_rfl) (r126.1 != r135.1) (by kernel_rfl) (by kernel_rfl) (fun hb144 => ?_) (fun hb144 => ?_)
                  · replace H := ite_t H hb144
                    refine WC.seq (by kernel_rfl) ?_
                    refine WC.reg [0] (by kernel_rfl) (by kernel_rfl) ?_
                    refine WR.runk [0] [] [4] (L' := [(4, .bool false)]) (w' := w142) (by kernel_rfl) ?_
                    refine WR.nil ?_
                    refine At.go ?_
                    refine WC.ret (by kernel_rfl) ?_
                    refine At.thenRet ?_
                    refine At.blockRet ?_
                    refine At.thenRet ?_
                    refine At.thenRet ?_
                    obtain rfl := Option.some.inj H
                    have hS : Sat w142 (rf w0) [O66 b47 r126.2, O66 b52 r135.2, O66 b57 r85.2.2.2, oar 54 (r0 (.int .i64)) 1 13 b41 y98] := hS.sel [1, 0, 3, 2] (by kernel_rfl)
                    refine At.weaken [4] (L' := [(4, .bool false)]) (by kernel_rfl) ?_
                    exact hn1 (false, r126.2, r135.2, r85.2.2.2, y98) _ rfl hS
                  · replace H := ite_f H hb144
                    refine WC.skip (by kernel_rfl) ?_
                    refine At.go ?_
                    refine WC.seq (by kernel_rfl) ?_
                    refine WC.reg [0, 1] (by kernel_rfl) (by kernel_rfl) ?_
                    refine WR.runk [] [0, 1] [6, 7, 8, 9, 33, 34, 35] (L' := [(6, .pointer (some ⟨b47, 0, none⟩)), (7, .pointer (some ⟨b52, 0, none⟩)), (8, .pointer (some ⟨b57, 0, none⟩)), (9, .pointer (some ⟨b41, 0, none⟩)), (33, .slice A1 l1.length c1), (34, .int .i64 (l1.length : Int)), (35, .int .i64 x35_l1)]) (w' := w142) (by kernel_rfl) ?_
                    have hl145 : List.length y98 = 13 := (Sat.oarAt 2 hS rfl).2
                    refine WR.st (St.ofR (RSt.loadArr (t := 54) (kk := .i64) (m := 13) (.tmp 9) (by kernel_rfl) (by kernel_rfl) (by kernel_rfl) (by kernel_rfl) 2 hS rfl (by kernel_rfl) ?_))
                    refine WR.runk [1] [] [6, 7, 8, 9, 33, 34, 35, 101, 102] (L' := [(6, .pointer (some ⟨b47, 0, none⟩)), (7, .pointer (some ⟨b52, 0, none⟩)), (8, .pointer (some ⟨b57, 0, none⟩)), (9, .pointer (some ⟨b41, 0, none⟩)), (33, .slice A1 l1.length c1), (34, .int .i64 (l1.length : Int)), (35, .int .i64 x35_l1), (101, (aInts .i64 y98)), (102, .int .i64 0)]) (w' := w142) (by kernel_rfl) ?_
                    refine WR.nil ?_
                    refine At.go ?_
                    refine WC.block (by kernel_rfl) ?_
                    have hS : Sat w142 (rf w0) [O66 b47 r126.2, O66 b52 r135.2, O66 b57 r85.2.2.2, oar 54 (r0 (.int .i64)) 1 13 b41 y98] := hS.sel [1, 0, 3, 2] (by kernel_rfl)
                    obtain ⟨o160, e161, H⟩ := bind_ex H
                    refine WC.loop (by kernel_rfl) ?_
                    refine WL.weaken [6, 7, 8, 9, 33, 34, 35, 101, 102] (L' := [(6, .pointer (some ⟨b47, 0, none⟩)), (7, .pointer (some ⟨b52, 0, none⟩)), (8, .pointer (some ⟨b57, 0, none⟩)), (9, .pointer (some ⟨b41, 0, none⟩)), (33, .slice A1 l1.length c1), (34, .int .i64 (l1.length : Int)), (35, .int .i64 x35_l1), (101, (aInts .i64 y98)), (102, .int .i64 0)]) (by kernel_rfl) ?_
                    refine colophonlaw07_CacheSame.l2_ok w0 A1 c1 l1 b41 b47 b52 b57 x35_l1 r85 y98 r126 r135 hl145 o160 (fun o162 w164 ho165 hS => ?_) (fun o166 w168 ho169 hS => ?_) FU 0 _ hS e161
                    · subst ho165
                      dsimp only at H
                      refine At.blockRet ?_
                      refine At.blockRet ?_
                      refine At.thenRet ?_
                      refine At.thenRet ?_
                      obtain rfl := Option.some.inj H
                      have hS : Sat w164 (rf w0) [O66 b47 r126.2, O66 b52 r135.2, O66 b57 r85.2.2.2, oar 54 (r0 (.int .i64)) 1 13 b41 y98] := hS.sel [0, 1, 2, 3] (by kernel_rfl)
                      refine At.weaken [4] (L' := [(4, .bool o162)]) (by kernel_rfl) ?_
                      exact hn1 (o162, r126.2, r135.2, r85.2.2.2, y98) _ rfl hS
                    · subst ho169
                      dsimp only at H
                      refine At.hit ?_
                      refine At.blockNormal ?_
                      refine At.go ?_
                      refine WC.reg [0, 1] (by kernel_rfl) (by kernel_rfl) ?_
                      refine WR.runk [0, 1] [] [6, 7, 8, 9, 33, 34, 35] (L' := [(6, .pointer (some ⟨b47, 0, none⟩)), (7, .pointer (some ⟨b52, 0, none⟩)), (8, .pointer (some ⟨b57, 0, none⟩)), (9, .pointer (some ⟨b41, 0, none⟩)), (33, .slice A1 l1.length c1), (34, .int .i64 (l1.length : Int)), (35, .int .i64 (wi (x35_l1 + 1)))]) (w' := w168) (by kernel_rfl) ?_
                      refine WR.nil ?_
                      have hS : Sat w168 (rf w0) [O66 b47 r126.2, O66 b52 r135.2, O66 b57 r85.2.2.2, oar 54 (r0 (.int .i64)) 1 13 b41 y98] := hS.sel [0, 1, 2, 3] (by kernel_rfl)
                      refine At.again ?_
                      refine WL.weaken [6, 7, 8, 9, 33, 34, 35] (L' := [(6, .pointer (some ⟨b47, 0, none⟩)), (7, .pointer (some ⟨b52, 0, none⟩)), (8, .pointer (some ⟨b57, 0, none⟩)), (9, .pointer (some ⟨b41, 0, none⟩)), (33, .slice A1 l1.length c1), (34, .int .i64 (l1.length : Int)), (35, .int .i64 (wi (x35_l1 + 1)))]) (by kernel_rfl) ?_
                      exact ih (wi (x35_l1 + 1)) r126.2 r135.2 r85.2.2.2 y98 _ hS H
                · replace H := ite_f H hb125
                  refine WR.runk [6, 7, 8, 9, 10, 11, 12, 13] [] [6, 7, 8, 9, 33, 34, 35, 100] (L' := [(6, .pointer (some ⟨b47, 0, none⟩)), (7, .pointer (some ⟨b52, 0, none⟩)), (8, .pointer (some ⟨b57, 0, none⟩)), (9, .pointer (some ⟨b41, 0, none⟩)), (33, .slice A1 l1.length c1), (34, .int .i64 (l1.length : Int)), (35, .int .i64 x35_l1), (100, .bool false)]) (w' := w122) (by kernel_rfl) ?_
                  refine WR.nil ?_
                  refine At.go ?_
                  refine WC.condF (by kernel_rfl) (by kernel_rfl) (by kernel_rfl) ?_
                  refine WC.skip (by kernel_rfl) ?_
                  refine At.go ?_
                  refine WC.seq (by kernel_rfl) ?_
                  refine WC.reg [0, 1] (by kernel_rfl) (by kernel_rfl) ?_
                  have hl170 : List.length y98 = 13 := (Sat.oarAt 0 hS rfl).2
                  refine WR.st (St.ofR (RSt.loadArr (t := 54) (kk := .i64) (m := 13) (.tmp 9) (by kernel_rfl) (by kernel_rfl) (by kernel_rfl) (by kernel_rfl) 0 hS rfl (by kernel_rfl) ?_))
                  refine WR.runk [1] [] [6, 7, 8, 9, 33, 34, 35, 101, 102] (L' := [(6, .pointer (some ⟨b47, 0, none⟩)), (7, .pointer (some ⟨b52, 0, none⟩)), (8, .pointer (some ⟨b57, 0, none⟩)), (9, .pointer (some ⟨b41, 0, none⟩)), (33, .slice A1 l1.length c1), (34, .int .i64 (l1.length : Int)), (35, .int .i64 x35_l1), (101, (aInts .i64 y98)), (102, .int .i64 0)]) (w' := w122) (by kernel_rfl) ?_
                  refine WR.nil ?_
                  refine At.go ?_
                  refine WC.block (by kernel_rfl) ?_
                  have hS : Sat w122 (rf w0) [O66 b47 r63.2.2.2, O66 b52 r74.2.2.2, O66 b57 r85.2.2.2, oar 54 (r0 (.int .i64)) 1 13 b41 y98] := hS.sel [5, 3, 1, 0] (by kernel_rfl)
                  obtain ⟨o185, e186, H⟩ := bind_ex H
                  refine WC.loop (by kernel_rfl) ?_
                  refine WL.weaken [6, 7, 8, 9, 33, 34, 35, 101, 102] (L' := [(6, .pointer (some ⟨b47, 0, none⟩)), (7, .pointer (some ⟨b52, 0, none⟩)), (8, .pointer (some ⟨b57, 0, none⟩)), (9, .pointer (some ⟨b41, 0, none⟩)), (33, .slice A1 l1.length c1), (34, .int .i64 (l1.length : Int)), (35, .int .i64 x35_l1), (101, (aInts .i64 y98)), (102, .int .i64 0)]) (by kernel_rfl) ?_
                  refine colophonlaw07_CacheSame.l3_ok w0 A1 c1 l1 b41 b47 b52 b57 x35_l1 r63 r74 r85 y98 hl170 o185 (fun o187 w189 ho190 hS => ?_) (fun o191 w193 ho194 hS => ?_) FU 0 _ hS e186
                  · subst ho190
                    dsimp only at H
                    refine At.blockRet ?_
                    refine At.blockRet ?_
                    refine At.thenRet ?_
                    refine At.thenRet ?_
                    obtain rfl := Option.some.inj H
                    have hS : Sat w189 (rf w0) [O66 b47 r63.2.2.2, O66 b52 r74.2.2.2, O66 b57 r85.2.2.2, oar 54 (r0 (.int .i64)) 1 13 b41 y98] := hS.sel [0, 1, 2, 3] (by kernel_rfl)
                    refine At.weaken [4] (L' := [(4, .bool o187)]) (by kernel_rfl) ?_
                    exact hn1 (o187, r63.2.2.2, r74.2.2.2, r85.2.2.2, y98) _ rfl hS
                  · subst ho194
                    dsimp only at H
                    refine At.hit ?_
                    refine At.blockNormal ?_
                    refine At.go ?_
                    refine WC.reg [0, 1] (by kernel_rfl) (by kernel_rfl) ?_
                    refine WR.runk [0, 1] [] [6, 7, 8, 9, 33, 34, 35] (L' := [(6, .pointer (some ⟨b47, 0, none⟩)), (7, .pointer (some ⟨b52, 0, none⟩)), (8, .pointer (some ⟨b57, 0, none⟩)), (9, .pointer (some ⟨b41, 0, none⟩)), (33, .slice A1 l1.length c1), (34, .int .i64 (l1.length : Int)), (35, .int .i64 (wi (x35_l1 + 1)))]) (w' := w193) (by kernel_rfl) ?_
                    refine WR.nil ?_
                    have hS : Sat w193 (rf w0) [O66 b47 r63.2.2.2, O66 b52 r74.2.2.2, O66 b57 r85.2.2.2, oar 54 (r0 (.int .i64)) 1 13 b41 y98] := hS.sel [0, 1, 2, 3] (by kernel_rfl)
                    refine At.again ?_
                    refine WL.weaken [6, 7, 8, 9, 33, 34, 35] (L' := [(6, .pointer (some ⟨b47, 0, none⟩)), (7, .pointer (some ⟨b52, 0, none⟩)), (8, .pointer (some ⟨b57, 0, none⟩)), (9, .pointer (some ⟨b41, 0, none⟩)), (33, .slice A1 l1.length c1), (34, .int .i64 (l1.length : Int)), (35, .int .i64 (wi (x35_l1 + 1)))]) (by kernel_rfl) ?_
                    exact ih (wi (x35_l1 + 1)) r63.2.2.2 r74.2.2.2 r85.2.2.2 y98 _ hS H
    · replace H := ite_f H hb59
      refine WC.exit (by kernel_rfl) ?_
      refine At.thenExit ?_
      refine At.thenExit ?_
      obtain rfl := Option.some.inj H
      have hS : Sat w (rf w0) [O66 b47 q48_l1, O66 b52 q53_l1, O66 b57 q58_l1, oar 54 (r0 (.int .i64)) 1 13 b41 q43_l1] := hS.sel [0, 1, 2, 3] (by kernel_rfl)
      refine At.weaken [] (L' := []) (by kernel_rfl) ?_
      exact hn0 (q48_l1, q53_l1, q58_l1, q43_l1) _ rfl hS
theorem colophonlaw07_CacheSame.calls (w0 : World) (a0 : Int) (A1 : Option Addr) (c1 : Nat) (l1 : List Int) (R1 : rdS (r0 (.int .i64)) 1 (hp w0) A1 c1 l1) (r : Bool) (H : colophonlaw07_CacheSame.f a0 l1 = some r) :
    Calls Try.prog 6 #[.int .i64 a0, .slice A1 l1.length c1] w0 (fun e w' => ∃ v, e = .returned v ∧ colophonlaw07_CacheSame.post w0 r v w') := by
  have hS : Sat w0 (rf w0) [] := Sat.start w0
  unfold colophonlaw07_CacheSame.f at H
  refine calls_of_WC (vs := [.int .i64 a0, .slice A1 l1.length c1]) Try.func6 (c := C6) (n := 116) (by kernel_rfl) (by kernel_rfl) (by kernel_rfl) ?_
  refine WC.seq (by kernel_rfl) ?_
  refine WC.reg [0] (by kernel_rfl) (by kernel_rfl) ?_
  refine WR.runk [0] [] [0, 1] (L' := [(0, .int .i64 a0), (1, .slice A1 l1.length c1)]) (w' := w0) (by kernel_rfl) ?_
  refine WR.nil ?_
  refine At.go ?_
  refine WC.seq (by kernel_rfl) ?_
  refine WC.seq (by kernel_rfl) ?_
  refine WC.reg [0, 1] (by kernel_rfl) (by kernel_rfl) ?_
  obtain ⟨r1, e2, H⟩ := bind_ex H
  refine WR.st (St.call (by kernel_rfl) (f := 7) (args := #[]) (by kernel_rfl) (colophonlaw07_first.calls w0  r1 e2) ?_)
  rintro _ w8 ⟨rfl, hS9⟩
  have hS : Sat w8 (rf w0) [] := hS.ext hS9
  refine WR.runk [1] [] [0, 1, 22] (L' := [(0, .int .i64 a0), (1, .slice A1 l1.length c1), (22, .bool (!r1))]) (w' := w8) (by kernel_rfl) ?_
  refine WR.nil ?_
  refine At.go ?_
  refine WC.cond (by kernel_rfl) (!r1) (by kernel_rfl) (by kernel_rfl) (fun hb10 => ?_) (fun hb10 => ?_)
  · replace H := ite_t H hb10
    refine WC.seq (by kernel_rfl) ?_
    refine WC.reg [0] (by kernel_rfl) (by kernel_rfl) ?_
    refine WR.runk [0] [] [4] (L' := [(4, .bool false)]) (w' := w8) (by kernel_rfl) ?_
    refine WR.nil ?_
    refine At.go ?_
    refine WC.ret (by kernel_rfl) ?_
    refine At.thenRet ?_
    obtain rfl := Option.some.inj H
    have hS : Sat w8 (rf w0) [] := hS.sel [] (by kernel_rfl)
    exact At.body [.bool false] (by kernel_rfl) ⟨_, rfl, rfl, hS⟩
  · replace H := ite_f H hb10
    refine WC.skip (by kernel_rfl) ?_
    refine At.go ?_
    refine WC.seq (by kernel_rfl) ?_
    refine WC.reg [0, 1, 2, 3, 4, 5] (by kernel_rfl) (by kernel_rfl) ?_
    refine WR.runk [0, 1, 2, 3, 4, 5] [] [1, 5] (L' := [(1, .slice A1 l1.length c1), (5, .int .i64 (wi (1 + (wi (Int.tmod (IntKind.wrap .u64 a0) 5)))))]) (w' := w8) (by kernel_rfl) ?_
    refine WR.nil ?_
    refine At.go ?_
    refine WC.seq (by kernel_rfl) ?_
    refine WC.reg [0, 1, 2, 3, 4, 5, 6, 7] (by kernel_rfl) (by kernel_rfl) ?_
    refine WR.runk [0] [1, 2, 3, 4, 5, 6, 7] [1, 5, 28] (L' := [(1, .slice A1 l1.length c1), (5, .int .i64 (wi (1 + (wi (Int.tmod (IntKind.wrap .u64 a0) 5))))), (28, .int .i64 (wi (1 + (wi (Int.tmod (IntKind.wrap .u64 a0) 5)))))]) (w' := w8) (by kernel_rfl) ?_
    obtain ⟨r11, e12, H⟩ := bind_ex H
    refine WR.st (St.call (by kernel_rfl) (f := 8) (args := #[.int .i64 12, .int .i64 (wi (1 + (wi (Int.tmod (IntKind.wrap .u64 a0) 5))))]) (by kernel_rfl) (colophonlaw07_made.calls w8 12 (wi (1 + (wi (Int.tmod (IntKind.wrap .u64 a0) 5)))) r11 e12) ?_)
    rintro pv20 w18 ⟨_, rfl, hS19⟩
    have hS : Sat w18 (rf w0) [optP O66 pv20 r11] := hS.ext hS19
    refine WR.runk [2] [3, 4, 5, 6, 7] [1, 29, 30] (L' := [(1, .slice A1 l1.length c1), (29, pv20), (30, .int .i64 (wi (1 + (wi (Int.tmod (IntKind.wrap .u64 a0) 5)))))]) (w' := w18) (by kernel_rfl) ?_
    obtain ⟨r21, e22, H⟩ := bind_ex H
    refine WR.st (St.call (by kernel_rfl) (f := 8) (args := #[.int .i64 12, .int .i64 (wi (1 + (wi (Int.tmod (IntKind.wrap .u64 a0) 5))))]) (by kernel_rfl) (colophonlaw07_made.calls w18 12 (wi (1 + (wi (Int.tmod (IntKind.wrap .u64 a0) 5)))) r21 e22) ?_)
    rintro pv30 w28 ⟨_, rfl, hS29⟩
    have hS : Sat w28 (rf w0) [optP O66 pv30 r21, optP O66 pv20 r11] := hS.ext hS29
    refine WR.runk [] [4, 5, 6, 7] [1, 29, 31] (L' := [(1, .slice A1 l1.length c1), (29, pv20), (31, pv30)]) (w' := w28) (by kernel_rfl) ?_
    obtain ⟨r31, e32, H⟩ := bind_ex H
    refine WR.st (St.call (by kernel_rfl) (f := 8) (args := #[.int .i64 12, .int .i64 13]) (by kernel_rfl) (colophonlaw07_made.calls w28 12 13 r31 e32) ?_)
    rintro pv40 w38 ⟨_, rfl, hS39⟩
    have hS : Sat w38 (rf w0) [optP O66 pv40 r31, optP O66 pv30 r21, optP O66 pv20 r11] := hS.ext hS39
    refine WR.runk [5, 6, 7] [] [1, 6, 7, 8] (L' := [(1, .slice A1 l1.length c1), (6, pv20), (7, pv30), (8, pv40)]) (w' := w38) (by kernel_rfl) ?_
    refine WR.nil ?_
    refine At.go ?_
    refine WC.seq (by kernel_rfl) ?_
    refine WC.reg [0] (by kernel_rfl) (by kernel_rfl) ?_
    refine WR.st (St.box hS (by kernel_rfl) (.cells ⟨List.replicate 13 (.int .i64 0)⟩ 54) (fun b41 => .pointer (some ⟨b41, 0, none⟩)) (fun _ => by kernel_rfl) (fun b41 w42 hS => ?_))
    have hS : Sat w42 (rf w0) [oar 54 (r0 (.int .i64)) 1 13 b41 (List.replicate 13 (0 : Int)), optP O66 pv40 r31, optP O66 pv30 r21, optP O66 pv20 r11] := oar.ofPts (κ := (.int .i64)) 13 0 [.int .i64 0] (by kernel_rfl) (by kernel_rfl) rfl (by kernel_rfl) hS
    refine WR.runk [] [] [1, 6, 7, 8, 9] (L' := [(1, .slice A1 l1.length c1), (6, pv20), (7, pv30), (8, pv40), (9, .pointer (some ⟨b41, 0, none⟩))]) (w' := w42) (by kernel_rfl) ?_
    refine WR.nil ?_
    refine At.go ?_
    refine WC.seq (by kernel_rfl) ?_
    refine WC.seq (by kernel_rfl) ?_
    refine WC.reg [0, 1, 2] (by kernel_rfl) (by kernel_rfl) ?_
    refine WR.runk [0, 1, 2] [] [6, 7, 8, 9, 33, 34, 35] (L' := [(6, pv20), (7, pv30), (8, pv40), (9, .pointer (some ⟨b41, 0, none⟩)), (33, .slice A1 l1.length c1), (34, .int .i64 (l1.length : Int)), (35, .int .i64 0)]) (w' := w42) (by kernel_rfl) ?_
    refine WR.nil ?_
    refine At.go ?_
    refine WC.block (by kernel_rfl) ?_
    have hS : Sat w42 (rf w0) [optP O66 pv20 r11, oar 54 (r0 (.int .i64)) 1 13 b41 (List.replicate 13 (0 : Int)), optP O66 pv40 r31, optP O66 pv30 r21] := hS.sel [3, 0, 1, 2] (by kernel_rfl)
    obtain ⟨y44, hr45, H⟩ := bind_ex H
    obtain ⟨b47, hv46, hN207⟩ := optP.some hS hr45
    subst hv46
    have hS : Sat w42 (rf w0) [O66 b47 y44, oar 54 (r0 (.int .i64)) 1 13 b41 (List.replicate 13 (0 : Int)), optP O66 pv40 r31, optP O66 pv30 r21] := hN207
    have hS : Sat w42 (rf w0) [optP O66 pv30 r21, O66 b47 y44, oar 54 (r0 (.int .i64)) 1 13 b41 (List.replicate 13 (0 : Int)), optP O66 pv40 r31] := hS.sel [3, 0, 1, 2] (by kernel_rfl)
    obtain ⟨y49, hr50, H⟩ := bind_ex H
    obtain ⟨b52, hv51, hN206⟩ := optP.some hS hr50
    subst hv51
    have hS : Sat w42 (rf w0) [O66 b52 y49, O66 b47 y44, oar 54 (r0 (.int .i64)) 1 13 b41 (List.replicate 13 (0 : Int)), optP O66 pv40 r31] := hN206
    have hS : Sat w42 (rf w0) [optP O66 pv40 r31, O66 b52 y49, O66 b47 y44, oar 54 (r0 (.int .i64)) 1 13 b41 (List.replicate 13 (0 : Int))] := hS.sel [3, 0, 1, 2] (by kernel_rfl)
    obtain ⟨y54, hr55, H⟩ := bind_ex H
    obtain ⟨b57, hv56, hN205⟩ := optP.some hS hr55
    subst hv56
    have hS : Sat w42 (rf w0) [O66 b57 y54, O66 b52 y49, O66 b47 y44, oar 54 (r0 (.int .i64)) 1 13 b41 (List.replicate 13 (0 : Int))] := hN205
    have hS : Sat w42 (rf w0) [O66 b47 y44, O66 b52 y49, O66 b57 y54, oar 54 (r0 (.int .i64)) 1 13 b41 (List.replicate 13 (0 : Int))] := hS.sel [2, 1, 0, 3] (by kernel_rfl)
    obtain ⟨o195, e196, H⟩ := bind_ex H
    refine WC.loop (by kernel_rfl) ?_
    refine WL.weaken [6, 7, 8, 9, 33, 34, 35] (L' := [(6, .pointer (some ⟨b47, 0, none⟩)), (7, .pointer (some ⟨b52, 0, none⟩)), (8, .pointer (some ⟨b57, 0, none⟩)), (9, .pointer (some ⟨b41, 0, none⟩)), (33, .slice A1 l1.length c1), (34, .int .i64 (l1.length : Int)), (35, .int .i64 0)]) (by kernel_rfl) ?_
    refine colophonlaw07_CacheSame.l1_ok w0 A1 c1 l1 b41 b47 b52 b57 R1 o195 (fun o197 w199 ho200 hS => ?_) (fun o201 w203 ho204 hS => ?_) FU 0 y44 y49 y54 (List.replicate 13 (0 : Int)) _ hS e196
    · subst ho200
      dsimp only at H
      refine At.hit ?_
      refine At.go ?_
      refine WC.seq (by kernel_rfl) ?_
      refine WC.reg [0] (by kernel_rfl) (by kernel_rfl) ?_
      refine WR.runk [0] [] [4] (L' := [(4, .bool true)]) (w' := w199) (by kernel_rfl) ?_
      refine WR.nil ?_
      refine At.go ?_
      refine WC.ret (by kernel_rfl) ?_
      obtain rfl := Option.some.inj H
      have hS : Sat w199 (rf w0) [] := hS.sel [] (by kernel_rfl)
      exact At.body [.bool true] (by kernel_rfl) ⟨_, rfl, rfl, hS⟩
    · subst ho204
      dsimp only at H
      refine At.blockRet ?_
      refine At.thenRet ?_
      obtain rfl := Option.some.inj H
      have hS : Sat w203 (rf w0) [] := hS.sel [] (by kernel_rfl)
      exact At.body [.bool o201.1] (by kernel_rfl) ⟨_, rfl, rfl, hS⟩
end Go.Proofs.Ytbcdcpkofgfofaa
