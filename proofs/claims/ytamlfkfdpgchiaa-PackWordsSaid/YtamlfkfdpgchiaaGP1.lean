/-
  Printed by gen.py (my own tool): for each Go function a plain Lean function and the proof that a call of it does what that function says.
-/
import Derived.Test.YtamlfkfdpgchiaaProg
import Derived.Test.YtamlfkfdpgchiaaGM
set_option linter.unusedVariables false
set_option linter.unusedSimpArgs false
set_option maxRecDepth 100000
namespace Go.Proofs.Ytamlfkfdpgchiaa
open Go Go.Gol
theorem E32 : ElemInfo Try.prog 32 22 1 8 := ElemInfo.mk' (.int .u64 0) (by kernel_rfl) (by kernel_rfl) rfl
theorem E37 : ElemInfo Try.prog 37 40 2 16 := ElemInfo.mk' (.agg #[.int .i64 0, .int .u64 0]) (by kernel_rfl) (by kernel_rfl) rfl
theorem E49 : ElemInfo Try.prog 49 5 1 1 := ElemInfo.mk' (.int .u8 0) (by kernel_rfl) (by kernel_rfl) rfl
noncomputable abbrev C25 : Code := Try.f25.body.getD .skip
noncomputable abbrev C11 : Code := Try.f11.body.getD .skip
noncomputable abbrev C26 : Code := Try.f26.body.getD .skip
noncomputable abbrev C12 : Code := Try.f12.body.getD .skip
noncomputable abbrev C27 : Code := Try.f27.body.getD .skip
noncomputable abbrev C14 : Code := Try.f14.body.getD .skip
noncomputable abbrev C15 : Code := Try.f15.body.getD .skip
noncomputable abbrev C13 : Code := Try.f13.body.getD .skip
noncomputable abbrev C24 : Code := Try.f24.body.getD .skip
noncomputable abbrev C10 : Code := Try.f10.body.getD .skip
noncomputable abbrev C9 : Code := Try.f9.body.getD .skip
noncomputable abbrev C3 : Code := Try.f3.body.getD .skip
noncomputable abbrev C4 : Code := Try.f4.body.getD .skip
noncomputable abbrev C5 : Code := Try.f5.body.getD .skip
noncomputable abbrev C16 : Code := Try.f16.body.getD .skip
noncomputable abbrev C17 : Code := Try.f17.body.getD .skip
noncomputable abbrev C18 : Code := Try.f18.body.getD .skip
noncomputable abbrev C19 : Code := Try.f19.body.getD .skip
noncomputable abbrev C6 : Code := Try.f6.body.getD .skip
noncomputable abbrev C20 : Code := Try.f20.body.getD .skip
noncomputable abbrev C21 : Code := Try.f21.body.getD .skip
noncomputable abbrev C23 : Code := Try.f23.body.getD .skip
noncomputable abbrev C22 : Code := Try.f22.body.getD .skip
noncomputable abbrev C7 : Code := Try.f7.body.getD .skip
noncomputable abbrev C8 : Code := Try.f8.body.getD .skip
def O55 (b : Nat) (x : Int × Int × (List Int)) : HP := fun H => ∃ a : (Option Addr × Nat), SepL [pts b (.cells #[.int .i64 x.1, .int .i64 x.2.1, .slice a.1 x.2.2.length a.2] 55 (0, 0)), osl 22 (r0 (.int .u64)) 1 a.1 a.2 x.2.2] H
theorem O55.open {w : World} {B : Rf} {cs : List HP} {b : Nat} {x : Int × Int × (List Int)} (h : Sat w B (O55 b x :: cs)) : ∃ (A0 : Option Addr) (c0 : Nat), Sat w B ([pts b (.cells #[.int .i64 x.1, .int .i64 x.2.1, .slice A0 x.2.2.length c0] 55 (0, 0)), osl 22 (r0 (.int .u64)) 1 A0 c0 x.2.2] ++ cs) := by
  obtain ⟨a, h⟩ := Sat.ex h
  exact ⟨a.1, a.2, Sat.op h⟩
theorem O55.close {w : World} {B : Rf} {cs : List HP} {b : Nat} (x : Int × Int × (List Int)) (A0 : Option Addr) (c0 : Nat) (h : Sat w B ([pts b (.cells #[.int .i64 x.1, .int .i64 x.2.1, .slice A0 x.2.2.length c0] 55 (0, 0)), osl 22 (r0 (.int .u64)) 1 A0 c0 x.2.2] ++ cs)) : Sat w B (O55 b x :: cs) := Sat.mono1 (c := SepL [pts b (.cells #[.int .i64 x.1, .int .i64 x.2.1, .slice A0 x.2.2.length c0] 55 (0, 0)), osl 22 (r0 (.int .u64)) 1 A0 c0 x.2.2]) (fun H h => ⟨(A0, c0), h⟩) (Sat.cl _ h)
theorem P55.open {H : Heap} {v : Value} {o : Option (Int × Int × (List Int))} (h : Gol.rd H (.ptr 55 (.pair (.int .i64) (.pair (.int .i64) (.slice 22 (.int .u64))))) [v] o) {y : Int × Int × (List Int)} (e : o = some y) : ∃ (b : Nat) (fr : Nat × Nat) (A0 : Option Addr) (c0 : Nat), v = .pointer (some ⟨b, 0, none⟩) ∧ H b = some (.cells #[.int .i64 y.1, .int .i64 y.2.1, .slice A0 y.2.2.length c0] 55 fr) ∧ rdS (r0 (.int .u64)) 1 H A0 c0 y.2.2 := by
  obtain ⟨b, cells, fr, hv, hb, hr⟩ := rd_ptr_some h e
  obtain ⟨_, _, e0, g0, z0, ⟨_, _, e1, g1, z1, ⟨A0, c0, z2, R0⟩⟩⟩ := hr
  have z0' := z0; replace z0' : _ = ([.int .i64 y.1] : List Value) := z0'
  have z1' := z1; replace z1' : _ = ([.int .i64 y.2.1] : List Value) := z1'
  have z2' := z2; replace z2' : _ = ([.slice A0 y.2.2.length c0] : List Value) := z2'
  have hc : cells = #[.int .i64 y.1, .int .i64 y.2.1, .slice A0 y.2.2.length c0] := by apply Array.ext'; rw [e0, z0', e1, z1', z2']; rfl
  subst hc
  exact ⟨b, fr, A0, c0, hv, hb, R0⟩
theorem P55.mk {H : Heap} {b : Nat} {fr : Nat × Nat} {y : Int × Int × (List Int)} {A0 : Option Addr} {c0 : Nat} (hb : H b = some (.cells #[.int .i64 y.1, .int .i64 y.2.1, .slice A0 y.2.2.length c0] 55 fr)) (R0 : rdS (r0 (.int .u64)) 1 H A0 c0 y.2.2) : Gol.rd H (.ptr 55 (.pair (.int .i64) (.pair (.int .i64) (.slice 22 (.int .u64))))) [.pointer (some ⟨b, 0, none⟩)] (some y) := ⟨b, _, fr, rfl, hb, ⟨[.int .i64 y.1], [.int .i64 y.2.1, .slice A0 y.2.2.length c0], rfl, rfl, rfl, ⟨[.int .i64 y.2.1], [.slice A0 y.2.2.length c0], rfl, rfl, rfl, ⟨A0, c0, rfl, (rdS.r0up R0)⟩⟩⟩⟩
theorem O55.rd (b : Nat) (x : Int × Int × (List Int)) (H : Heap) (h : O55 b x H) : Gol.rd H (.ptr 55 (.pair (.int .i64) (.pair (.int .i64) (.slice 22 (.int .u64))))) [.pointer (some ⟨b, 0, none⟩)] (some x) := by
  obtain ⟨a, h⟩ := h
  exact P55.mk (SepL.blockAt 0 h rfl) (SepL.rdAt 1 h rfl)
def O40 (b : Nat) (x : Int × Int) : HP := fun H => SepL [pts b (.cells #[.int .i64 x.1, .int .u64 x.2] 40 (0, 0))] H
theorem O40.open {w : World} {B : Rf} {cs : List HP} {b : Nat} {x : Int × Int} (h : Sat w B (O40 b x :: cs)) : Sat w B ([pts b (.cells #[.int .i64 x.1, .int .u64 x.2] 40 (0, 0))] ++ cs) := Sat.op h
theorem O40.close {w : World} {B : Rf} {cs : List HP} {b : Nat} (x : Int × Int) (h : Sat w B ([pts b (.cells #[.int .i64 x.1, .int .u64 x.2] 40 (0, 0))] ++ cs)) : Sat w B (O40 b x :: cs) := Sat.mono1 (c := SepL [pts b (.cells #[.int .i64 x.1, .int .u64 x.2] 40 (0, 0))]) (fun H h => h) (Sat.cl _ h)
theorem P40.open {H : Heap} {v : Value} {o : Option (Int × Int)} (h : Gol.rd H (.ptr 40 (.pair (.int .i64) (.int .u64))) [v] o) {y : Int × Int} (e : o = some y) : ∃ (b : Nat) (fr : Nat × Nat), v = .pointer (some ⟨b, 0, none⟩) ∧ H b = some (.cells #[.int .i64 y.1, .int .u64 y.2] 40 fr) := by
  obtain ⟨b, cells, fr, hv, hb, hr⟩ := rd_ptr_some h e
  obtain ⟨_, _, e0, g0, z0, z1⟩ := hr
  have z0' := z0; replace z0' : _ = ([.int .i64 y.1] : List Value) := z0'
  have z1' := z1; replace z1' : _ = ([.int .u64 y.2] : List Value) := z1'
  have hc : cells = #[.int .i64 y.1, .int .u64 y.2] := by apply Array.ext'; rw [e0, z0', z1']; rfl
  subst hc
  exact ⟨b, fr, hv, hb⟩
theorem P40.mk {H : Heap} {b : Nat} {fr : Nat × Nat} {y : Int × Int} (hb : H b = some (.cells #[.int .i64 y.1, .int .u64 y.2] 40 fr)) : Gol.rd H (.ptr 40 (.pair (.int .i64) (.int .u64))) [.pointer (some ⟨b, 0, none⟩)] (some y) := ⟨b, _, fr, rfl, hb, ⟨[.int .i64 y.1], [.int .u64 y.2], rfl, rfl, rfl, rfl⟩⟩
theorem O40.rd (b : Nat) (x : Int × Int) (H : Heap) (h : O40 b x H) : Gol.rd H (.ptr 40 (.pair (.int .i64) (.int .u64))) [.pointer (some ⟨b, 0, none⟩)] (some x) := by
  exact P40.mk (SepL.blockAt 0 h rfl)
/-! ### 25 colophon/pack.need -/
def pack_need.f (a0 : Int) (a1 : Int) : Option Int := some (wi (Int.tdiv (wi ((wi (a0 * a1)) + 63)) 64))
def pack_need.post (w : World) (r : Int) (v : Value) (w' : World) : Prop := v = (.int .i64 r : Value) ∧ Sat w' (rf w) []
theorem pack_need.calls (w0 : World) (a0 : Int) (a1 : Int) (r : Int) (H : pack_need.f a0 a1 = some r) :
    Calls Try.prog 25 #[.int .i64 a0, .int .i64 a1] w0 (fun e w' => ∃ v, e = .returned v ∧ pack_need.post w0 r v w') := by
  have hS : Sat w0 (rf w0) [] := Sat.start w0
  unfold pack_need.f at H
  refine calls_of_WC (vs := [.int .i64 a0, .int .i64 a1]) Try.func25 (c := C25) (n := 10) (by kernel_rfl) (by kernel_rfl) (by kernel_rfl) ?_
  refine WC.seq (by kernel_rfl) ?_
  refine WC.reg [0] (by kernel_rfl) (by kernel_rfl) ?_
  refine WR.runk [0] [] [0, 1] (L' := [(0, .int .i64 a0), (1, .int .i64 a1)]) (w' := w0) (by kernel_rfl) ?_
  refine WR.nil ?_
  refine At.go ?_
  refine WC.seq (by kernel_rfl) ?_
  refine WC.reg [0, 1, 2, 3, 4, 5] (by kernel_rfl) (by kernel_rfl) ?_
  refine WR.runk [0, 1, 2, 3, 4, 5] [] [4] (L' := [(4, .int .i64 (wi (Int.tdiv (wi ((wi (a0 * a1)) + 63)) 64)))]) (w' := w0) (by kernel_rfl) ?_
  refine WR.nil ?_
  refine At.go ?_
  refine WC.ret (by kernel_rfl) ?_
  obtain rfl := Option.some.inj H
  have hS : Sat w0 (rf w0) [] := hS.sel [] (by kernel_rfl)
  exact At.body [.int .i64 (wi (Int.tdiv (wi ((wi (a0 * a1)) + 63)) 64))] (by kernel_rfl) ⟨_, rfl, rfl, hS⟩
/-! ### 11 colophon/pack.New -/
def pack_New.f (a0 : Int) (a1 : Int) : Option ((Option (Int × Int × (List Int))) × Int) := (if decide (a0 < 1) then some (none, 2) else (if decide (a0 > 64) then some (none, 2) else (if decide (a1 < 0) then some (none, 2) else (if decide (a1 > 4194304) then some (none, 2) else ((pack_need.f a0 a1).bind fun r5 => ((make? 17592186044416 0 r5).bind fun y14 => some (some (a0, a1, y14), 0)))))))
def pack_New.post (w : World) (r : (Option (Int × Int × (List Int))) × Int) (v : Value) (w' : World) : Prop := ∃ (v0 : Value), v = .tuple #[v0, .int .i64 r.2] ∧ Sat w' (rf w) [optP O55 v0 r.1]
theorem pack_New.calls (w0 : World) (a0 : Int) (a1 : Int) (r : (Option (Int × Int × (List Int))) × Int) (H : pack_New.f a0 a1 = some r) :
    Calls Try.prog 11 #[.int .i64 a0, .int .i64 a1] w0 (fun e w' => ∃ v, e = .returned v ∧ pack_New.post w0 r v w') := by
  have hS : Sat w0 (rf w0) [] := Sat.start w0
  unfold pack_New.f at H
  refine calls_of_WC (vs := [.int .i64 a0, .int .i64 a1]) Try.func11 (c := C11) (n := 28) (by kernel_rfl) (by kernel_rfl) (by kernel_rfl) ?_
  refine WC.seq (by kernel_rfl) ?_
  refine WC.reg [0, 1] (by kernel_rfl) (by kernel_rfl) ?_
  refine WR.runk [0, 1] [] [0, 1] (L' := [(0, .int .i64 a0), (1, .int .i64 a1)]) (w' := w0) (by kernel_rfl) ?_
  refine WR.nil ?_
  refine At.go ?_
  refine WC.seq (by kernel_rfl) ?_
  refine WC.seq (by kernel_rfl) ?_
  refine WC.reg [0, 1, 2, 3, 4, 5, 6, 7, 8, 9, 10, 11, 12, 13] (by kernel_rfl) (by kernel_rfl) ?_
  refine WR.runk [0, 1, 2] [3, 4, 5, 6, 7, 8, 9, 10, 11, 12, 13] [0, 1, 8] (L' := [(0, .int .i64 a0), (1, .int .i64 a1), (8, .bool (decide (a0 < 1)))]) (w' := w0) (by kernel_rfl) ?_
  refine WR.split 8 (b := decide (a0 < 1)) (by kernel_rfl) (fun hb1 => ?_) (fun hb1 => ?_)
  · replace H := ite_t H hb1
    refine WR.runk [3, 4, 5, 6, 7, 8, 9, 10, 11, 12, 13] [] [0, 1, 19] (L' := [(0, .int .i64 a0), (1, .int .i64 a1), (19, .bool true)]) (w' := w0) (by kernel_rfl) ?_
    refine WR.nil ?_
    refine At.go ?_
    refine WC.condT (by kernel_rfl) (by kernel_rfl) (by kernel_rfl) ?_
    refine WC.seq (by kernel_rfl) ?_
    refine WC.reg [0, 1] (by kernel_rfl) (by kernel_rfl) ?_
    refine WR.runk [0, 1] [] [4, 5] (L' := [(4, .pointer none), (5, .int .i64 2)]) (w' := w0) (by kernel_rfl) ?_
    refine WR.nil ?_
    refine At.go ?_
    refine WC.ret (by kernel_rfl) ?_
    refine At.thenRet ?_
    obtain rfl := Option.some.inj H
    have hS := optP.nil (O := O55) hS
    have hS : Sat w0 (rf w0) [optP O55 (.pointer none) none] := hS.sel [0] (by kernel_rfl)
    exact At.body [.pointer none, .int .i64 2] (by kernel_rfl) ⟨_, rfl, _, rfl, hS⟩
  · replace H := ite_f H hb1
    refine WR.runk [3, 4, 5, 6] [7, 8, 9, 10, 11, 12, 13] [0, 1, 12] (L' := [(0, .int .i64 a0), (1, .int .i64 a1), (12, .bool (decide (a0 > 64)))]) (w' := w0) (by kernel_rfl) ?_
    refine WR.split 12 (b := decide (a0 > 64)) (by kernel_rfl) (fun hb2 => ?_) (fun hb2 => ?_)
    · replace H := ite_t H hb2
      refine WR.runk [7, 8, 9, 10, 11, 12, 13] [] [0, 1, 19] (L' := [(0, .int .i64 a0), (1, .int .i64 a1), (19, .bool true)]) (w' := w0) (by kernel_rfl) ?_
      refine WR.nil ?_
      refine At.go ?_
      refine WC.condT (by kernel_rfl) (by kernel_rfl) (by kernel_rfl) ?_
      refine WC.seq (by kernel_rfl) ?_
      refine WC.reg [0, 1] (by kernel_rfl) (by kernel_rfl) ?_
      refine WR.runk [0, 1] [] [4, 5] (L' := [(4, .pointer none), (5, .int .i64 2)]) (w' := w0) (by kernel_rfl) ?_
      refine WR.nil ?_
      refine At.go ?_
      refine WC.ret (by kernel_rfl) ?_
      refine At.thenRet ?_
      obtain rfl := Option.some.inj H
      have hS := optP.nil (O := O55) hS
      have hS : Sat w0 (rf w0) [optP O55 (.pointer none) none] := hS.sel [0] (by kernel_rfl)
      exact At.body [.pointer none, .int .i64 2] (by kernel_rfl) ⟨_, rfl, _, rfl, hS⟩
    · replace H := ite_f H hb2
      refine WR.runk [7, 8, 9, 10] [11, 12, 13] [0, 1, 16] (L' := [(0, .int .i64 a0), (1, .int .i64 a1), (16, .bool (decide (a1 < 0)))]) (w' := w0) (by kernel_rfl) ?_
      refine WR.split 16 (b := decide (a1 < 0)) (by kernel_rfl) (fun hb3 => ?_) (fun hb3 => ?_)
      · replace H := ite_t H hb3
        refine WR.runk [11, 12, 13] [] [0, 1, 19] (L' := [(0, .int .i64 a0), (1, .int .i64 a1), (19, .bool true)]) (w' := w0) (by kernel_rfl) ?_
        refine WR.nil ?_
        refine At.go ?_
        refine WC.condT (by kernel_rfl) (by kernel_rfl) (by kernel_rfl) ?_
        refine WC.seq (by kernel_rfl) ?_
        refine WC.reg [0, 1] (by kernel_rfl) (by kernel_rfl) ?_
        refine WR.runk [0, 1] [] [4, 5] (L' := [(4, .pointer none), (5, .int .i64 2)]) (w' := w0) (by kernel_rfl) ?_
        refine WR.nil ?_
        refine At.go ?_
        refine WC.ret (by kernel_rfl) ?_
        refine At.thenRet ?_
        obtain rfl := Option.some.inj H
        have hS := optP.nil (O := O55) hS
        have hS : Sat w0 (rf w0) [optP O55 (.pointer none) none] := hS.sel [0] (by kernel_rfl)
        exact At.body [.pointer none, .int .i64 2] (by kernel_rfl) ⟨_, rfl, _, rfl, hS⟩
      · replace H := ite_f H hb3
        refine WR.runk [11, 12, 13] [] [0, 1, 19] (L' := [(0, .int .i64 a0), (1, .int .i64 a1), (19, .bool (decide (a1 > 4194304)))]) (w' := w0) (by kernel_rfl) ?_
        refine WR.nil ?_
        refine At.go ?_
        refine WC.cond (by kernel_rfl) (decide (a1 > 4194304)) (by kernel_rfl) (by kernel_rfl) (fun hb4 => ?_) (fun hb4 => ?_)
        · replace H := ite_t H hb4
          refine WC.seq (by kernel_rfl) ?_
          refine WC.reg [0, 1] (by kernel_rfl) (by kernel_rfl) ?_
          refine WR.runk [0, 1] [] [4, 5] (L' := [(4, .pointer none), (5, .int .i64 2)]) (w' := w0) (by kernel_rfl) ?_
          refine WR.nil ?_
          refine At.go ?_
          refine WC.ret (by kernel_rfl) ?_
          refine At.thenRet ?_
          obtain rfl := Option.some.inj H
          have hS := optP.nil (O := O55) hS
          have hS : Sat w0 (rf w0) [optP O55 (.pointer none) none] := hS.sel [0] (by kernel_rfl)
          exact At.body [.pointer none, .int .i64 2] (by kernel_rfl) ⟨_, rfl, _, rfl, hS⟩
        · replace H := ite_f H hb4
          refine WC.skip (by kernel_rfl) ?_
          refine At.go ?_
          refine WC.seq (by kernel_rfl) ?_
          refine WC.reg [0, 1, 2, 3, 4, 5, 6, 7, 8, 9] (by kernel_rfl) (by kernel_rfl) ?_
          refine WR.runk [0, 1, 2, 3] [4, 5, 6, 7, 8, 9] [20, 21, 22, 23] (L' := [(20, .int .i64 a0), (21, .int .i64 a1), (22, .int .i64 a0), (23, .int .i64 a1)]) (w' := w0) (by kernel_rfl) ?_
          obtain ⟨r5, e6, H⟩ := bind_ex H
          refine WR.st (St.call (by kernel_rfl) (f := 25) (args := #[.int .i64 a0, .int .i64 a1]) (by kernel_rfl) (pack_need.calls w0 a0 a1 r5 e6) ?_)
          rintro _ w12 ⟨rfl, hS13⟩
          have hS : Sat w12 (rf w0) [] := hS.ext hS13
          refine WR.runk [] [5, 6, 7, 8, 9] [20, 21, 24] (L' := [(20, .int .i64 a0), (21, .int .i64 a1), (24, .int .i64 r5)]) (w' := w12) (by kernel_rfl) ?_
          obtain ⟨y14, e15, H⟩ := bind_ex H
          refine WR.st (St.make' (t := 32) (e := 22) (sz := 1) (bytes := 8) (k1 := .i64) (k2 := .i64) (R := (r0 (.int .u64))) (.tmp 24) (.tmp 24) (by kernel_rfl) (by kernel_rfl) (.int .u64 0) (by kernel_rfl) (by kernel_rfl) rfl (by kernel_rfl) hS (by kernel_rfl) (by kernel_rfl) 17592186044416 (by kernel_rfl) (by kernel_rfl) e15 (fun A16 c17 w18 hS => ?_))
          refine WR.runk [6] [7, 8, 9] [26] (L' := [(26, .agg #[.int .i64 a0, .int .i64 a1, .slice A16 y14.length c17])]) (w' := w18) (by kernel_rfl) ?_
          refine WR.st (St.box hS (by kernel_rfl) (.cells #[.int .i64 a0, .int .i64 a1, .slice A16 y14.length c17] 55) (fun b19 => .pointer (some ⟨b19, 0, none⟩)) (fun _ => by kernel_rfl) (fun b19 w20 hS => ?_))
          refine WR.runk [8, 9] [] [4, 5] (L' := [(4, .pointer (some ⟨b19, 0, none⟩)), (5, .int .i64 0)]) (w' := w20) (by kernel_rfl) ?_
          refine WR.nil ?_
          refine At.go ?_
          refine WC.ret (by kernel_rfl) ?_
          obtain rfl := Option.some.inj H
          have hS : Sat w20 (rf w0) [pts b19 (.cells #[.int .i64 a0, .int .i64 a1, .slice A16 y14.length c17] 55 (0, 0)), osl 22 (r0 (.int .u64)) 1 A16 c17 y14] := hS.sel [0, 1] (by kernel_rfl)
          have hS : Sat w20 (rf w0) [O55 b19 (a0, a1, y14)] := O55.close (a0, a1, y14) A16 c17 hS
          have hS : Sat w20 (rf w0) [optP O55 (.pointer (some ⟨b19, 0, none⟩)) (some (a0, a1, y14))] := optP.mk hS
          have hS : Sat w20 (rf w0) [optP O55 (.pointer (some ⟨b19, 0, none⟩)) (some (a0, a1, y14))] := hS.sel [0] (by kernel_rfl)
          exact At.body [.pointer (some ⟨b19, 0, none⟩), .int .i64 0] (by kernel_rfl) ⟨_, rfl, _, rfl, hS⟩
/-! ### 26 colophon/pack.mask -/
def pack_mask.f (a0 : Int) : Option Int := ((chk? (decide (0 ≤ (wi (64 - a0))))).bind fun _ => some (ishr .u64 18446744073709551615 (wi (64 - a0))))
def pack_mask.post (w : World) (r : Int) (v : Value) (w' : World) : Prop := v = (.int .u64 r : Value) ∧ Sat w' (rf w) []
theorem pack_mask.calls (w0 : World) (a0 : Int) (r : Int) (H : pack_mask.f a0 = some r) :
    Calls Try.prog 26 #[.int .i64 a0] w0 (fun e w' => ∃ v, e = .returned v ∧ pack_mask.post w0 r v w') := by
  have hS : Sat w0 (rf w0) [] := Sat.start w0
  unfold pack_mask.f at H
  refine calls_of_WC (vs := [.int .i64 a0]) Try.func26 (c := C26) (n := 6) (by kernel_rfl) (by kernel_rfl) (by kernel_rfl) ?_
  refine WC.seq (by kernel_rfl) ?_
  refine WC.reg [0] (by kernel_rfl) (by kernel_rfl) ?_
  refine WR.runk [0] [] [0] (L' := [(0, .int .i64 a0)]) (w' := w0) (by kernel_rfl) ?_
  refine WR.nil ?_
  refine At.go ?_
  refine WC.seq (by kernel_rfl) ?_
  refine WC.reg [0, 1, 2, 3] (by kernel_rfl) (by kernel_rfl) ?_
  refine WR.runk [0, 1] [2, 3] [4] (L' := [(4, .int .i64 (wi (64 - a0)))]) (w' := w0) (by kernel_rfl) ?_
  obtain ⟨_, e1, H⟩ := bind_ex H
  refine WR.st (St.ofP (PSt.shift (k := .u64) (k2 := .i64) (t := 22) (t2 := 3) (a := 18446744073709551615) (b := (wi (64 - a0))) .shr (by decide) (.const (.int .u64 18446744073709551615)) (.tmp 4) (by kernel_rfl) (by kernel_rfl) (by kernel_rfl) (by kernel_rfl) (of_decide_eq_true (chk?_some e1)) ?_))
  refine WR.runk [3] [] [2] (L' := [(2, .int .u64 (ishr .u64 18446744073709551615 (wi (64 - a0))))]) (w' := w0) (by kernel_rfl) ?_
  refine WR.nil ?_
  refine At.go ?_
  refine WC.ret (by kernel_rfl) ?_
  obtain rfl := Option.some.inj H
  have hS : Sat w0 (rf w0) [] := hS.sel [] (by kernel_rfl)
  exact At.body [.int .u64 (ishr .u64 18446744073709551615 (wi (64 - a0)))] (by kernel_rfl) ⟨_, rfl, rfl, hS⟩
/-! ### 12 (*colophon/pack.Ints).Set -/
def pack_Ints_Set.f (p0 : Int × Int × (List Int)) (a1 : Int) (a2 : Int) : Option (Bool × (Int × Int × (List Int))) := (if decide (a1 < 0) then some (false, p0) else (if decide (a1 ≥ p0.2.1) then some (false, p0) else ((pack_mask.f p0.1).bind fun r5 => (if decide (a2 > r5) then some (false, p0) else ((pack_mask.f p0.1).bind fun r15 => ((at? p0.2.2 (wi (Int.tdiv (wi (a1 * p0.1)) 64))).bind fun v26 => ((chk? (decide (0 ≤ (Int.tmod (wi (a1 * p0.1)) 64)))).bind fun _ => ((chk? (decide (0 ≤ (Int.tmod (wi (a1 * p0.1)) 64)))).bind fun _ => ((set? p0.2.2 (wi (Int.tdiv (wi (a1 * p0.1)) 64)) (ior .u64 (iandn .u64 v26 (ishl .u64 r15 (Int.tmod (wi (a1 * p0.1)) 64))) (ishl .u64 a2 (Int.tmod (wi (a1 * p0.1)) 64)))).bind fun y30 => (if decide (wi ((Int.tmod (wi (a1 * p0.1)) 64) + p0.1) > 64) then ((at? y30 (wi ((wi (Int.tdiv (wi (a1 * p0.1)) 64)) + 1))).bind fun v37 => ((chk? (decide (0 ≤ (wi (64 - (Int.tmod (wi (a1 * p0.1)) 64)))))).bind fun _ => ((chk? (decide (0 ≤ (wi (64 - (Int.tmod (wi (a1 * p0.1)) 64)))))).bind fun _ => ((set? y30 (wi ((wi (Int.tdiv (wi (a1 * p0.1)) 64)) + 1)) (ior .u64 (iandn .u64 v37 (ishr .u64 r15 (wi (64 - (Int.tmod (wi (a1 * p0.1)) 64))))) (ishr .u64 a2 (wi (64 - (Int.tmod (wi (a1 * p0.1)) 64)))))).bind fun y41 => some (true, (p0.1, p0.2.1, y41)))))) else some (true, (p0.1, p0.2.1, y30))))))))))))
def pack_Ints_Set.post (B : Rf) (b0 : Nat) (p0 : Int × Int × (List Int)) (w : World) (r : Bool × (Int × Int × (List Int))) (v : Value) (w' : World) : Prop := v = (.bool r.1 : Value) ∧ Sat w' B [O55 b0 r.2]
theorem pack_Ints_Set.calls (B : Rf) (w0 : World) (b0 : Nat) (p0 : Int × Int × (List Int)) (hS : Sat w0 B [O55 b0 p0]) (a1 : Int) (a2 : Int) (r : Bool × (Int × Int × (List Int))) (H : pack_Ints_Set.f p0 a1 a2 = some r) :
    Calls Try.prog 12 #[.pointer (some ⟨b0, 0, none⟩), .int .i64 a1, .int .u64 a2] w0 (fun e w' => ∃ v, e = .returned v ∧ pack_Ints_Set.post B b0 p0 w0 r v w') := by
  unfold pack_Ints_Set.f at H
  refine calls_of_WC (vs := [.pointer (some ⟨b0, 0, none⟩), .int .i64 a1, .int .u64 a2]) Try.func12 (c := C12) (n := 102) (by kernel_rfl) (by kernel_rfl) (by kernel_rfl) ?_
  refine WC.seq (by kernel_rfl) ?_
  refine WC.reg [0] (by kernel_rfl) (by kernel_rfl) ?_
  refine WR.runk [0] [] [0, 1, 2] (L' := [(0, .pointer (some ⟨b0, 0, none⟩)), (1, .int .i64 a1), (2, .int .u64 a2)]) (w' := w0) (by kernel_rfl) ?_
  refine WR.nil ?_
  refine At.go ?_
  refine WC.seq (by kernel_rfl) ?_
  refine WC.seq (by kernel_rfl) ?_
  refine WC.reg [0, 1, 2, 3, 4, 5, 6, 7, 8, 9, 10, 11, 12, 13, 14, 15, 16, 17, 18, 19, 20, 21, 22] (by kernel_rfl) (by kernel_rfl) ?_
  refine WR.runk [0, 1, 2, 3, 4, 5, 6] [7, 8, 9, 10, 11, 12, 13, 14, 15, 16, 17, 18, 19, 20, 21, 22] [0, 1, 2, 17] (L' := [(0, .pointer (some ⟨b0, 0, none⟩)), (1, .int .i64 a1), (2, .int .u64 a2), (17, .bool (decide (a1 < 0)))]) (w' := w0) (by kernel_rfl) ?_
  refine WR.split 17 (b := decide (a1 < 0)) (by kernel_rfl) (fun hb1 => ?_) (fun hb1 => ?_)
  · replace H := ite_t H hb1
    refine WR.runk [7, 8, 9, 10, 11, 12, 13, 14, 15, 16, 17, 18, 19, 20, 21, 22] [] [0, 1, 2, 33] (L' := [(0, .pointer (some ⟨b0, 0, none⟩)), (1, .int .i64 a1), (2, .int .u64 a2), (33, .bool true)]) (w' := w0) (by kernel_rfl) ?_
    refine WR.nil ?_
    refine At.go ?_
    refine WC.condT (by kernel_rfl) (by kernel_rfl) (by kernel_rfl) ?_
    refine WC.seq (by kernel_rfl) ?_
    refine WC.reg [0] (by kernel_rfl) (by kernel_rfl) ?_
    refine WR.runk [0] [] [6] (L' := [(6, .bool false)]) (w' := w0) (by kernel_rfl) ?_
    refine WR.nil ?_
    refine At.go ?_
    refine WC.ret (by kernel_rfl) ?_
    refine At.thenRet ?_
    obtain rfl := Option.some.inj H
    have hS : Sat w0 B [O55 b0 p0] := hS.sel [0] (by kernel_rfl)
    exact At.body [.bool false] (by kernel_rfl) ⟨_, rfl, rfl, hS⟩
  · replace H := ite_f H hb1
    refine WR.runk [7, 8, 9, 10] [11, 12, 13, 14, 15, 16, 17, 18, 19, 20, 21, 22] [0, 1, 2, 17, 18, 21] (L' := [(0, .pointer (some ⟨b0, 0, none⟩)), (1, .int .i64 a1), (2, .int .u64 a2), (17, .bool false), (18, .int .i64 a1), (21, .pointer (some ⟨b0, 1, none⟩))]) (w' := w0) (by kernel_rfl) ?_
    obtain ⟨A2, c3, hS⟩ := O55.open hS
    have hS : Sat w0 B [pts b0 (.cells #[.int .i64 p0.1, .int .i64 p0.2.1, .slice A2 p0.2.2.length c3] 55 (0, 0)), osl 22 (r0 (.int .u64)) 1 A2 c3 p0.2.2] := hS
    refine WR.st (St.ofR (RSt.loadObj (t := 3) (k := 1) (v := .int .i64 p0.2.1) (.tmp 21) (by kernel_rfl) (by kernel_rfl) (by kernel_rfl) 0 hS rfl (by kernel_rfl) rfl ?_))
    refine WR.runk [12, 13, 14] [15, 16, 17, 18, 19, 20, 21, 22] [0, 1, 2, 25] (L' := [(0, .pointer (some ⟨b0, 0, none⟩)), (1, .int .i64 a1), (2, .int .u64 a2), (25, .bool (decide (a1 ≥ p0.2.1)))]) (w' := w0) (by kernel_rfl) ?_
    refine WR.split 25 (b := decide (a1 ≥ p0.2.1)) (by kernel_rfl) (fun hb4 => ?_) (fun hb4 => ?_)
    · replace H := ite_t H hb4
      refine WR.runk [15, 16, 17, 18, 19, 20, 21, 22] [] [0, 1, 2, 33] (L' := [(0, .pointer (some ⟨b0, 0, none⟩)), (1, .int .i64 a1), (2, .int .u64 a2), (33, .bool true)]) (w' := w0) (by kernel_rfl) ?_
      refine WR.nil ?_
      refine At.go ?_
      refine WC.condT (by kernel_rfl) (by kernel_rfl) (by kernel_rfl) ?_
      refine WC.seq (by kernel_rfl) ?_
      refine WC.reg [0] (by kernel_rfl) (by kernel_rfl) ?_
      refine WR.runk [0] [] [6] (L' := [(6, .bool false)]) (w' := w0) (by kernel_rfl) ?_
      refine WR.nil ?_
      refine At.go ?_
      refine WC.ret (by kernel_rfl) ?_
      refine At.thenRet ?_
      obtain rfl := Option.some.inj H
      have hS : Sat w0 B [pts b0 (.cells #[.int .i64 p0.1, .int .i64 p0.2.1, .slice A2 p0.2.2.length c3] 55 (0, 0)), osl 22 (r0 (.int .u64)) 1 A2 c3 p0.2.2] := hS.sel [0, 1] (by kernel_rfl)
      have hS : Sat w0 B [O55 b0 p0] := O55.close p0 A2 c3 hS
      have hS : Sat w0 B [O55 b0 p0] := hS.sel [0] (by kernel_rfl)
      exact At.body [.bool false] (by kernel_rfl) ⟨_, rfl, rfl, hS⟩
    · replace H := ite_f H hb4
      refine WR.runk [15, 16, 17, 18] [19, 20, 21, 22] [0, 1, 2, 25, 26, 29] (L' := [(0, .pointer (some ⟨b0, 0, none⟩)), (1, .int .i64 a1), (2, .int .u64 a2), (25, .bool false), (26, .int .u64 a2), (29, .pointer (some ⟨b0, 0, none⟩))]) (w' := w0) (by kernel_rfl) ?_
      refine WR.st (St.ofR (RSt.loadObj (t := 3) (k := 0) (v := .int .i64 p0.1) (.tmp 29) (by kernel_rfl) (by kernel_rfl) (by kernel_rfl) 0 hS rfl (by kernel_rfl) rfl ?_))
      refine WR.runk [] [20, 21, 22] [0, 1, 2, 25, 26, 30] (L' := [(0, .pointer (some ⟨b0, 0, none⟩)), (1, .int .i64 a1), (2, .int .u64 a2), (25, .bool false), (26, .int .u64 a2), (30, .int .i64 p0.1)]) (w' := w0) (by kernel_rfl) ?_
      obtain ⟨r5, e6, H⟩ := bind_ex H
      refine WR.st (St.call (by kernel_rfl) (f := 26) (args := #[.int .i64 p0.1]) (by kernel_rfl) (pack_mask.calls w0 p0.1 r5 e6) ?_)
      rintro _ w12 ⟨rfl, hS13⟩
      have hS : Sat w12 B [pts b0 (.cells #[.int .i64 p0.1, .int .i64 p0.2.1, .slice A2 p0.2.2.length c3] 55 (0, 0)), osl 22 (r0 (.int .u64)) 1 A2 c3 p0.2.2] := hS.ext hS13
      refine WR.runk [21, 22] [] [0, 1, 2, 33] (L' := [(0, .pointer (some ⟨b0, 0, none⟩)), (1, .int .i64 a1), (2, .int .u64 a2), (33, .bool (decide (a2 > r5)))]) (w' := w12) (by kernel_rfl) ?_
      refine WR.nil ?_
      refine At.go ?_
      refine WC.cond (by kernel_rfl) (decide (a2 > r5)) (by kernel_rfl) (by kernel_rfl) (fun hb14 => ?_) (fun hb14 => ?_)
      · replace H := ite_t H hb14
        refine WC.seq (by kernel_rfl) ?_
        refine WC.reg [0] (by kernel_rfl) (by kernel_rfl) ?_
        refine WR.runk [0] [] [6] (L' := [(6, .bool false)]) (w' := w12) (by kernel_rfl) ?_
        refine WR.nil ?_
        refine At.go ?_
        refine WC.ret (by kernel_rfl) ?_
        refine At.thenRet ?_
        obtain rfl := Option.some.inj H
        have hS : Sat w12 B [pts b0 (.cells #[.int .i64 p0.1, .int .i64 p0.2.1, .slice A2 p0.2.2.length c3] 55 (0, 0)), osl 22 (r0 (.int .u64)) 1 A2 c3 p0.2.2] := hS.sel [0, 1] (by kernel_rfl)
        have hS : Sat w12 B [O55 b0 p0] := O55.close p0 A2 c3 hS
        have hS : Sat w12 B [O55 b0 p0] := hS.sel [0] (by kernel_rfl)
        exact At.body [.bool false] (by kernel_rfl) ⟨_, rfl, rfl, hS⟩
      · replace H := ite_f H hb14
        refine WC.skip (by kernel_rfl) ?_
        refine At.go ?_
        refine WC.seq (by kernel_rfl) ?_
        refine WC.reg [0, 1, 2, 3, 4, 5, 6] (by kernel_rfl) (by kernel_rfl) ?_
        refine WR.runk [0, 1, 2, 3] [4, 5, 6] [0, 2, 34, 37] (L' := [(0, .pointer (some ⟨b0, 0, none⟩)), (2, .int .u64 a2), (34, .int .i64 a1), (37, .pointer (some ⟨b0, 0, none⟩))]) (w' := w12) (by kernel_rfl) ?_
        refine WR.st (St.ofR (RSt.loadObj (t := 3) (k := 0) (v := .int .i64 p0.1) (.tmp 37) (by kernel_rfl) (by kernel_rfl) (by kernel_rfl) 0 hS rfl (by kernel_rfl) rfl ?_))
        refine WR.runk [5, 6] [] [0, 2, 7] (L' := [(0, .pointer (some ⟨b0, 0, none⟩)), (2, .int .u64 a2), (7, .int .i64 (wi (a1 * p0.1)))]) (w' := w12) (by kernel_rfl) ?_
        refine WR.nil ?_
        refine At.go ?_
        refine WC.seq (by kernel_rfl) ?_
        refine WC.reg [0, 1, 2, 3, 4, 5] (by kernel_rfl) (by kernel_rfl) ?_
        refine WR.runk [0, 1, 2, 3, 4, 5] [] [0, 2, 8, 9] (L' := [(0, .pointer (some ⟨b0, 0, none⟩)), (2, .int .u64 a2), (8, .int .i64 (wi (Int.tdiv (wi (a1 * p0.1)) 64))), (9, .int .i64 (Int.tmod (wi (a1 * p0.1)) 64))]) (w' := w12) (by kernel_rfl) ?_
        refine WR.nil ?_
        refine At.go ?_
        refine WC.seq (by kernel_rfl) ?_
        refine WC.reg [0, 1, 2, 3, 4, 5] (by kernel_rfl) (by kernel_rfl) ?_
        refine WR.runk [0, 1, 2] [3, 4, 5] [0, 2, 8, 9, 46] (L' := [(0, .pointer (some ⟨b0, 0, none⟩)), (2, .int .u64 a2), (8, .int .i64 (wi (Int.tdiv (wi (a1 * p0.1)) 64))), (9, .int .i64 (Int.tmod (wi (a1 * p0.1)) 64)), (46, .pointer (some ⟨b0, 0, none⟩))]) (w' := w12) (by kernel_rfl) ?_
        refine WR.st (St.ofR (RSt.loadObj (t := 3) (k := 0) (v := .int .i64 p0.1) (.tmp 46) (by kernel_rfl) (by kernel_rfl) (by kernel_rfl) 0 hS rfl (by kernel_rfl) rfl ?_))
        refine WR.runk [] [4, 5] [0, 2, 8, 9, 47] (L' := [(0, .pointer (some ⟨b0, 0, none⟩)), (2, .int .u64 a2), (8, .int .i64 (wi (Int.tdiv (wi (a1 * p0.1)) 64))), (9, .int .i64 (Int.tmod (wi (a1 * p0.1)) 64)), (47, .int .i64 p0.1)]) (w' := w12) (by kernel_rfl) ?_
        obtain ⟨r15, e16, H⟩ := bind_ex H
        refine WR.st (St.call (by kernel_rfl) (f := 26) (args := #[.int .i64 p0.1]) (by kernel_rfl) (pack_mask.calls w12 p0.1 r15 e16) ?_)
        rintro _ w22 ⟨rfl, hS23⟩
        have hS : Sat w22 B [pts b0 (.cells #[.int .i64 p0.1, .int .i64 p0.2.1, .slice A2 p0.2.2.length c3] 55 (0, 0)), osl 22 (r0 (.int .u64)) 1 A2 c3 p0.2.2] := hS.ext hS23
        refine WR.runk [5] [] [0, 2, 8, 9, 10] (L' := [(0, .pointer (some ⟨b0, 0, none⟩)), (2, .int .u64 a2), (8, .int .i64 (wi (Int.tdiv (wi (a1 * p0.1)) 64))), (9, .int .i64 (Int.tmod (wi (a1 * p0.1)) 64)), (10, .int .u64 r15)]) (w' := w22) (by kernel_rfl) ?_
        refine WR.nil ?_
        refine At.go ?_
        refine WC.seq (by kernel_rfl) ?_
        refine WC.drawn (by kernel_rfl) (by kernel_rfl) 22 (by kernel_rfl) (fun w24 hw25 => ?_)
        have hS := hS.heap hw25.1 hw25.2
        refine WD.weaken [0, 2, 8, 9, 10] (L' := [(0, .pointer (some ⟨b0, 0, none⟩)), (2, .int .u64 a2), (8, .int .i64 (wi (Int.tdiv (wi (a1 * p0.1)) 64))), (9, .int .i64 (Int.tmod (wi (a1 * p0.1)) 64)), (10, .int .u64 r15)]) (by kernel_rfl) ?_
        refine WD.pure (i := 0) (v := .pointer (some ⟨b0, 0, none⟩)) (by kernel_rfl) (by kernel_rfl) (fun _ => by kernel_rfl) ?_
        refine WD.weaken [0, 2, 8, 9, 10, 49] (L' := [(0, .pointer (some ⟨b0, 0, none⟩)), (2, .int .u64 a2), (8, .int .i64 (wi (Int.tdiv (wi (a1 * p0.1)) 64))), (9, .int .i64 (Int.tmod (wi (a1 * p0.1)) 64)), (10, .int .u64 r15), (49, .pointer (some ⟨b0, 0, none⟩))]) (by kernel_rfl) ?_
        refine WD.pure (i := 1) (v := .pointer (some ⟨b0, 0, none⟩)) (by kernel_rfl) (by kernel_rfl) (fun _ => by kernel_rfl) ?_
        refine WD.weaken [0, 2, 8, 9, 10, 50] (L' := [(0, .pointer (some ⟨b0, 0, none⟩)), (2, .int .u64 a2), (8, .int .i64 (wi (Int.tdiv (wi (a1 * p0.1)) 64))), (9, .int .i64 (Int.tmod (wi (a1 * p0.1)) 64)), (10, .int .u64 r15), (50, .pointer (some ⟨b0, 0, none⟩))]) (by kernel_rfl) ?_
        refine WD.pure (i := 2) (v := .pointer (some ⟨b0, 2, none⟩)) (by kernel_rfl) (by kernel_rfl) (fun _ => by kernel_rfl) ?_
        refine WD.weaken [0, 2, 8, 9, 10, 51] (L' := [(0, .pointer (some ⟨b0, 0, none⟩)), (2, .int .u64 a2), (8, .int .i64 (wi (Int.tdiv (wi (a1 * p0.1)) 64))), (9, .int .i64 (Int.tmod (wi (a1 * p0.1)) 64)), (10, .int .u64 r15), (51, .pointer (some ⟨b0, 2, none⟩))]) (by kernel_rfl) ?_
        refine WD.ofR (i := 3) (by kernel_rfl) (RSt.loadObj (t := 32) (k := 2) (v := .slice A2 p0.2.2.length c3) (.tmp 51) (by kernel_rfl) (by kernel_rfl) (by kernel_rfl) 0 hS rfl (by kernel_rfl) rfl ?_)
        refine WD.weaken [0, 2, 8, 9, 10, 52] (L' := [(0, .pointer (some ⟨b0, 0, none⟩)), (2, .int .u64 a2), (8, .int .i64 (wi (Int.tdiv (wi (a1 * p0.1)) 64))), (9, .int .i64 (Int.tmod (wi (a1 * p0.1)) 64)), (10, .int .u64 r15), (52, .slice A2 p0.2.2.length c3)]) (by kernel_rfl) ?_
        refine WD.pure (i := 4) (v := .int .i64 (wi (Int.tdiv (wi (a1 * p0.1)) 64))) (by kernel_rfl) (by kernel_rfl) (fun _ => by kernel_rfl) ?_
        refine WD.weaken [0, 2, 8, 9, 10, 52, 53] (L' := [(0, .pointer (some ⟨b0, 0, none⟩)), (2, .int .u64 a2), (8, .int .i64 (wi (Int.tdiv (wi (a1 * p0.1)) 64))), (9, .int .i64 (Int.tmod (wi (a1 * p0.1)) 64)), (10, .int .u64 r15), (52, .slice A2 p0.2.2.length c3), (53, .int .i64 (wi (Int.tdiv (wi (a1 * p0.1)) 64)))]) (by kernel_rfl) ?_
        refine WD.pure (i := 5) (v := .pointer (some ⟨b0, 0, none⟩)) (by kernel_rfl) (by kernel_rfl) (fun _ => by kernel_rfl) ?_
        refine WD.weaken [0, 2, 8, 9, 10, 52, 53, 54] (L' := [(0, .pointer (some ⟨b0, 0, none⟩)), (2, .int .u64 a2), (8, .int .i64 (wi (Int.tdiv (wi (a1 * p0.1)) 64))), (9, .int .i64 (Int.tmod (wi (a1 * p0.1)) 64)), (10, .int .u64 r15), (52, .slice A2 p0.2.2.length c3), (53, .int .i64 (wi (Int.tdiv (wi (a1 * p0.1)) 64))), (54, .pointer (some ⟨b0, 0, none⟩))]) (by kernel_rfl) ?_
        refine WD.pure (i := 6) (v := .pointer (some ⟨b0, 0, none⟩)) (by kernel_rfl) (by kernel_rfl) (fun _ => by kernel_rfl) ?_
        refine WD.weaken [0, 2, 8, 9, 10, 52, 53, 55] (L' := [(0, .pointer (some ⟨b0, 0, none⟩)), (2, .int .u64 a2), (8, .int .i64 (wi (Int.tdiv (wi (a1 * p0.1)) 64))), (9, .int .i64 (Int.tmod (wi (a1 * p0.1)) 64)), (10, .int .u64 r15), (52, .slice A2 p0.2.2.length c3), (53, .int .i64 (wi (Int.tdiv (wi (a1 * p0.1)) 64))), (55, .pointer (some ⟨b0, 0, none⟩))]) (by kernel_rfl) ?_
        refine WD.pure (i := 7) (v := .pointer (some ⟨b0, 2, none⟩)) (by kernel_rfl) (by kernel_rfl) (fun _ => by kernel_rfl) ?_
        refine WD.weaken [0, 2, 8, 9, 10, 52, 53, 56] (L' := [(0, .pointer (some ⟨b0, 0, none⟩)), (2, .int .u64 a2), (8, .int .i64 (wi (Int.tdiv (wi (a1 * p0.1)) 64))), (9, .int .i64 (Int.tmod (wi (a1 * p0.1)) 64)), (10, .int .u64 r15), (52, .slice A2 p0.2.2.length c3), (53, .int .i64 (wi (Int.tdiv (wi (a1 * p0.1)) 64))), (56, .pointer (some ⟨b0, 2, none⟩))]) (by kernel_rfl) ?_
        refine WD.ofR (i := 8) (by kernel_rfl) (RSt.loadObj (t := 32) (k := 2) (v := .slice A2 p0.2.2.length c3) (.tmp 56) (by kernel_rfl) (by kernel_rfl) (by kernel_rfl) 0 hS rfl (by kernel_rfl) rfl ?_)
        refine WD.weaken [0, 2, 8, 9, 10, 52, 53, 57] (L' := [(0, .pointer (some ⟨b0, 0, none⟩)), (2, .int .u64 a2), (8, .int .i64 (wi (Int.tdiv (wi (a1 * p0.1)) 64))), (9, .int .i64 (Int.tmod (wi (a1 * p0.1)) 64)), (10, .int .u64 r15), (52, .slice A2 p0.2.2.length c3), (53, .int .i64 (wi (Int.tdiv (wi (a1 * p0.1)) 64))), (57, .slice A2 p0.2.2.length c3)]) (by kernel_rfl) ?_
        refine WD.pure (i := 9) (v := .int .i64 (wi (Int.tdiv (wi (a1 * p0.1)) 64))) (by kernel_rfl) (by kernel_rfl) (fun _ => by kernel_rfl) ?_
        refine WD.weaken [0, 2, 8, 9, 10, 52, 53, 57, 58] (L' := [(0, .pointer (some ⟨b0, 0, none⟩)), (2, .int .u64 a2), (8, .int .i64 (wi (Int.tdiv (wi (a1 * p0.1)) 64))), (9, .int .i64 (Int.tmod (wi (a1 * p0.1)) 64)), (10, .int .u64 r15), (52, .slice A2 p0.2.2.length c3), (53, .int .i64 (wi (Int.tdiv (wi (a1 * p0.1)) 64))), (57, .slice A2 p0.2.2.length c3), (58, .int .i64 (wi (Int.tdiv (wi (a1 * p0.1)) 64)))]) (by kernel_rfl) ?_
        obtain ⟨v26, e27, H⟩ := bind_ex H
        refine WD.ofP (i := 10) (by kernel_rfl) (PSt.idx (k := .i64) (.tmp 57) (.tmp 58) (by kernel_rfl) (by kernel_rfl) E32 (by kernel_rfl) (by kernel_rfl) (Sat.rdAt 1 hS rfl) e27 ?_)
        refine WD.weaken [0, 2, 8, 9, 10, 52, 53, 59] (L' := [(0, .pointer (some ⟨b0, 0, none⟩)), (2, .int .u64 a2), (8, .int .i64 (wi (Int.tdiv (wi (a1 * p0.1)) 64))), (9, .int .i64 (Int.tmod (wi (a1 * p0.1)) 64)), (10, .int .u64 r15), (52, .slice A2 p0.2.2.length c3), (53, .int .i64 (wi (Int.tdiv (wi (a1 * p0.1)) 64))), (59, .pointer (some (adr A2 (wi (Int.tdiv (wi (a1 * p0.1)) 64)).toNat 1)))]) (by kernel_rfl) ?_
        refine WD.ofR (i := 11) (by kernel_rfl) (RSt.loadInt (t := 22) (.tmp 59) (by kernel_rfl) (by kernel_rfl) (by kernel_rfl) (by kernel_rfl) (Sat.rdAt 1 hS rfl) e27 ?_)
        refine WD.weaken [0, 2, 8, 9, 10, 52, 53, 60] (L' := [(0, .pointer (some ⟨b0, 0, none⟩)), (2, .int .u64 a2), (8, .int .i64 (wi (Int.tdiv (wi (a1 * p0.1)) 64))), (9, .int .i64 (Int.tmod (wi (a1 * p0.1)) 64)), (10, .int .u64 r15), (52, .slice A2 p0.2.2.length c3), (53, .int .i64 (wi (Int.tdiv (wi (a1 * p0.1)) 64))), (60, .int .u64 v26)]) (by kernel_rfl) ?_
        refine WD.pure (i := 12) (v := .int .u64 r15) (by kernel_rfl) (by kernel_rfl) (fun _ => by kernel_rfl) ?_
        refine WD.weaken [0, 2, 8, 9, 10, 52, 53, 60, 61] (L' := [(0, .pointer (some ⟨b0, 0, none⟩)), (2, .int .u64 a2), (8, .int .i64 (wi (Int.tdiv (wi (a1 * p0.1)) 64))), (9, .int .i64 (Int.tmod (wi (a1 * p0.1)) 64)), (10, .int .u64 r15), (52, .slice A2 p0.2.2.length c3), (53, .int .i64 (wi (Int.tdiv (wi (a1 * p0.1)) 64))), (60, .int .u64 v26), (61, .int .u64 r15)]) (by kernel_rfl) ?_
        refine WD.pure (i := 13) (v := .int .i64 (Int.tmod (wi (a1 * p0.1)) 64)) (by kernel_rfl) (by kernel_rfl) (fun _ => by kernel_rfl) ?_
        refine WD.weaken [0, 2, 8, 9, 10, 52, 53, 60, 61, 62] (L' := [(0, .pointer (some ⟨b0, 0, none⟩)), (2, .int .u64 a2), (8, .int .i64 (wi (Int.tdiv (wi (a1 * p0.1)) 64))), (9, .int .i64 (Int.tmod (wi (a1 * p0.1)) 64)), (10, .int .u64 r15), (52, .slice A2 p0.2.2.length c3), (53, .int .i64 (wi (Int.tdiv (wi (a1 * p0.1)) 64))), (60, .int .u64 v26), (61, .int .u64 r15), (62, .int .i64 (Int.tmod (wi (a1 * p0.1)) 64))]) (by kernel_rfl) ?_
        obtain ⟨_, e28, H⟩ := bind_ex H
        refine WD.ofP (i := 14) (by kernel_rfl) (PSt.shift (k := .u64) (k2 := .i64) (t := 22) (t2 := 3) (a := r15) (b := (Int.tmod (wi (a1 * p0.1)) 64)) .shl (by decide) (.tmp 61) (.tmp 62) (by kernel_rfl) (by kernel_rfl) (by kernel_rfl) (by kernel_rfl) (of_decide_eq_true (chk?_some e28)) ?_)
        refine WD.weaken [0, 2, 8, 9, 10, 52, 53, 60, 63] (L' := [(0, .pointer (some ⟨b0, 0, none⟩)), (2, .int .u64 a2), (8, .int .i64 (wi (Int.tdiv (wi (a1 * p0.1)) 64))), (9, .int .i64 (Int.tmod (wi (a1 * p0.1)) 64)), (10, .int .u64 r15), (52, .slice A2 p0.2.2.length c3), (53, .int .i64 (wi (Int.tdiv (wi (a1 * p0.1)) 64))), (60, .int .u64 v26), (63, .int .u64 (ishl .u64 r15 (Int.tmod (wi (a1 * p0.1)) 64)))]) (by kernel_rfl) ?_
        refine WD.pure (i := 15) (v := .int .u64 (iandn .u64 v26 (ishl .u64 r15 (Int.tmod (wi (a1 * p0.1)) 64)))) (by kernel_rfl) (by kernel_rfl) (fun _ => by kernel_rfl) ?_
        refine WD.weaken [0, 2, 8, 9, 10, 52, 53, 64] (L' := [(0, .pointer (some ⟨b0, 0, none⟩)), (2, .int .u64 a2), (8, .int .i64 (wi (Int.tdiv (wi (a1 * p0.1)) 64))), (9, .int .i64 (Int.tmod (wi (a1 * p0.1)) 64)), (10, .int .u64 r15), (52, .slice A2 p0.2.2.length c3), (53, .int .i64 (wi (Int.tdiv (wi (a1 * p0.1)) 64))), (64, .int .u64 (iandn .u64 v26 (ishl .u64 r15 (Int.tmod (wi (a1 * p0.1)) 64))))]) (by kernel_rfl) ?_
        refine WD.pure (i := 16) (v := .int .u64 a2) (by kernel_rfl) (by kernel_rfl) (fun _ => by kernel_rfl) ?_
        refine WD.weaken [0, 2, 8, 9, 10, 52, 53, 64, 65] (L' := [(0, .pointer (some ⟨b0, 0, none⟩)), (2, .int .u64 a2), (8, .int .i64 (wi (Int.tdiv (wi (a1 * p0.1)) 64))), (9, .int .i64 (Int.tmod (wi (a1 * p0.1)) 64)), (10, .int .u64 r15), (52, .slice A2 p0.2.2.length c3), (53, .int .i64 (wi (Int.tdiv (wi (a1 * p0.1)) 64))), (64, .int .u64 (iandn .u64 v26 (ishl .u64 r15 (Int.tmod (wi (a1 * p0.1)) 64)))), (65, .int .u64 a2)]) (by kernel_rfl) ?_
        refine WD.pure (i := 17) (v := .int .i64 (Int.tmod (wi (a1 * p0.1)) 64)) (by kernel_rfl) (by kernel_rfl) (fun _ => by kernel_rfl) ?_
        refine WD.weaken [0, 2, 8, 9, 10, 52, 53, 64, 65, 66] (L' := [(0, .pointer (some ⟨b0, 0, none⟩)), (2, .int .u64 a2), (8, .int .i64 (wi (Int.tdiv (wi (a1 * p0.1)) 64))), (9, .int .i64 (Int.tmod (wi (a1 * p0.1)) 64)), (10, .int .u64 r15), (52, .slice A2 p0.2.2.length c3), (53, .int .i64 (wi (Int.tdiv (wi (a1 * p0.1)) 64))), (64, .int .u64 (iandn .u64 v26 (ishl .u64 r15 (Int.tmod (wi (a1 * p0.1)) 64)))), (65, .int .u64 a2), (66, .int .i64 (Int.tmod (wi (a1 * p0.1)) 64))]) (by kernel_rfl) ?_
        obtain ⟨_, e29, H⟩ := bind_ex H
        refine WD.ofP (i := 18) (by kernel_rfl) (PSt.shift (k := .u64) (k2 := .i64) (t := 22) (t2 := 3) (a := a2) (b := (Int.tmod (wi (a1 * p0.1)) 64)) .shl (by decide) (.tmp 65) (.tmp 66) (by kernel_rfl) (by kernel_rfl) (by kernel_rfl) (by kernel_rfl) (of_decide_eq_true (chk?_some e29)) ?_)
        refine WD.weaken [0, 2, 8, 9, 10, 52, 53, 64, 67] (L' := [(0, .pointer (some ⟨b0, 0, none⟩)), (2, .int .u64 a2), (8, .int .i64 (wi (Int.tdiv (wi (a1 * p0.1)) 64))), (9, .int .i64 (Int.tmod (wi (a1 * p0.1)) 64)), (10, .int .u64 r15), (52, .slice A2 p0.2.2.length c3), (53, .int .i64 (wi (Int.tdiv (wi (a1 * p0.1)) 64))), (64, .int .u64 (iandn .u64 v26 (ishl .u64 r15 (Int.tmod (wi (a1 * p0.1)) 64)))), (67, .int .u64 (ishl .u64 a2 (Int.tmod (wi (a1 * p0.1)) 64)))]) (by kernel_rfl) ?_
        refine WD.pure (i := 19) (v := .int .u64 (ior .u64 (iandn .u64 v26 (ishl .u64 r15 (Int.tmod (wi (a1 * p0.1)) 64))) (ishl .u64 a2 (Int.tmod (wi (a1 * p0.1)) 64)))) (by kernel_rfl) (by kernel_rfl) (fun _ => by kernel_rfl) ?_
        refine WD.weaken [0, 2, 8, 9, 10, 52, 53, 68] (L' := [(0, .pointer (some ⟨b0, 0, none⟩)), (2, .int .u64 a2), (8, .int .i64 (wi (Int.tdiv (wi (a1 * p0.1)) 64))), (9, .int .i64 (Int.tmod (wi (a1 * p0.1)) 64)), (10, .int .u64 r15), (52, .slice A2 p0.2.2.length c3), (53, .int .i64 (wi (Int.tdiv (wi (a1 * p0.1)) 64))), (68, .int .u64 (ior .u64 (iandn .u64 v26 (ishl .u64 r15 (Int.tmod (wi (a1 * p0.1)) 64))) (ishl .u64 a2 (Int.tmod (wi (a1 * p0.1)) 64))))]) (by kernel_rfl) ?_
        refine WD.ofP (i := 20) (by kernel_rfl) (PSt.idx (k := .i64) (.tmp 52) (.tmp 53) (by kernel_rfl) (by kernel_rfl) E32 (by kernel_rfl) (by kernel_rfl) (Sat.rdAt 1 hS rfl) e27 ?_)
        refine WD.weaken [0, 2, 8, 9, 10, 68, 69] (L' := [(0, .pointer (some ⟨b0, 0, none⟩)), (2, .int .u64 a2), (8, .int .i64 (wi (Int.tdiv (wi (a1 * p0.1)) 64))), (9, .int .i64 (Int.tmod (wi (a1 * p0.1)) 64)), (10, .int .u64 r15), (68, .int .u64 (ior .u64 (iandn .u64 v26 (ishl .u64 r15 (Int.tmod (wi (a1 * p0.1)) 64))) (ishl .u64 a2 (Int.tmod (wi (a1 * p0.1)) 64)))), (69, .pointer (some (adr A2 (wi (Int.tdiv (wi (a1 * p0.1)) 64)).toNat 1)))]) (by kernel_rfl) ?_
        have hS : Sat w24 B [osl 22 (r0 (.int .u64)) 1 A2 c3 p0.2.2, pts b0 (.cells #[.int .i64 p0.1, .int .i64 p0.2.1, .slice A2 p0.2.2.length c3] 55 (0, 0))] := hS.sel [1, 0] (by kernel_rfl)
        obtain ⟨y30, e31, H⟩ := bind_ex H
        refine WD.act (i := 21) (by kernel_rfl) (St.storeElem' (t := 22) (.tmp 69) (.tmp 68) (by kernel_rfl) (by kernel_rfl) (by kernel_rfl) hS (by kernel_rfl) (by kernel_rfl) rfl e31 rfl (fun w32 hS => ?_))
        refine ⟨(asked.anc (by kernel_rfl) (asked.anc (by kernel_rfl) (asked.anc (by kernel_rfl) (asked.nil _ _)))), ?_⟩
        have hl33 := set?_len e31
        have hS : Sat w32 B [osl 22 (r0 (.int .u64)) 1 A2 c3 y30, pts b0 (.cells #[.int .i64 p0.1, .int .i64 p0.2.1, .slice A2 y30.length c3] 55 (0, 0))] := by simpa only [hl33] using hS
        refine WD.weaken [0, 2, 8, 9, 10] (L' := [(0, .pointer (some ⟨b0, 0, none⟩)), (2, .int .u64 a2), (8, .int .i64 (wi (Int.tdiv (wi (a1 * p0.1)) 64))), (9, .int .i64 (Int.tmod (wi (a1 * p0.1)) 64)), (10, .int .u64 r15)]) (by kernel_rfl) ?_
        refine WD.nil (by kernel_rfl) ?_
        refine At.go ?_
        refine WC.seq (by kernel_rfl) ?_
        refine WC.seq (by kernel_rfl) ?_
        refine WC.reg [0, 1, 2, 3, 4, 5, 6] (by kernel_rfl) (by kernel_rfl) ?_
        refine WR.runk [0, 1, 2, 3] [4, 5, 6] [0, 2, 8, 9, 10, 70, 73] (L' := [(0, .pointer (some ⟨b0, 0, none⟩)), (2, .int .u64 a2), (8, .int .i64 (wi (Int.tdiv (wi (a1 * p0.1)) 64))), (9, .int .i64 (Int.tmod (wi (a1 * p0.1)) 64)), (10, .int .u64 r15), (70, .int .i64 (Int.tmod (wi (a1 * p0.1)) 64)), (73, .pointer (some ⟨b0, 0, none⟩))]) (w' := w32) (by kernel_rfl) ?_
        refine WR.st (St.ofR (RSt.loadObj (t := 3) (k := 0) (v := .int .i64 p0.1) (.tmp 73) (by kernel_rfl) (by kernel_rfl) (by kernel_rfl) 1 hS rfl (by kernel_rfl) rfl ?_))
        refine WR.runk [5, 6] [] [0, 2, 8, 9, 10, 76] (L' := [(0, .pointer (some ⟨b0, 0, none⟩)), (2, .int .u64 a2), (8, .int .i64 (wi (Int.tdiv (wi (a1 * p0.1)) 64))), (9, .int .i64 (Int.tmod (wi (a1 * p0.1)) 64)), (10, .int .u64 r15), (76, .bool (decide (wi ((Int.tmod (wi (a1 * p0.1)) 64) + p0.1) > 64)))]) (w' := w32) (by kernel_rfl) ?_
        refine WR.nil ?_
        refine At.go ?_
        refine WC.cond (by kernel_rfl) (decide (wi ((Int.tmod (wi (a1 * p0.1)) 64) + p0.1) > 64)) (by kernel_rfl) (by kernel_rfl) (fun hb34 => ?_) (fun hb34 => ?_)
        · replace H := ite_t H hb34
          refine WC.drawn (by kernel_rfl) (by kernel_rfl) 26 (by kernel_rfl) (fun w35 hw36 => ?_)
          have hS := hS.heap hw36.1 hw36.2
          refine WD.weaken [0, 2, 8, 9, 10] (L' := [(0, .pointer (some ⟨b0, 0, none⟩)), (2, .int .u64 a2), (8, .int .i64 (wi (Int.tdiv (wi (a1 * p0.1)) 64))), (9, .int .i64 (Int.tmod (wi (a1 * p0.1)) 64)), (10, .int .u64 r15)]) (by kernel_rfl) ?_
          refine WD.pure (i := 0) (v := .pointer (some ⟨b0, 0, none⟩)) (by kernel_rfl) (by kernel_rfl) (fun _ => by kernel_rfl) ?_
          refine WD.weaken [0, 2, 8, 9, 10, 77] (L' := [(0, .pointer (some ⟨b0, 0, none⟩)), (2, .int .u64 a2), (8, .int .i64 (wi (Int.tdiv (wi (a1 * p0.1)) 64))), (9, .int .i64 (Int.tmod (wi (a1 * p0.1)) 64)), (10, .int .u64 r15), (77, .pointer (some ⟨b0, 0, none⟩))]) (by kernel_rfl) ?_
          refine WD.pure (i := 1) (v := .pointer (some ⟨b0, 0, none⟩)) (by kernel_rfl) (by kernel_rfl) (fun _ => by kernel_rfl) ?_
          refine WD.weaken [0, 2, 8, 9, 10, 78] (L' := [(0, .pointer (some ⟨b0, 0, none⟩)), (2, .int .u64 a2), (8, .int .i64 (wi (Int.tdiv (wi (a1 * p0.1)) 64))), (9, .int .i64 (Int.tmod (wi (a1 * p0.1)) 64)), (10, .int .u64 r15), (78, .pointer (some ⟨b0, 0, none⟩))]) (by kernel_rfl) ?_
          refine WD.pure (i := 2) (v := .pointer (some ⟨b0, 2, none⟩)) (by kernel_rfl) (by kernel_rfl) (fun _ => by kernel_rfl) ?_
          refine WD.weaken [0, 2, 8, 9, 10, 79] (L' := [(0, .pointer (some ⟨b0, 0, none⟩)), (2, .int .u64 a2), (8, .int .i64 (wi (Int.tdiv (wi (a1 * p0.1)) 64))), (9, .int .i64 (Int.tmod (wi (a1 * p0.1)) 64)), (10, .int .u64 r15), (79, .pointer (some ⟨b0, 2, none⟩))]) (by kernel_rfl) ?_
          refine WD.ofR (i := 3) (by kernel_rfl) (RSt.loadObj (t := 32) (k := 2) (v := .slice A2 y30.length c3) (.tmp 79) (by kernel_rfl) (by kernel_rfl) (by kernel_rfl) 1 hS rfl (by kernel_rfl) rfl ?_)
          refine WD.weaken [0, 2, 8, 9, 10, 80] (L' := [(0, .pointer (some ⟨b0, 0, none⟩)), (2, .int .u64 a2), (8, .int .i64 (wi (Int.tdiv (wi (a1 * p0.1)) 64))), (9, .int .i64 (Int.tmod (wi (a1 * p0.1)) 64)), (10, .int .u64 r15), (80, .slice A2 y30.length c3)]) (by kernel_rfl) ?_
          refine WD.pure (i := 4) (v := .int .i64 (wi (Int.tdiv (wi (a1 * p0.1)) 64))) (by kernel_rfl) (by kernel_rfl) (fun _ => by kernel_rfl) ?_
          refine WD.weaken [0, 2, 8, 9, 10, 80, 81] (L' := [(0, .pointer (some ⟨b0, 0, none⟩)), (2, .int .u64 a2), (8, .int .i64 (wi (Int.tdiv (wi (a1 * p0.1)) 64))), (9, .int .i64 (Int.tmod (wi (a1 * p0.1)) 64)), (10, .int .u64 r15), (80, .slice A2 y30.length c3), (81, .int .i64 (wi (Int.tdiv (wi (a1 * p0.1)) 64)))]) (by kernel_rfl) ?_
          refine WD.pure (i := 5) (v := .int .i64 (wi ((wi (Int.tdiv (wi (a1 * p0.1)) 64)) + 1))) (by kernel_rfl) (by kernel_rfl) (fun _ => by kernel_rfl) ?_
          refine WD.weaken [0, 2, 8, 9, 10, 80, 82] (L' := [(0, .pointer (some ⟨b0, 0, none⟩)), (2, .int .u64 a2), (8, .int .i64 (wi (Int.tdiv (wi (a1 * p0.1)) 64))), (9, .int .i64 (Int.tmod (wi (a1 * p0.1)) 64)), (10, .int .u64 r15), (80, .slice A2 y30.length c3), (82, .int .i64 (wi ((wi (Int.tdiv (wi (a1 * p0.1)) 64)) + 1)))]) (by kernel_rfl) ?_
          refine WD.pure (i := 6) (v := .pointer (some ⟨b0, 0, none⟩)) (by kernel_rfl) (by kernel_rfl) (fun _ => by kernel_rfl) ?_
          refine WD.weaken [2, 8, 9, 10, 80, 82, 83] (L' := [(2, .int .u64 a2), (8, .int .i64 (wi (Int.tdiv (wi (a1 * p0.1)) 64))), (9, .int .i64 (Int.tmod (wi (a1 * p0.1)) 64)), (10, .int .u64 r15), (80, .slice A2 y30.length c3), (82, .int .i64 (wi ((wi (Int.tdiv (wi (a1 * p0.1)) 64)) + 1))), (83, .pointer (some ⟨b0, 0, none⟩))]) (by kernel_rfl) ?_
          refine WD.pure (i := 7) (v := .pointer (some ⟨b0, 0, none⟩)) (by kernel_rfl) (by kernel_rfl) (fun _ => by kernel_rfl) ?_
          refine WD.weaken [2, 8, 9, 10, 80, 82, 84] (L' := [(2, .int .u64 a2), (8, .int .i64 (wi (Int.tdiv (wi (a1 * p0.1)) 64))), (9, .int .i64 (Int.tmod (wi (a1 * p0.1)) 64)), (10, .int .u64 r15), (80, .slice A2 y30.length c3), (82, .int .i64 (wi ((wi (Int.tdiv (wi (a1 * p0.1)) 64)) + 1))), (84, .pointer (some ⟨b0, 0, none⟩))]) (by kernel_rfl) ?_
          refine WD.pure (i := 8) (v := .pointer (some ⟨b0, 2, none⟩)) (by kernel_rfl) (by kernel_rfl) (fun _ => by kernel_rfl) ?_
          refine WD.weaken [2, 8, 9, 10, 80, 82, 85] (L' := [(2, .int .u64 a2), (8, .int .i64 (wi (Int.tdiv (wi (a1 * p0.1)) 64))), (9, .int .i64 (Int.tmod (wi (a1 * p0.1)) 64)), (10, .int .u64 r15), (80, .slice A2 y30.length c3), (82, .int .i64 (wi ((wi (Int.tdiv (wi (a1 * p0.1)) 64)) + 1))), (85, .pointer (some ⟨b0, 2, none⟩))]) (by kernel_rfl) ?_
          refine WD.ofR (i := 9) (by kernel_rfl) (RSt.loadObj (t := 32) (k := 2) (v := .slice A2 y30.length c3) (.tmp 85) (by kernel_rfl) (by kernel_rfl) (by kernel_rfl) 1 hS rfl (by kernel_rfl) rfl ?_)
          refine WD.weaken [2, 8, 9, 10, 80, 82, 86] (L' := [(2, .int .u64 a2), (8, .int .i64 (wi (Int.tdiv (wi (a1 * p0.1)) 64))), (9, .int .i64 (Int.tmod (wi (a1 * p0.1)) 64)), (10, .int .u64 r15), (80, .slice A2 y30.length c3), (82, .int .i64 (wi ((wi (Int.tdiv (wi (a1 * p0.1)) 64)) + 1))), (86, .slice A2 y30.length c3)]) (by kernel_rfl) ?_
          refine WD.pure (i := 10) (v := .int .i64 (wi (Int.tdiv (wi (a1 * p0.1)) 64))) (by kernel_rfl) (by kernel_rfl) (fun _ => by kernel_rfl) ?_
          refine WD.weaken [2, 9, 10, 80, 82, 86, 87] (L' := [(2, .int .u64 a2), (9, .int .i64 (Int.tmod (wi (a1 * p0.1)) 64)), (10, .int .u64 r15), (80, .slice A2 y30.length c3), (82, .int .i64 (wi ((wi (Int.tdiv (wi (a1 * p0.1)) 64)) + 1))), (86, .slice A2 y30.length c3), (87, .int .i64 (wi (Int.tdiv (wi (a1 * p0.1)) 64)))]) (by kernel_rfl) ?_
          refine WD.pure (i := 11) (v := .int .i64 (wi ((wi (Int.tdiv (wi (a1 * p0.1)) 64)) + 1))) (by kernel_rfl) (by kernel_rfl) (fun _ => by kernel_rfl) ?_
          refine WD.weaken [2, 9, 10, 80, 82, 86, 88] (L' := [(2, .int .u64 a2), (9, .int .i64 (Int.tmod (wi (a1 * p0.1)) 64)), (10, .int .u64 r15), (80, .slice A2 y30.length c3), (82, .int .i64 (wi ((wi (Int.tdiv (wi (a1 * p0.1)) 64)) + 1))), (86, .slice A2 y30.length c3), (88, .int .i64 (wi ((wi (Int.tdiv (wi (a1 * p0.1)) 64)) + 1)))]) (by kernel_rfl) ?_
          obtain ⟨v37, e38, H⟩ := bind_ex H
          refine WD.ofP (i := 12) (by kernel_rfl) (PSt.idx (k := .i64) (.tmp 86) (.tmp 88) (by kernel_rfl) (by kernel_rfl) E32 (by kernel_rfl) (by kernel_rfl) (Sat.rdAt 0 hS rfl) e38 ?_)
          refine WD.weaken [2, 9, 10, 80, 82, 89] (L' := [(2, .int .u64 a2), (9, .int .i64 (Int.tmod (wi (a1 * p0.1)) 64)), (10, .int .u64 r15), (80, .slice A2 y30.length c3), (82, .int .i64 (wi ((wi (Int.tdiv (wi (a1 * p0.1)) 64)) + 1))), (89, .pointer (some (adr A2 (wi ((wi (Int.tdiv (wi (a1 * p0.1)) 64)) + 1)).toNat 1)))]) (by kernel_rfl) ?_
          refine WD.ofR (i := 13) (by kernel_rfl) (RSt.loadInt (t := 22) (.tmp 89) (by kernel_rfl) (by kernel_rfl) (by kernel_rfl) (by kernel_rfl) (Sat.rdAt 0 hS rfl) e38 ?_)
          refine WD.weaken [2, 9, 10, 80, 82, 90] (L' := [(2, .int .u64 a2), (9, .int .i64 (Int.tmod (wi (a1 * p0.1)) 64)), (10, .int .u64 r15), (80, .slice A2 y30.length c3), (82, .int .i64 (wi ((wi (Int.tdiv (wi (a1 * p0.1)) 64)) + 1))), (90, .int .u64 v37)]) (by kernel_rfl) ?_
          refine WD.pure (i := 14) (v := .int .u64 r15) (by kernel_rfl) (by kernel_rfl) (fun _ => by kernel_rfl) ?_
          refine WD.weaken [2, 9, 80, 82, 90, 91] (L' := [(2, .int .u64 a2), (9, .int .i64 (Int.tmod (wi (a1 * p0.1)) 64)), (80, .slice A2 y30.length c3), (82, .int .i64 (wi ((wi (Int.tdiv (wi (a1 * p0.1)) 64)) + 1))), (90, .int .u64 v37), (91, .int .u64 r15)]) (by kernel_rfl) ?_
          refine WD.pure (i := 15) (v := .int .i64 (Int.tmod (wi (a1 * p0.1)) 64)) (by kernel_rfl) (by kernel_rfl) (fun _ => by kernel_rfl) ?_
          refine WD.weaken [2, 9, 80, 82, 90, 91, 92] (L' := [(2, .int .u64 a2), (9, .int .i64 (Int.tmod (wi (a1 * p0.1)) 64)), (80, .slice A2 y30.length c3), (82, .int .i64 (wi ((wi (Int.tdiv (wi (a1 * p0.1)) 64)) + 1))), (90, .int .u64 v37), (91, .int .u64 r15), (92, .int .i64 (Int.tmod (wi (a1 * p0.1)) 64))]) (by kernel_rfl) ?_
          refine WD.pure (i := 16) (v := .int .i64 (wi (64 - (Int.tmod (wi (a1 * p0.1)) 64)))) (by kernel_rfl) (by kernel_rfl) (fun _ => by kernel_rfl) ?_
          refine WD.weaken [2, 9, 80, 82, 90, 91, 93] (L' := [(2, .int .u64 a2), (9, .int .i64 (Int.tmod (wi (a1 * p0.1)) 64)), (80, .slice A2 y30.length c3), (82, .int .i64 (wi ((wi (Int.tdiv (wi (a1 * p0.1)) 64)) + 1))), (90, .int .u64 v37), (91, .int .u64 r15), (93, .int .i64 (wi (64 - (Int.tmod (wi (a1 * p0.1)) 64))))]) (by kernel_rfl) ?_
          obtain ⟨_, e39, H⟩ := bind_ex H
          refine WD.ofP (i := 17) (by kernel_rfl) (PSt.shift (k := .u64) (k2 := .i64) (t := 22) (t2 := 3) (a := r15) (b := (wi (64 - (Int.tmod (wi (a1 * p0.1)) 64)))) .shr (by decide) (.tmp 91) (.tmp 93) (by kernel_rfl) (by kernel_rfl) (by kernel_rfl) (by kernel_rfl) (of_decide_eq_true (chk?_some e39)) ?_)
          refine WD.weaken [2, 9, 80, 82, 90, 94] (L' := [(2, .int .u64 a2), (9, .int .i64 (Int.tmod (wi (a1 * p0.1)) 64)), (80, .slice A2 y30.length c3), (82, .int .i64 (wi ((wi (Int.tdiv (wi (a1 * p0.1)) 64)) + 1))), (90, .int .u64 v37), (94, .int .u64 (ishr .u64 r15 (wi (64 - (Int.tmod (wi (a1 * p0.1)) 64)))))]) (by kernel_rfl) ?_
          refine WD.pure (i := 18) (v := .int .u64 (iandn .u64 v37 (ishr .u64 r15 (wi (64 - (Int.tmod (wi (a1 * p0.1)) 64)))))) (by kernel_rfl) (by kernel_rfl) (fun _ => by kernel_rfl) ?_
          refine WD.weaken [2, 9, 80, 82, 95] (L' := [(2, .int .u64 a2), (9, .int .i64 (Int.tmod (wi (a1 * p0.1)) 64)), (80, .slice A2 y30.length c3), (82, .int .i64 (wi ((wi (Int.tdiv (wi (a1 * p0.1)) 64)) + 1))), (95, .int .u64 (iandn .u64 v37 (ishr .u64 r15 (wi (64 - (Int.tmod (wi (a1 * p0.1)) 64))))))]) (by kernel_rfl) ?_
          refine WD.pure (i := 19) (v := .int .u64 a2) (by kernel_rfl) (by kernel_rfl) (fun _ => by kernel_rfl) ?_
          refine WD.weaken [9, 80, 82, 95, 96] (L' := [(9, .int .i64 (Int.tmod (wi (a1 * p0.1)) 64)), (80, .slice A2 y30.length c3), (82, .int .i64 (wi ((wi (Int.tdiv (wi (a1 * p0.1)) 64)) + 1))), (95, .int .u64 (iandn .u64 v37 (ishr .u64 r15 (wi (64 - (Int.tmod (wi (a1 * p0.1)) 64)))))), (96, .int .u64 a2)]) (by kernel_rfl) ?_
          refine WD.pure (i := 20) (v := .int .i64 (Int.tmod (wi (a1 * p0.1)) 64)) (by kernel_rfl) (by kernel_rfl) (fun _ => by kernel_rfl) ?_
          refine WD.weaken [80, 82, 95, 96, 97] (L' := [(80, .slice A2 y30.length c3), (82, .int .i64 (wi ((wi (Int.tdiv (wi (a1 * p0.1)) 64)) + 1))), (95, .int .u64 (iandn .u64 v37 (ishr .u64 r15 (wi (64 - (Int.tmod (wi (a1 * p0.1)) 64)))))), (96, .int .u64 a2), (97, .int .i64 (Int.tmod (wi (a1 * p0.1)) 64))]) (by kernel_rfl) ?_
          refine WD.pure (i := 21) (v := .int .i64 (wi (64 - (Int.tmod (wi (a1 * p0.1)) 64)))) (by kernel_rfl) (by kernel_rfl) (fun _ => by kernel_rfl) ?_
          refine WD.weaken [80, 82, 95, 96, 98] (L' := [(80, .slice A2 y30.length c3), (82, .int .i64 (wi ((wi (Int.tdiv (wi (a1 * p0.1)) 64)) + 1))), (95, .int .u64 (iandn .u64 v37 (ishr .u64 r15 (wi (64 - (Int.tmod (wi (a1 * p0.1)) 64)))))), (96, .int .u64 a2), (98, .int .i64 (wi (64 - (Int.tmod (wi (a1 * p0.1)) 64))))]) (by kernel_rfl) ?_
          obtain ⟨_, e40, H⟩ := bind_ex H
          refine WD.ofP (i := 22) (by kernel_rfl) (PSt.shift (k := .u64) (k2 := .i64) (t := 22) (t2 := 3) (a := a2) (b := (wi (64 - (Int.tmod (wi (a1 * p0.1)) 64)))) .shr (by decide) (.tmp 96) (.tmp 98) (by kernel_rfl) (by kernel_rfl) (by kernel_rfl) (by kernel_rfl) (of_decide_eq_true (chk?_some e40)) ?_)
          refine WD.weaken [80, 82, 95, 99] (L' := [(80, .slice A2 y30.length c3), (82, .int .i64 (wi ((wi (Int.tdiv (wi (a1 * p0.1)) 64)) + 1))), (95, .int .u64 (iandn .u64 v37 (ishr .u64 r15 (wi (64 - (Int.tmod (wi (a1 * p0.1)) 64)))))), (99, .int .u64 (ishr .u64 a2 (wi (64 - (Int.tmod (wi (a1 * p0.1)) 64)))))]) (by kernel_rfl) ?_
          refine WD.pure (i := 23) (v := .int .u64 (ior .u64 (iandn .u64 v37 (ishr .u64 r15 (wi (64 - (Int.tmod (wi (a1 * p0.1)) 64))))) (ishr .u64 a2 (wi (64 - (Int.tmod (wi (a1 * p0.1)) 64)))))) (by kernel_rfl) (by kernel_rfl) (fun _ => by kernel_rfl) ?_
          refine WD.weaken [80, 82, 100] (L' := [(80, .slice A2 y30.length c3), (82, .int .i64 (wi ((wi (Int.tdiv (wi (a1 * p0.1)) 64)) + 1))), (100, .int .u64 (ior .u64 (iandn .u64 v37 (ishr .u64 r15 (wi (64 - (Int.tmod (wi (a1 * p0.1)) 64))))) (ishr .u64 a2 (wi (64 - (Int.tmod (wi (a1 * p0.1)) 64))))))]) (by kernel_rfl) ?_
          refine WD.ofP (i := 24) (by kernel_rfl) (PSt.idx (k := .i64) (.tmp 80) (.tmp 82) (by kernel_rfl) (by kernel_rfl) E32 (by kernel_rfl) (by kernel_rfl) (Sat.rdAt 0 hS rfl) e38 ?_)
          refine WD.weaken [100, 101] (L' := [(100, .int .u64 (ior .u64 (iandn .u64 v37 (ishr .u64 r15 (wi (64 - (Int.tmod (wi (a1 * p0.1)) 64))))) (ishr .u64 a2 (wi (64 - (Int.tmod (wi (a1 * p0.1)) 64)))))), (101, .pointer (some (adr A2 (wi ((wi (Int.tdiv (wi (a1 * p0.1)) 64)) + 1)).toNat 1)))]) (by kernel_rfl) ?_
          obtain ⟨y41, e42, H⟩ := bind_ex H
          refine WD.act (i := 25) (by kernel_rfl) (St.storeElem' (t := 22) (.tmp 101) (.tmp 100) (by kernel_rfl) (by kernel_rfl) (by kernel_rfl) hS (by kernel_rfl) (by kernel_rfl) rfl e42 rfl (fun w43 hS => ?_))
          refine ⟨(asked.anc (by kernel_rfl) (asked.anc (by kernel_rfl) (asked.anc (by kernel_rfl) (asked.nil _ _)))), ?_⟩
          have hl44 := set?_len e42
          have hS : Sat w43 B [osl 22 (r0 (.int .u64)) 1 A2 c3 y41, pts b0 (.cells #[.int .i64 p0.1, .int .i64 p0.2.1, .slice A2 y41.length c3] 55 (0, 0))] := by simpa only [hl44] using hS
          refine WD.weaken [] (L' := []) (by kernel_rfl) ?_
          refine WD.nil (by kernel_rfl) ?_
          refine At.go ?_
          refine WC.seq (by kernel_rfl) ?_
          refine WC.reg [0] (by kernel_rfl) (by kernel_rfl) ?_
          refine WR.runk [0] [] [6] (L' := [(6, .bool true)]) (w' := w43) (by kernel_rfl) ?_
          refine WR.nil ?_
          refine At.go ?_
          refine WC.ret (by kernel_rfl) ?_
          obtain rfl := Option.some.inj H
          have hS : Sat w43 B [pts b0 (.cells #[.int .i64 p0.1, .int .i64 p0.2.1, .slice A2 y41.length c3] 55 (0, 0)), osl 22 (r0 (.int .u64)) 1 A2 c3 y41] := hS.sel [1, 0] (by kernel_rfl)
          have hS : Sat w43 B [O55 b0 (p0.1, p0.2.1, y41)] := O55.close (p0.1, p0.2.1, y41) A2 c3 hS
          have hS : Sat w43 B [O55 b0 (p0.1, p0.2.1, y41)] := hS.sel [0] (by kernel_rfl)
          exact At.body [.bool true] (by kernel_rfl) ⟨_, rfl, rfl, hS⟩
        · replace H := ite_f H hb34
          refine WC.skip (by kernel_rfl) ?_
          refine At.go ?_
          refine WC.seq (by kernel_rfl) ?_
          refine WC.reg [0] (by kernel_rfl) (by kernel_rfl) ?_
          refine WR.runk [0] [] [6] (L' := [(6, .bool true)]) (w' := w32) (by kernel_rfl) ?_
          refine WR.nil ?_
          refine At.go ?_
          refine WC.ret (by kernel_rfl) ?_
          obtain rfl := Option.some.inj H
          have hS : Sat w32 B [pts b0 (.cells #[.int .i64 p0.1, .int .i64 p0.2.1, .slice A2 y30.length c3] 55 (0, 0)), osl 22 (r0 (.int .u64)) 1 A2 c3 y30] := hS.sel [1, 0] (by kernel_rfl)
          have hS : Sat w32 B [O55 b0 (p0.1, p0.2.1, y30)] := O55.close (p0.1, p0.2.1, y30) A2 c3 hS
          have hS : Sat w32 B [O55 b0 (p0.1, p0.2.1, y30)] := hS.sel [0] (by kernel_rfl)
          exact At.body [.bool true] (by kernel_rfl) ⟨_, rfl, rfl, hS⟩
/-! ### 27 slices.Clone[[]uint64,uint64] -/
def slices_Clone.f (l0 : List Int) : Option (List Int) := ((app? 17592186044416 (([] : List Int) : List Int) l0).bind fun y5 => some y5)
def slices_Clone.post (w : World) (r : (List Int)) (v : Value) (w' : World) : Prop := ∃ (A0' : Option Addr) (c0' : Nat), v = (.slice A0' r.length c0' : Value) ∧ Sat w' (rf w) [osl 22 (r0 (.int .u64)) 1 A0' c0' r]
theorem slices_Clone.calls (w0 : World) (A0 : Option Addr) (c0 : Nat) (l0 : List Int) (R0 : rdS (r0 (.int .u64)) 1 (hp w0) A0 c0 l0) (r : (List Int)) (H : slices_Clone.f l0 = some r) :
    Calls Try.prog 27 #[.slice A0 l0.length c0] w0 (fun e w' => ∃ v, e = .returned v ∧ slices_Clone.post w0 r v w') := by
  have hS : Sat w0 (rf w0) [] := Sat.start w0
  unfold slices_Clone.f at H
  refine calls_of_WC (vs := [.slice A0 l0.length c0]) Try.func27 (c := C27) (n := 8) (by kernel_rfl) (by kernel_rfl) (by kernel_rfl) ?_
  refine WC.seq (by kernel_rfl) ?_
  refine WC.reg [0] (by kernel_rfl) (by kernel_rfl) ?_
  refine WR.runk [0] [] [0] (L' := [(0, .slice A0 l0.length c0)]) (w' := w0) (by kernel_rfl) ?_
  refine WR.nil ?_
  refine At.go ?_
  refine WC.seq (by kernel_rfl) ?_
  refine WC.seq (by kernel_rfl) ?_
  refine WC.reg [0, 1] (by kernel_rfl) (by kernel_rfl) ?_
  refine WR.runk [0] [1] [0, 3] (L' := [(0, .slice A0 l0.length c0), (3, .slice A0 l0.length c0)]) (w' := w0) (by kernel_rfl) ?_
  refine WR.st (St.ofP (PSt.eqNil (t := 32) (t2 := 32) (e := 22) (A := A0) (m := l0.length) (c := c0) .eql (by decide) (.tmp 3) (by kernel_rfl) (by kernel_rfl) (by kernel_rfl) (by kernel_rfl) ?_))
  refine WR.runk [] [] [0, 4] (L' := [(0, .slice A0 l0.length c0), (4, .bool A0.isNone)]) (w' := w0) (by kernel_rfl) ?_
  refine WR.nil ?_
  refine At.go ?_
  refine WC.cond (by kernel_rfl) A0.isNone (by kernel_rfl) (by kernel_rfl) (fun hb1 => ?_) (fun hb1 => ?_)
  · have hnl := rdS.isNone (rdS.up R0 hS.sub0) (by simpa using hb1)
    rw [hnl] at H
    refine WC.seq (by kernel_rfl) ?_
    refine WC.reg [0] (by kernel_rfl) (by kernel_rfl) ?_
    refine WR.runk [0] [] [2] (L' := [(2, .slice none 0 0)]) (w' := w0) (by kernel_rfl) ?_
    refine WR.nil ?_
    refine At.go ?_
    refine WC.ret (by kernel_rfl) ?_
    refine At.thenRet ?_
    obtain rfl := Option.some.inj (show some ([] : List Int) = some r from H)
    have hS := hS.addNil (α := Int) 22 (r0 (.int .u64)) 1
    have hS : Sat w0 (rf w0) [osl 22 (r0 (.int .u64)) 1 none 0 ([] : List Int)] := hS.sel [0] (by kernel_rfl)
    exact At.body [.slice none 0 0] (by kernel_rfl) ⟨_, rfl, _, _, rfl, hS⟩
  · refine WC.skip (by kernel_rfl) ?_
    refine At.go ?_
    refine WC.seq (by kernel_rfl) ?_
    refine WC.reg [0, 1, 2, 3] (by kernel_rfl) (by kernel_rfl) ?_
    refine WR.runk [] [0, 1, 2, 3] [0] (L' := [(0, .slice A0 l0.length c0)]) (w' := w0) (by kernel_rfl) ?_
    refine WR.st (St.box hS (by kernel_rfl) (.cells #[] 22) (fun b2 => .slice (some ⟨b2, 0, none⟩) 0 0) (fun _ => by kernel_rfl) (fun b2 w3 hS => ?_))
    refine WR.runk [1] [2, 3] [5, 6] (L' := [(5, .slice (some ⟨b2, 0, none⟩) 0 0), (6, .slice A0 l0.length c0)]) (w' := w3) (by kernel_rfl) ?_
    have hS : Sat w3 (rf w0) [osl 22 (r0 (.int .u64)) 1 (some ⟨b2, 0, none⟩) (([] : List Int) : List Int).length (([] : List Int) : List Int)] := Sat.toOsl' (r0 (.int .u64)) 1 (([] : List Int) : List Int) hS rfl (rdL.nil _ _)
    obtain ⟨y5, e4, H⟩ := bind_ex H
    refine WR.st (St.append' (.tmp 5) (.tmp 6) (by kernel_rfl) (by kernel_rfl) E32 (r0_one _) hS (by kernel_rfl) (by kernel_rfl) (rdS.up R0 hS.sub0) 17592186044416 (by kernel_rfl) (by kernel_rfl) e4 (fun A6 c7 w8 hS => ?_))
    refine WR.runk [3] [] [2] (L' := [(2, .slice A6 y5.length c7)]) (w' := w8) (by kernel_rfl) ?_
    refine WR.nil ?_
    refine At.go ?_
    refine WC.ret (by kernel_rfl) ?_
    obtain rfl := Option.some.inj H
    have hS : Sat w8 (rf w0) [osl 22 (r0 (.int .u64)) 1 A6 c7 y5] := hS.sel [0] (by kernel_rfl)
    exact At.body [.slice A6 y5.length c7] (by kernel_rfl) ⟨_, rfl, _, _, rfl, hS⟩
/-! ### 14 (*colophon/pack.Ints).Words -/
def pack_Ints_Words.f (p0 : Option (Int × Int × (List Int))) : Option (List Int) := (match p0 with | none => some ([] : List Int) | some y3 => ((slices_Clone.f y3.2.2).bind fun r12 => some r12))
def pack_Ints_Words.post (w : World) (r : (List Int)) (v : Value) (w' : World) : Prop := ∃ (A0' : Option Addr) (c0' : Nat), v = (.slice A0' r.length c0' : Value) ∧ Sat w' (rf w) [osl 22 (r0 (.int .u64)) 1 A0' c0' r]
theorem pack_Ints_Words.calls (w0 : World) (v0 : Value) (p0 : Option (Int × Int × (List Int))) (R0 : rd (hp w0) (.ptr 55 (.pair (.int .i64) (.pair (.int .i64) (.slice 22 (.int .u64))))) [v0] p0) (r : (List Int)) (H : pack_Ints_Words.f p0 = some r) :
    Calls Try.prog 14 #[v0] w0 (fun e w' => ∃ v, e = .returned v ∧ pack_Ints_Words.post w0 r v w') := by
  have hS : Sat w0 (rf w0) [] := Sat.start w0
  unfold pack_Ints_Words.f at H
  refine calls_of_WC (vs := [v0]) Try.func14 (c := C14) (n := 10) (by kernel_rfl) (by kernel_rfl) (by kernel_rfl) ?_
  refine WC.seq (by kernel_rfl) ?_
  refine WC.reg [0] (by kernel_rfl) (by kernel_rfl) ?_
  refine WR.runk [0] [] [0] (L' := [(0, v0)]) (w' := w0) (by kernel_rfl) ?_
  refine WR.nil ?_
  refine At.go ?_
  refine WC.seq (by kernel_rfl) ?_
  refine WC.seq (by kernel_rfl) ?_
  refine WC.reg [0, 1] (by kernel_rfl) (by kernel_rfl) ?_
  refine WR.runk [0] [1] [0, 3] (L' := [(0, v0), (3, v0)]) (w' := w0) (by kernel_rfl) ?_
  rcases opt_cases p0 with hr1 | ⟨y3, hr1⟩
  · rw [hr1] at H
    dsimp only at H
    have hx2 := rd_ptr_none R0 hr1
    try subst hx2
    refine WR.runk [1] [] [0, 4] (L' := [(0, .pointer none), (4, .bool true)]) (w' := w0) (by kernel_rfl) ?_
    refine WR.nil ?_
    refine At.go ?_
    refine WC.condT (by kernel_rfl) (by kernel_rfl) (by kernel_rfl) ?_
    refine WC.seq (by kernel_rfl) ?_
    refine WC.reg [0] (by kernel_rfl) (by kernel_rfl) ?_
    refine WR.runk [0] [] [2] (L' := [(2, .slice none 0 0)]) (w' := w0) (by kernel_rfl) ?_
    refine WR.nil ?_
    refine At.go ?_
    refine WC.ret (by kernel_rfl) ?_
    refine At.thenRet ?_
    obtain rfl := Option.some.inj H
    have hS := hS.addNil (α := Int) 22 (r0 (.int .u64)) 1
    have hS : Sat w0 (rf w0) [osl 22 (r0 (.int .u64)) 1 none 0 ([] : List Int)] := hS.sel [0] (by kernel_rfl)
    exact At.body [.slice none 0 0] (by kernel_rfl) ⟨_, rfl, _, _, rfl, hS⟩
  · rw [hr1] at H
    dsimp only at H
    obtain ⟨b4, fr5, A9, c10, hv6, hb7, R11⟩ := P55.open R0 hr1
    have R8 := R0
    rw [hv6, hr1] at R8
    try subst hv6
    replace R11 : rdS (r0 (.int .u64)) 1 (hp w0) A9 c10 y3.2.2 := R11
    refine WR.runk [1] [] [0, 4] (L' := [(0, .pointer (some ⟨b4, 0, none⟩)), (4, .bool false)]) (w' := w0) (by kernel_rfl) ?_
    refine WR.nil ?_
    refine At.go ?_
    refine WC.condF (by kernel_rfl) (by kernel_rfl) (by kernel_rfl) ?_
    refine WC.skip (by kernel_rfl) ?_
    refine At.go ?_
    refine WC.seq (by kernel_rfl) ?_
    refine WC.reg [0, 1, 2, 3, 4, 5] (by kernel_rfl) (by kernel_rfl) ?_
    refine WR.runk [0, 1, 2] [3, 4, 5] [7] (L' := [(7, .pointer (some ⟨b4, 2, none⟩))]) (w' := w0) (by kernel_rfl) ?_
    refine WR.st (St.ofR (RSt.loadRo (t := 32) (k := 2) (v := .slice A9 y3.2.2.length c10) (.tmp 7) (by kernel_rfl) (by kernel_rfl) (by kernel_rfl) hS.sub0 hb7 (by kernel_rfl) rfl ?_))
    refine WR.runk [] [4, 5] [8] (L' := [(8, .slice A9 y3.2.2.length c10)]) (w' := w0) (by kernel_rfl) ?_
    obtain ⟨r12, e13, H⟩ := bind_ex H
    refine WR.st (St.call (by kernel_rfl) (f := 27) (args := #[.slice A9 y3.2.2.length c10]) (by kernel_rfl) (slices_Clone.calls w0 A9 c10 y3.2.2 (rdS.up R11 hS.sub0) r12 e13) ?_)
    rintro _ w19 ⟨A21, c22, rfl, hS20⟩
    have hS : Sat w19 (rf w0) [osl 22 (r0 (.int .u64)) 1 A21 c22 r12] := hS.ext hS20
    refine WR.runk [5] [] [2] (L' := [(2, .slice A21 r12.length c22)]) (w' := w19) (by kernel_rfl) ?_
    refine WR.nil ?_
    refine At.go ?_
    refine WC.ret (by kernel_rfl) ?_
    obtain rfl := Option.some.inj H
    have hS : Sat w19 (rf w0) [osl 22 (r0 (.int .u64)) 1 A21 c22 r12] := hS.sel [0] (by kernel_rfl)
    exact At.body [.slice A21 r12.length c22] (by kernel_rfl) ⟨_, rfl, _, _, rfl, hS⟩
/-! ### 15 colophon/pack.From -/
def pack_From.f (a0 : Int) (a1 : Int) (l2 : List Int) : Option ((Option (Int × Int × (List Int))) × Int) := ((pack_New.f a0 a1).bind fun r1 => (if (r1.2 != 0) then some (none, r1.2) else (r1.1.bind fun y12 => (if ((l2.length : Int) != (y12.2.2.length : Int)) then some (none, 10) else (if decide (Int.tmod (wi (a0 * a1)) 64 > 0) then ((at? l2 (wi ((l2.length : Int) - 1))).bind fun v21 => ((chk? (decide (0 ≤ (Int.tmod (wi (a0 * a1)) 64)))).bind fun _ => (if ((ishr .u64 v21 (Int.tmod (wi (a0 * a1)) 64)) != 0) then some (none, 10) else some (some (y12.1, y12.2.1, (cpy y12.2.2 l2)), 0)))) else some (some (y12.1, y12.2.1, (cpy y12.2.2 l2)), 0))))))
def pack_From.post (w : World) (r : (Option (Int × Int × (List Int))) × Int) (v : Value) (w' : World) : Prop := ∃ (v0 : Value), v = .tuple #[v0, .int .i64 r.2] ∧ Sat w' (rf w) [optP O55 v0 r.1]
theorem pack_From.calls (w0 : World) (a0 : Int) (a1 : Int) (A2 : Option Addr) (c2 : Nat) (l2 : List Int) (R2 : rdS (r0 (.int .u64)) 1 (hp w0) A2 c2 l2) (r : (Option (Int × Int × (List Int))) × Int) (H : pack_From.f a0 a1 l2 = some r) :
    Calls Try.prog 15 #[.int .i64 a0, .int .i64 a1, .slice A2 l2.length c2] w0 (fun e w' => ∃ v, e = .returned v ∧ pack_From.post w0 r v w') := by
  have hS : Sat w0 (rf w0) [] := Sat.start w0
  unfold pack_From.f at H
  refine calls_of_WC (vs := [.int .i64 a0, .int .i64 a1, .slice A2 l2.length c2]) Try.func15 (c := C15) (n := 52) (by kernel_rfl) (by kernel_rfl) (by kernel_rfl) ?_
  refine WC.seq (by kernel_rfl) ?_
  refine WC.reg [0, 1] (by kernel_rfl) (by kernel_rfl) ?_
  refine WR.runk [0, 1] [] [0, 1, 2] (L' := [(0, .int .i64 a0), (1, .int .i64 a1), (2, .slice A2 l2.length c2)]) (w' := w0) (by kernel_rfl) ?_
  refine WR.nil ?_
  refine At.go ?_
  refine WC.seq (by kernel_rfl) ?_
  refine WC.reg [0, 1, 2, 3, 4, 5, 6, 7] (by kernel_rfl) (by kernel_rfl) ?_
  refine WR.runk [0, 1] [2, 3, 4, 5, 6, 7] [0, 1, 2, 12, 13] (L' := [(0, .int .i64 a0), (1, .int .i64 a1), (2, .slice A2 l2.length c2), (12, .int .i64 a0), (13, .int .i64 a1)]) (w' := w0) (by kernel_rfl) ?_
  obtain ⟨r1, e2, H⟩ := bind_ex H
  refine WR.st (St.call (by kernel_rfl) (f := 11) (args := #[.int .i64 a0, .int .i64 a1]) (by kernel_rfl) (pack_New.calls w0 a0 a1 r1 e2) ?_)
  rintro _ w8 ⟨pv10, rfl, hS9⟩
  have hS : Sat w8 (rf w0) [optP O55 pv10 r1.1] := hS.ext hS9
  refine WR.runk [3, 4, 5, 6, 7] [] [0, 1, 2, 8, 9] (L' := [(0, .int .i64 a0), (1, .int .i64 a1), (2, .slice A2 l2.length c2), (8, pv10), (9, .int .i64 r1.2)]) (w' := w8) (by kernel_rfl) ?_
  refine WR.nil ?_
  refine At.go ?_
  refine WC.seq (by kernel_rfl) ?_
  refine WC.seq (by kernel_rfl) ?_
  refine WC.reg [0, 1] (by kernel_rfl) (by kernel_rfl) ?_
  refine WR.runk [0, 1] [] [0, 1, 2, 8, 9, 18] (L' := [(0, .int .i64 a0), (1, .int .i64 a1), (2, .slice A2 l2.length c2), (8, pv10), (9, .int .i64 r1.2), (18, .bool (r1.2 != 0))]) (w' := w8) (by kernel_rfl) ?_
  refine WR.nil ?_
  refine At.go ?_
  refine WC.cond (by kernel_rfl) (r1.2 != 0) (by kernel_rfl) (by kernel_rfl) (fun hb11 => ?_) (fun hb11 => ?_)
  · replace H := ite_t H hb11
    refine WC.seq (by kernel_rfl) ?_
    refine WC.reg [0, 1, 2] (by kernel_rfl) (by kernel_rfl) ?_
    refine WR.runk [0, 1, 2] [] [6, 7] (L' := [(6, .pointer none), (7, .int .i64 r1.2)]) (w' := w8) (by kernel_rfl) ?_
    refine WR.nil ?_
    refine At.go ?_
    refine WC.ret (by kernel_rfl) ?_
    refine At.thenRet ?_
    obtain rfl := Option.some.inj H
    have hS := optP.nil (O := O55) hS
    have hS : Sat w8 (rf w0) [optP O55 (.pointer none) none] := hS.sel [0] (by kernel_rfl)
    exact At.body [.pointer none, .int .i64 r1.2] (by kernel_rfl) ⟨_, rfl, _, rfl, hS⟩
  · replace H := ite_f H hb11
    refine WC.skip (by kernel_rfl) ?_
    refine At.go ?_
    refine WC.seq (by kernel_rfl) ?_
    refine WC.seq (by kernel_rfl) ?_
    refine WC.reg [0, 1, 2, 3, 4, 5, 6, 7] (by kernel_rfl) (by kernel_rfl) ?_
    refine WR.runk [0, 1, 2] [3, 4, 5, 6, 7] [0, 1, 2, 8, 21, 22] (L' := [(0, .int .i64 a0), (1, .int .i64 a1), (2, .slice A2 l2.length c2), (8, pv10), (21, .int .i64 (l2.length : Int)), (22, pv10)]) (w' := w8) (by kernel_rfl) ?_
    obtain ⟨y12, hr13, H⟩ := bind_ex H
    obtain ⟨b15, hv14, hN29⟩ := optP.some hS hr13
    subst hv14
    have hS : Sat w8 (rf w0) [O55 b15 y12] := hN29
    refine WR.runk [3, 4] [5, 6, 7] [0, 1, 2, 8, 21, 24] (L' := [(0, .int .i64 a0), (1, .int .i64 a1), (2, .slice A2 l2.length c2), (8, .pointer (some ⟨b15, 0, none⟩)), (21, .int .i64 (l2.length : Int)), (24, .pointer (some ⟨b15, 2, none⟩))]) (w' := w8) (by kernel_rfl) ?_
    obtain ⟨A17, c18, hS⟩ := O55.open hS
    have hS : Sat w8 (rf w0) [pts b15 (.cells #[.int .i64 y12.1, .int .i64 y12.2.1, .slice A17 y12.2.2.length c18] 55 (0, 0)), osl 22 (r0 (.int .u64)) 1 A17 c18 y12.2.2] := hS
    refine WR.st (St.ofR (RSt.loadObj (t := 32) (k := 2) (v := .slice A17 y12.2.2.length c18) (.tmp 24) (by kernel_rfl) (by kernel_rfl) (by kernel_rfl) 0 hS rfl (by kernel_rfl) rfl ?_))
    refine WR.runk [6, 7] [] [0, 1, 2, 8, 27] (L' := [(0, .int .i64 a0), (1, .int .i64 a1), (2, .slice A2 l2.length c2), (8, .pointer (some ⟨b15, 0, none⟩)), (27, .bool ((l2.length : Int) != (y12.2.2.length : Int)))]) (w' := w8) (by kernel_rfl) ?_
    refine WR.nil ?_
    refine At.go ?_
    refine WC.cond (by kernel_rfl) ((l2.length : Int) != (y12.2.2.length : Int)) (by kernel_rfl) (by kernel_rfl) (fun hb19 => ?_) (fun hb19 => ?_)
    · replace H := ite_t H hb19
      refine WC.seq (by kernel_rfl) ?_
      refine WC.reg [0, 1] (by kernel_rfl) (by kernel_rfl) ?_
      refine WR.runk [0, 1] [] [6, 7] (L' := [(6, .pointer none), (7, .int .i64 10)]) (w' := w8) (by kernel_rfl) ?_
      refine WR.nil ?_
      refine At.go ?_
      refine WC.ret (by kernel_rfl) ?_
      refine At.thenRet ?_
      obtain rfl := Option.some.inj H
      have hS := optP.nil (O := O55) hS
      have hS : Sat w8 (rf w0) [optP O55 (.pointer none) none] := hS.sel [0] (by kernel_rfl)
      exact At.body [.pointer none, .int .i64 10] (by kernel_rfl) ⟨_, rfl, _, rfl, hS⟩
    · replace H := ite_f H hb19
      refine WC.skip (by kernel_rfl) ?_
      refine At.go ?_
      refine WC.seq (by kernel_rfl) ?_
      refine WC.seq (by kernel_rfl) ?_
      refine WC.reg [0, 1, 2, 3, 4] (by kernel_rfl) (by kernel_rfl) ?_
      refine WR.runk [0, 1, 2, 3, 4] [] [2, 8, 10] (L' := [(2, .slice A2 l2.length c2), (8, .pointer (some ⟨b15, 0, none⟩)), (10, .int .i64 (Int.tmod (wi (a0 * a1)) 64))]) (w' := w8) (by kernel_rfl) ?_
      refine WR.nil ?_
      refine At.go ?_
      refine WC.seq (by kernel_rfl) ?_
      refine WC.reg [0, 1, 2, 3, 4, 5, 6, 7, 8, 9, 10, 11, 12] (by kernel_rfl) (by kernel_rfl) ?_
      refine WR.runk [0, 1, 2] [3, 4, 5, 6, 7, 8, 9, 10, 11, 12] [2, 8, 10, 34] (L' := [(2, .slice A2 l2.length c2), (8, .pointer (some ⟨b15, 0, none⟩)), (10, .int .i64 (Int.tmod (wi (a0 * a1)) 64)), (34, .bool (decide (Int.tmod (wi (a0 * a1)) 64 > 0)))]) (w' := w8) (by kernel_rfl) ?_
      refine WR.split 34 (b := decide (Int.tmod (wi (a0 * a1)) 64 > 0)) (by kernel_rfl) (fun hb20 => ?_) (fun hb20 => ?_)
      · replace H := ite_t H hb20
        refine WR.runk [3, 4, 5, 6] [7, 8, 9, 10, 11, 12] [2, 8, 10, 34, 35, 38] (L' := [(2, .slice A2 l2.length c2), (8, .pointer (some ⟨b15, 0, none⟩)), (10, .int .i64 (Int.tmod (wi (a0 * a1)) 64)), (34, .bool true), (35, .slice A2 l2.length c2), (38, .int .i64 (wi ((l2.length : Int) - 1)))]) (w' := w8) (by kernel_rfl) ?_
        obtain ⟨v21, e22, H⟩ := bind_ex H
        refine WR.st (St.ofP (PSt.idx (k := .i64) (.tmp 35) (.tmp 38) (by kernel_rfl) (by kernel_rfl) E32 (by kernel_rfl) (by kernel_rfl) (rdS.up R2 hS.sub0) e22 ?_))
        refine WR.runk [] [8, 9, 10, 11, 12] [2, 8, 10, 34, 39] (L' := [(2, .slice A2 l2.length c2), (8, .pointer (some ⟨b15, 0, none⟩)), (10, .int .i64 (Int.tmod (wi (a0 * a1)) 64)), (34, .bool true), (39, .pointer (some (adr A2 (wi ((l2.length : Int) - 1)).toNat 1)))]) (w' := w8) (by kernel_rfl) ?_
        refine WR.st (St.ofR (RSt.loadInt (t := 22) (.tmp 39) (by kernel_rfl) (by kernel_rfl) (by kernel_rfl) (by kernel_rfl) (rdS.up R2 hS.sub0) e22 ?_))
        refine WR.runk [9] [10, 11, 12] [2, 8, 34, 40, 41] (L' := [(2, .slice A2 l2.length c2), (8, .pointer (some ⟨b15, 0, none⟩)), (34, .bool true), (40, .int .u64 v21), (41, .int .i64 (Int.tmod (wi (a0 * a1)) 64))]) (w' := w8) (by kernel_rfl) ?_
        obtain ⟨_, e23, H⟩ := bind_ex H
        refine WR.st (St.ofP (PSt.shift (k := .u64) (k2 := .i64) (t := 22) (t2 := 3) (a := v21) (b := (Int.tmod (wi (a0 * a1)) 64)) .shr (by decide) (.tmp 40) (.tmp 41) (by kernel_rfl) (by kernel_rfl) (by kernel_rfl) (by kernel_rfl) (of_decide_eq_true (chk?_some e23)) ?_))
        refine WR.runk [11, 12] [] [2, 8, 44] (L' := [(2, .slice A2 l2.length c2), (8, .pointer (some ⟨b15, 0, none⟩)), (44, .bool ((ishr .u64 v21 (Int.tmod (wi (a0 * a1)) 64)) != 0))]) (w' := w8) (by kernel_rfl) ?_
        refine WR.nil ?_
        refine At.go ?_
        refine WC.cond (by kernel_rfl) ((ishr .u64 v21 (Int.tmod (wi (a0 * a1)) 64)) != 0) (by kernel_rfl) (by kernel_rfl) (fun hb24 => ?_) (fun hb24 => ?_)
        · replace H := ite_t H hb24
          refine WC.seq (by kernel_rfl) ?_
          refine WC.reg [0, 1] (by kernel_rfl) (by kernel_rfl) ?_
          refine WR.runk [0, 1] [] [6, 7] (L' := [(6, .pointer none), (7, .int .i64 10)]) (w' := w8) (by kernel_rfl) ?_
          refine WR.nil ?_
          refine At.go ?_
          refine WC.ret (by kernel_rfl) ?_
          refine At.thenRet ?_
          obtain rfl := Option.some.inj H
          have hS := optP.nil (O := O55) hS
          have hS : Sat w8 (rf w0) [optP O55 (.pointer none) none] := hS.sel [0] (by kernel_rfl)
          exact At.body [.pointer none, .int .i64 10] (by kernel_rfl) ⟨_, rfl, _, rfl, hS⟩
        · replace H := ite_f H hb24
          refine WC.skip (by kernel_rfl) ?_
          refine At.go ?_
          refine WC.seq (by kernel_rfl) ?_
          refine WC.reg [0, 1, 2, 3, 4, 5] (by kernel_rfl) (by kernel_rfl) ?_
          refine WR.runk [0, 1, 2] [3, 4, 5] [2, 8, 47] (L' := [(2, .slice A2 l2.length c2), (8, .pointer (some ⟨b15, 0, none⟩)), (47, .pointer (some ⟨b15, 2, none⟩))]) (w' := w8) (by kernel_rfl) ?_
          refine WR.st (St.ofR (RSt.loadObj (t := 32) (k := 2) (v := .slice A17 y12.2.2.length c18) (.tmp 47) (by kernel_rfl) (by kernel_rfl) (by kernel_rfl) 0 hS rfl (by kernel_rfl) rfl ?_))
          refine WR.runk [4] [5] [8, 48, 49] (L' := [(8, .pointer (some ⟨b15, 0, none⟩)), (48, .slice A17 y12.2.2.length c18), (49, .slice A2 l2.length c2)]) (w' := w8) (by kernel_rfl) ?_
          have hS : Sat w8 (rf w0) [osl 22 (r0 (.int .u64)) 1 A17 c18 y12.2.2, pts b15 (.cells #[.int .i64 y12.1, .int .i64 y12.2.1, .slice A17 y12.2.2.length c18] 55 (0, 0))] := hS.sel [1, 0] (by kernel_rfl)
          refine WR.st (St.copy (t := 32) (t2 := 32) (e := 22) (.tmp 48) (.tmp 49) (by kernel_rfl) (by kernel_rfl) (by kernel_rfl) (by kernel_rfl) (r0_one _) hS (by kernel_rfl) (by kernel_rfl) (rdS.up R2 hS.sub0) (fun w25 hS => ?_))
          have hl26 := cpy_len y12.2.2 l2
          have hS : Sat w25 (rf w0) [osl 22 (r0 (.int .u64)) 1 A17 c18 (cpy y12.2.2 l2), pts b15 (.cells #[.int .i64 y12.1, .int .i64 y12.2.1, .slice A17 (cpy y12.2.2 l2).length c18] 55 (0, 0))] := by simpa only [hl26] using hS
          refine WR.runk [] [] [8] (L' := [(8, .pointer (some ⟨b15, 0, none⟩))]) (w' := w25) (by kernel_rfl) ?_
          refine WR.nil ?_
          refine At.go ?_
          refine WC.seq (by kernel_rfl) ?_
          refine WC.reg [0, 1, 2] (by kernel_rfl) (by kernel_rfl) ?_
          refine WR.runk [0, 1, 2] [] [6, 7] (L' := [(6, .pointer (some ⟨b15, 0, none⟩)), (7, .int .i64 0)]) (w' := w25) (by kernel_rfl) ?_
          refine WR.nil ?_
          refine At.go ?_
          refine WC.ret (by kernel_rfl) ?_
          obtain rfl := Option.some.inj H
          have hS : Sat w25 (rf w0) [pts b15 (.cells #[.int .i64 y12.1, .int .i64 y12.2.1, .slice A17 (cpy y12.2.2 l2).length c18] 55 (0, 0)), osl 22 (r0 (.int .u64)) 1 A17 c18 (cpy y12.2.2 l2)] := hS.sel [1, 0] (by kernel_rfl)
          have hS : Sat w25 (rf w0) [O55 b15 (y12.1, y12.2.1, (cpy y12.2.2 l2))] := O55.close (y12.1, y12.2.1, (cpy y12.2.2 l2)) A17 c18 hS
          have hS : Sat w25 (rf w0) [optP O55 (.pointer (some ⟨b15, 0, none⟩)) (some (y12.1, y12.2.1, (cpy y12.2.2 l2)))] := optP.mk hS
          have hS : Sat w25 (rf w0) [optP O55 (.pointer (some ⟨b15, 0, none⟩)) (some (y12.1, y12.2.1, (cpy y12.2.2 l2)))] := hS.sel [0] (by kernel_rfl)
          exact At.body [.pointer (some ⟨b15, 0, none⟩), .int .i64 0] (by kernel_rfl) ⟨_, rfl, _, rfl, hS⟩
      · replace H := ite_f H hb20
        refine WR.runk [3, 4, 5, 6, 7, 8, 9, 10, 11, 12] [] [2, 8, 44] (L' := [(2, .slice A2 l2.length c2), (8, .pointer (some ⟨b15, 0, none⟩)), (44, .bool false)]) (w' := w8) (by kernel_rfl) ?_
        refine WR.nil ?_
        refine At.go ?_
        refine WC.condF (by kernel_rfl) (by kernel_rfl) (by kernel_rfl) ?_
        refine WC.skip (by kernel_rfl) ?_
        refine At.go ?_
        refine WC.seq (by kernel_rfl) ?_
        refine WC.reg [0, 1, 2, 3, 4, 5] (by kernel_rfl) (by kernel_rfl) ?_
        refine WR.runk [0, 1, 2] [3, 4, 5] [2, 8, 47] (L' := [(2, .slice A2 l2.length c2), (8, .pointer (some ⟨b15, 0, none⟩)), (47, .pointer (some ⟨b15, 2, none⟩))]) (w' := w8) (by kernel_rfl) ?_
        refine WR.st (St.ofR (RSt.loadObj (t := 32) (k := 2) (v := .slice A17 y12.2.2.length c18) (.tmp 47) (by kernel_rfl) (by kernel_rfl) (by kernel_rfl) 0 hS rfl (by kernel_rfl) rfl ?_))
        refine WR.runk [4] [5] [8, 48, 49] (L' := [(8, .pointer (some ⟨b15, 0, none⟩)), (48, .slice A17 y12.2.2.length c18), (49, .slice A2 l2.length c2)]) (w' := w8) (by kernel_rfl) ?_
        have hS : Sat w8 (rf w0) [osl 22 (r0 (.int .u64)) 1 A17 c18 y12.2.2, pts b15 (.cells #[.int .i64 y12.1, .int .i64 y12.2.1, .slice A17 y12.2.2.length c18] 55 (0, 0))] := hS.sel [1, 0] (by kernel_rfl)
        refine WR.st (St.copy (t := 32) (t2 := 32) (e := 22) (.tmp 48) (.tmp 49) (by kernel_rfl) (by kernel_rfl) (by kernel_rfl) (by kernel_rfl) (r0_one _) hS (by kernel_rfl) (by kernel_rfl) (rdS.up R2 hS.sub0) (fun w27 hS => ?_))
        have hl28 := cpy_len y12.2.2 l2
        have hS : Sat w27 (rf w0) [osl 22 (r0 (.int .u64)) 1 A17 c18 (cpy y12.2.2 l2), pts b15 (.cells #[.int .i64 y12.1, .int .i64 y12.2.1, .slice A17 (cpy y12.2.2 l2).length c18] 55 (0, 0))] := by simpa only [hl28] using hS
        refine WR.runk [] [] [8] (L' := [(8, .pointer (some ⟨b15, 0, none⟩))]) (w' := w27) (by kernel_rfl) ?_
        refine WR.nil ?_
        refine At.go ?_
        refine WC.seq (by kernel_rfl) ?_
        refine WC.reg [0, 1, 2] (by kernel_rfl) (by kernel_rfl) ?_
        refine WR.runk [0, 1, 2] [] [6, 7] (L' := [(6, .pointer (some ⟨b15, 0, none⟩)), (7, .int .i64 0)]) (w' := w27) (by kernel_rfl) ?_
        refine WR.nil ?_
        refine At.go ?_
        refine WC.ret (by kernel_rfl) ?_
        obtain rfl := Option.some.inj H
        have hS : Sat w27 (rf w0) [pts b15 (.cells #[.int .i64 y12.1, .int .i64 y12.2.1, .slice A17 (cpy y12.2.2 l2).length c18] 55 (0, 0)), osl 22 (r0 (.int .u64)) 1 A17 c18 (cpy y12.2.2 l2)] := hS.sel [1, 0] (by kernel_rfl)
        have hS : Sat w27 (rf w0) [O55 b15 (y12.1, y12.2.1, (cpy y12.2.2 l2))] := O55.close (y12.1, y12.2.1, (cpy y12.2.2 l2)) A17 c18 hS
        have hS : Sat w27 (rf w0) [optP O55 (.pointer (some ⟨b15, 0, none⟩)) (some (y12.1, y12.2.1, (cpy y12.2.2 l2)))] := optP.mk hS
        have hS : Sat w27 (rf w0) [optP O55 (.pointer (some ⟨b15, 0, none⟩)) (some (y12.1, y12.2.1, (cpy y12.2.2 l2)))] := hS.sel [0] (by kernel_rfl)
        exact At.body [.pointer (some ⟨b15, 0, none⟩), .int .i64 0] (by kernel_rfl) ⟨_, rfl, _, rfl, hS⟩
/-! ### 13 (*colophon/pack.Ints).Get -/
def pack_Ints_Get.f (p0 : Option (Int × Int × (List Int))) (a1 : Int) : Option Int := (match p0 with | none => some 0 | some y3 => (if decide (a1 < 0) then some 0 else (if decide (a1 ≥ y3.2.1) then some 0 else ((at? y3.2.2 (wi (Int.tdiv (wi (a1 * y3.1)) 64))).bind fun v14 => ((chk? (decide (0 ≤ (Int.tmod (wi (a1 * y3.1)) 64)))).bind fun _ => (if decide (wi ((Int.tmod (wi (a1 * y3.1)) 64) + y3.1) > 64) then ((at? y3.2.2 (wi ((wi (Int.tdiv (wi (a1 * y3.1)) 64)) + 1))).bind fun v18 => ((chk? (decide (0 ≤ (wi (64 - (Int.tmod (wi (a1 * y3.1)) 64)))))).bind fun _ => ((pack_mask.f y3.1).bind fun r21 => some (iand .u64 (ior .u64 (ishr .u64 v14 (Int.tmod (wi (a1 * y3.1)) 64)) (ishl .u64 v18 (wi (64 - (Int.tmod (wi (a1 * y3.1)) 64))))) r21)))) else ((pack_mask.f y3.1).bind fun r30 => some (iand .u64 (ishr .u64 v14 (Int.tmod (wi (a1 * y3.1)) 64)) r30))))))))
def pack_Ints_Get.post (w : World) (r : Int) (v : Value) (w' : World) : Prop := v = (.int .u64 r : Value) ∧ Sat w' (rf w) []
theorem pack_Ints_Get.calls (w0 : World) (v0 : Value) (p0 : Option (Int × Int × (List Int))) (R0 : rd (hp w0) (.ptr 55 (.pair (.int .i64) (.pair (.int .i64) (.slice 22 (.int .u64))))) [v0] p0) (a1 : Int) (r : Int) (H : pack_Ints_Get.f p0 a1 = some r) :
    Calls Try.prog 13 #[v0, .int .i64 a1] w0 (fun e w' => ∃ v, e = .returned v ∧ pack_Ints_Get.post w0 r v w') := by
  have hS : Sat w0 (rf w0) [] := Sat.start w0
  unfold pack_Ints_Get.f at H
  refine calls_of_WC (vs := [v0, .int .i64 a1]) Try.func13 (c := C13) (n := 69) (by kernel_rfl) (by kernel_rfl) (by kernel_rfl) ?_
  refine WC.seq (by kernel_rfl) ?_
  refine WC.reg [0] (by kernel_rfl) (by kernel_rfl) ?_
  refine WR.runk [0] [] [0, 1] (L' := [(0, v0), (1, .int .i64 a1)]) (w' := w0) (by kernel_rfl) ?_
  refine WR.nil ?_
  refine At.go ?_
  refine WC.seq (by kernel_rfl) ?_
  refine WC.seq (by kernel_rfl) ?_
  refine WC.reg [0, 1, 2, 3, 4, 5, 6, 7, 8, 9, 10, 11, 12, 13] (by kernel_rfl) (by kernel_rfl) ?_
  refine WR.runk [0] [1, 2, 3, 4, 5, 6, 7, 8, 9, 10, 11, 12, 13] [0, 1, 9] (L' := [(0, v0), (1, .int .i64 a1), (9, v0)]) (w' := w0) (by kernel_rfl) ?_
  rcases opt_cases p0 with hr1 | ⟨y3, hr1⟩
  · rw [hr1] at H
    dsimp only at H
    have hx2 := rd_ptr_none R0 hr1
    try subst hx2
    refine WR.runk [1, 2, 3, 4, 5, 6, 7, 8, 9, 10, 11, 12, 13] [] [0, 1, 22] (L' := [(0, .pointer none), (1, .int .i64 a1), (22, .bool true)]) (w' := w0) (by kernel_rfl) ?_
    refine WR.nil ?_
    refine At.go ?_
    refine WC.condT (by kernel_rfl) (by kernel_rfl) (by kernel_rfl) ?_
    refine WC.seq (by kernel_rfl) ?_
    refine WC.reg [0] (by kernel_rfl) (by kernel_rfl) ?_
    refine WR.runk [0] [] [4] (L' := [(4, .int .u64 0)]) (w' := w0) (by kernel_rfl) ?_
    refine WR.nil ?_
    refine At.go ?_
    refine WC.ret (by kernel_rfl) ?_
    refine At.thenRet ?_
    obtain rfl := Option.some.inj H
    have hS : Sat w0 (rf w0) [] := hS.sel [] (by kernel_rfl)
    exact At.body [.int .u64 0] (by kernel_rfl) ⟨_, rfl, rfl, hS⟩
  · rw [hr1] at H
    dsimp only at H
    obtain ⟨b4, fr5, A9, c10, hv6, hb7, R11⟩ := P55.open R0 hr1
    have R8 := R0
    rw [hv6, hr1] at R8
    try subst hv6
    replace R11 : rdS (r0 (.int .u64)) 1 (hp w0) A9 c10 y3.2.2 := R11
    refine WR.runk [1, 2, 3, 4, 5, 6] [7, 8, 9, 10, 11, 12, 13] [0, 1, 15] (L' := [(0, .pointer (some ⟨b4, 0, none⟩)), (1, .int .i64 a1), (15, .bool (decide (a1 < 0)))]) (w' := w0) (by kernel_rfl) ?_
    refine WR.split 15 (b := decide (a1 < 0)) (by kernel_rfl) (fun hb12 => ?_) (fun hb12 => ?_)
    · replace H := ite_t H hb12
      refine WR.runk [7, 8, 9, 10, 11, 12, 13] [] [0, 1, 22] (L' := [(0, .pointer (some ⟨b4, 0, none⟩)), (1, .int .i64 a1), (22, .bool true)]) (w' := w0) (by kernel_rfl) ?_
      refine WR.nil ?_
      refine At.go ?_
      refine WC.condT (by kernel_rfl) (by kernel_rfl) (by kernel_rfl) ?_
      refine WC.seq (by kernel_rfl) ?_
      refine WC.reg [0] (by kernel_rfl) (by kernel_rfl) ?_
      refine WR.runk [0] [] [4] (L' := [(4, .int .u64 0)]) (w' := w0) (by kernel_rfl) ?_
      refine WR.nil ?_
      refine At.go ?_
      refine WC.ret (by kernel_rfl) ?_
      refine At.thenRet ?_
      obtain rfl := Option.some.inj H
      have hS : Sat w0 (rf w0) [] := hS.sel [] (by kernel_rfl)
      exact At.body [.int .u64 0] (by kernel_rfl) ⟨_, rfl, rfl, hS⟩
    · replace H := ite_f H hb12
      refine WR.runk [7, 8, 9, 10] [11, 12, 13] [0, 1, 15, 16, 19] (L' := [(0, .pointer (some ⟨b4, 0, none⟩)), (1, .int .i64 a1), (15, .bool false), (16, .int .i64 a1), (19, .pointer (some ⟨b4, 1, none⟩))]) (w' := w0) (by kernel_rfl) ?_
      refine WR.st (St.ofR (RSt.loadRo (t := 3) (k := 1) (v := .int .i64 y3.2.1) (.tmp 19) (by kernel_rfl) (by kernel_rfl) (by kernel_rfl) hS.sub0 hb7 (by kernel_rfl) rfl ?_))
      refine WR.runk [12, 13] [] [0, 1, 22] (L' := [(0, .pointer (some ⟨b4, 0, none⟩)), (1, .int .i64 a1), (22, .bool (decide (a1 ≥ y3.2.1)))]) (w' := w0) (by kernel_rfl) ?_
      refine WR.nil ?_
      refine At.go ?_
      refine WC.cond (by kernel_rfl) (decide (a1 ≥ y3.2.1)) (by kernel_rfl) (by kernel_rfl) (fun hb13 => ?_) (fun hb13 => ?_)
      · replace H := ite_t H hb13
        refine WC.seq (by kernel_rfl) ?_
        refine WC.reg [0] (by kernel_rfl) (by kernel_rfl) ?_
        refine WR.runk [0] [] [4] (L' := [(4, .int .u64 0)]) (w' := w0) (by kernel_rfl) ?_
        refine WR.nil ?_
        refine At.go ?_
        refine WC.ret (by kernel_rfl) ?_
        refine At.thenRet ?_
        obtain rfl := Option.some.inj H
        have hS : Sat w0 (rf w0) [] := hS.sel [] (by kernel_rfl)
        exact At.body [.int .u64 0] (by kernel_rfl) ⟨_, rfl, rfl, hS⟩
      · replace H := ite_f H hb13
        refine WC.skip (by kernel_rfl) ?_
        refine At.go ?_
        refine WC.seq (by kernel_rfl) ?_
        refine WC.reg [0, 1, 2, 3, 4, 5, 6] (by kernel_rfl) (by kernel_rfl) ?_
        refine WR.runk [0, 1, 2, 3] [4, 5, 6] [0, 23, 26] (L' := [(0, .pointer (some ⟨b4, 0, none⟩)), (23, .int .i64 a1), (26, .pointer (some ⟨b4, 0, none⟩))]) (w' := w0) (by kernel_rfl) ?_
        refine WR.st (St.ofR (RSt.loadRo (t := 3) (k := 0) (v := .int .i64 y3.1) (.tmp 26) (by kernel_rfl) (by kernel_rfl) (by kernel_rfl) hS.sub0 hb7 (by kernel_rfl) rfl ?_))
        refine WR.runk [5, 6] [] [0, 5] (L' := [(0, .pointer (some ⟨b4, 0, none⟩)), (5, .int .i64 (wi (a1 * y3.1)))]) (w' := w0) (by kernel_rfl) ?_
        refine WR.nil ?_
        refine At.go ?_
        refine WC.seq (by kernel_rfl) ?_
        refine WC.reg [0, 1, 2, 3, 4, 5] (by kernel_rfl) (by kernel_rfl) ?_
        refine WR.runk [0, 1, 2, 3, 4, 5] [] [0, 6, 7] (L' := [(0, .pointer (some ⟨b4, 0, none⟩)), (6, .int .i64 (wi (Int.tdiv (wi (a1 * y3.1)) 64))), (7, .int .i64 (Int.tmod (wi (a1 * y3.1)) 64))]) (w' := w0) (by kernel_rfl) ?_
        refine WR.nil ?_
        refine At.go ?_
        refine WC.seq (by kernel_rfl) ?_
        refine WC.reg [0, 1, 2, 3, 4, 5, 6, 7, 8, 9] (by kernel_rfl) (by kernel_rfl) ?_
        refine WR.runk [0, 1, 2] [3, 4, 5, 6, 7, 8, 9] [0, 6, 7, 35] (L' := [(0, .pointer (some ⟨b4, 0, none⟩)), (6, .int .i64 (wi (Int.tdiv (wi (a1 * y3.1)) 64))), (7, .int .i64 (Int.tmod (wi (a1 * y3.1)) 64)), (35, .pointer (some ⟨b4, 2, none⟩))]) (w' := w0) (by kernel_rfl) ?_
        refine WR.st (St.ofR (RSt.loadRo (t := 32) (k := 2) (v := .slice A9 y3.2.2.length c10) (.tmp 35) (by kernel_rfl) (by kernel_rfl) (by kernel_rfl) hS.sub0 hb7 (by kernel_rfl) rfl ?_))
        refine WR.runk [4] [5, 6, 7, 8, 9] [0, 6, 7, 36, 37] (L' := [(0, .pointer (some ⟨b4, 0, none⟩)), (6, .int .i64 (wi (Int.tdiv (wi (a1 * y3.1)) 64))), (7, .int .i64 (Int.tmod (wi (a1 * y3.1)) 64)), (36, .slice A9 y3.2.2.length c10), (37, .int .i64 (wi (Int.tdiv (wi (a1 * y3.1)) 64)))]) (w' := w0) (by kernel_rfl) ?_
        obtain ⟨v14, e15, H⟩ := bind_ex H
        refine WR.st (St.ofP (PSt.idx (k := .i64) (.tmp 36) (.tmp 37) (by kernel_rfl) (by kernel_rfl) E32 (by kernel_rfl) (by kernel_rfl) (rdS.up R11 hS.sub0) e15 ?_))
        refine WR.runk [] [6, 7, 8, 9] [0, 6, 7, 38] (L' := [(0, .pointer (some ⟨b4, 0, none⟩)), (6, .int .i64 (wi (Int.tdiv (wi (a1 * y3.1)) 64))), (7, .int .i64 (Int.tmod (wi (a1 * y3.1)) 64)), (38, .pointer (some (adr A9 (wi (Int.tdiv (wi (a1 * y3.1)) 64)).toNat 1)))]) (w' := w0) (by kernel_rfl) ?_
        refine WR.st (St.ofR (RSt.loadInt (t := 22) (.tmp 38) (by kernel_rfl) (by kernel_rfl) (by kernel_rfl) (by kernel_rfl) (rdS.up R11 hS.sub0) e15 ?_))
        refine WR.runk [7] [8, 9] [0, 6, 7, 39, 40] (L' := [(0, .pointer (some ⟨b4, 0, none⟩)), (6, .int .i64 (wi (Int.tdiv (wi (a1 * y3.1)) 64))), (7, .int .i64 (Int.tmod (wi (a1 * y3.1)) 64)), (39, .int .u64 v14), (40, .int .i64 (Int.tmod (wi (a1 * y3.1)) 64))]) (w' := w0) (by kernel_rfl) ?_
        obtain ⟨_, e16, H⟩ := bind_ex H
        refine WR.st (St.ofP (PSt.shift (k := .u64) (k2 := .i64) (t := 22) (t2 := 3) (a := v14) (b := (Int.tmod (wi (a1 * y3.1)) 64)) .shr (by decide) (.tmp 39) (.tmp 40) (by kernel_rfl) (by kernel_rfl) (by kernel_rfl) (by kernel_rfl) (of_decide_eq_true (chk?_some e16)) ?_))
        refine WR.runk [9] [] [0, 6, 7, 8] (L' := [(0, .pointer (some ⟨b4, 0, none⟩)), (6, .int .i64 (wi (Int.tdiv (wi (a1 * y3.1)) 64))), (7, .int .i64 (Int.tmod (wi (a1 * y3.1)) 64)), (8, .int .u64 (ishr .u64 v14 (Int.tmod (wi (a1 * y3.1)) 64)))]) (w' := w0) (by kernel_rfl) ?_
        refine WR.nil ?_
        refine At.go ?_
        refine WC.seq (by kernel_rfl) ?_
        refine WC.seq (by kernel_rfl) ?_
        refine WC.reg [0, 1, 2, 3, 4, 5, 6] (by kernel_rfl) (by kernel_rfl) ?_
        refine WR.runk [0, 1, 2, 3] [4, 5, 6] [0, 6, 7, 8, 42, 45] (L' := [(0, .pointer (some ⟨b4, 0, none⟩)), (6, .int .i64 (wi (Int.tdiv (wi (a1 * y3.1)) 64))), (7, .int .i64 (Int.tmod (wi (a1 * y3.1)) 64)), (8, .int .u64 (ishr .u64 v14 (Int.tmod (wi (a1 * y3.1)) 64))), (42, .int .i64 (Int.tmod (wi (a1 * y3.1)) 64)), (45, .pointer (some ⟨b4, 0, none⟩))]) (w' := w0) (by kernel_rfl) ?_
        refine WR.st (St.ofR (RSt.loadRo (t := 3) (k := 0) (v := .int .i64 y3.1) (.tmp 45) (by kernel_rfl) (by kernel_rfl) (by kernel_rfl) hS.sub0 hb7 (by kernel_rfl) rfl ?_))
        refine WR.runk [5, 6] [] [0, 6, 7, 8, 48] (L' := [(0, .pointer (some ⟨b4, 0, none⟩)), (6, .int .i64 (wi (Int.tdiv (wi (a1 * y3.1)) 64))), (7, .int .i64 (Int.tmod (wi (a1 * y3.1)) 64)), (8, .int .u64 (ishr .u64 v14 (Int.tmod (wi (a1 * y3.1)) 64))), (48, .bool (decide (wi ((Int.tmod (wi (a1 * y3.1)) 64) + y3.1) > 64)))]) (w' := w0) (by kernel_rfl) ?_
        refine WR.nil ?_
        refine At.go ?_
        refine WC.cond (by kernel_rfl) (decide (wi ((Int.tmod (wi (a1 * y3.1)) 64) + y3.1) > 64)) (by kernel_rfl) (by kernel_rfl) (fun hb17 => ?_) (fun hb17 => ?_)
        · replace H := ite_t H hb17
          refine WC.reg [0, 1, 2, 3, 4, 5, 6, 7, 8, 9, 10, 11, 12, 13] (by kernel_rfl) (by kernel_rfl) ?_
          refine WR.runk [0, 1, 2, 3] [4, 5, 6, 7, 8, 9, 10, 11, 12, 13] [0, 6, 7, 8, 49, 52] (L' := [(0, .pointer (some ⟨b4, 0, none⟩)), (6, .int .i64 (wi (Int.tdiv (wi (a1 * y3.1)) 64))), (7, .int .i64 (Int.tmod (wi (a1 * y3.1)) 64)), (8, .int .u64 (ishr .u64 v14 (Int.tmod (wi (a1 * y3.1)) 64))), (49, .int .u64 (ishr .u64 v14 (Int.tmod (wi (a1 * y3.1)) 64))), (52, .pointer (some ⟨b4, 2, none⟩))]) (w' := w0) (by kernel_rfl) ?_
          refine WR.st (St.ofR (RSt.loadRo (t := 32) (k := 2) (v := .slice A9 y3.2.2.length c10) (.tmp 52) (by kernel_rfl) (by kernel_rfl) (by kernel_rfl) hS.sub0 hb7 (by kernel_rfl) rfl ?_))
          refine WR.runk [5, 6] [7, 8, 9, 10, 11, 12, 13] [0, 7, 8, 49, 53, 55] (L' := [(0, .pointer (some ⟨b4, 0, none⟩)), (7, .int .i64 (Int.tmod (wi (a1 * y3.1)) 64)), (8, .int .u64 (ishr .u64 v14 (Int.tmod (wi (a1 * y3.1)) 64))), (49, .int .u64 (ishr .u64 v14 (Int.tmod (wi (a1 * y3.1)) 64))), (53, .slice A9 y3.2.2.length c10), (55, .int .i64 (wi ((wi (Int.tdiv (wi (a1 * y3.1)) 64)) + 1)))]) (w' := w0) (by kernel_rfl) ?_
          obtain ⟨v18, e19, H⟩ := bind_ex H
          refine WR.st (St.ofP (PSt.idx (k := .i64) (.tmp 53) (.tmp 55) (by kernel_rfl) (by kernel_rfl) E32 (by kernel_rfl) (by kernel_rfl) (rdS.up R11 hS.sub0) e19 ?_))
          refine WR.runk [] [8, 9, 10, 11, 12, 13] [0, 7, 8, 49, 56] (L' := [(0, .pointer (some ⟨b4, 0, none⟩)), (7, .int .i64 (Int.tmod (wi (a1 * y3.1)) 64)), (8, .int .u64 (ishr .u64 v14 (Int.tmod (wi (a1 * y3.1)) 64))), (49, .int .u64 (ishr .u64 v14 (Int.tmod (wi (a1 * y3.1)) 64))), (56, .pointer (some (adr A9 (wi ((wi (Int.tdiv (wi (a1 * y3.1)) 64)) + 1)).toNat 1)))]) (w' := w0) (by kernel_rfl) ?_
          refine WR.st (St.ofR (RSt.loadInt (t := 22) (.tmp 56) (by kernel_rfl) (by kernel_rfl) (by kernel_rfl) (by kernel_rfl) (rdS.up R11 hS.sub0) e19 ?_))
          refine WR.runk [9, 10] [11, 12, 13] [0, 8, 49, 57, 59] (L' := [(0, .pointer (some ⟨b4, 0, none⟩)), (8, .int .u64 (ishr .u64 v14 (Int.tmod (wi (a1 * y3.1)) 64))), (49, .int .u64 (ishr .u64 v14 (Int.tmod (wi (a1 * y3.1)) 64))), (57, .int .u64 v18), (59, .int .i64 (wi (64 - (Int.tmod (wi (a1 * y3.1)) 64))))]) (w' := w0) (by kernel_rfl) ?_
          obtain ⟨_, e20, H⟩ := bind_ex H
          refine WR.st (St.ofP (PSt.shift (k := .u64) (k2 := .i64) (t := 22) (t2 := 3) (a := v18) (b := (wi (64 - (Int.tmod (wi (a1 * y3.1)) 64)))) .shl (by decide) (.tmp 57) (.tmp 59) (by kernel_rfl) (by kernel_rfl) (by kernel_rfl) (by kernel_rfl) (of_decide_eq_true (chk?_some e20)) ?_))
          refine WR.runk [12, 13] [] [0, 8] (L' := [(0, .pointer (some ⟨b4, 0, none⟩)), (8, .int .u64 (ior .u64 (ishr .u64 v14 (Int.tmod (wi (a1 * y3.1)) 64)) (ishl .u64 v18 (wi (64 - (Int.tmod (wi (a1 * y3.1)) 64))))))]) (w' := w0) (by kernel_rfl) ?_
          refine WR.nil ?_
          refine At.go ?_
          refine WC.seq (by kernel_rfl) ?_
          refine WC.reg [0, 1, 2, 3, 4, 5, 6, 7] (by kernel_rfl) (by kernel_rfl) ?_
          refine WR.runk [0, 1, 2, 3] [4, 5, 6, 7] [62, 65] (L' := [(62, .int .u64 (ior .u64 (ishr .u64 v14 (Int.tmod (wi (a1 * y3.1)) 64)) (ishl .u64 v18 (wi (64 - (Int.tmod (wi (a1 * y3.1)) 64)))))), (65, .pointer (some ⟨b4, 0, none⟩))]) (w' := w0) (by kernel_rfl) ?_
          refine WR.st (St.ofR (RSt.loadRo (t := 3) (k := 0) (v := .int .i64 y3.1) (.tmp 65) (by kernel_rfl) (by kernel_rfl) (by kernel_rfl) hS.sub0 hb7 (by kernel_rfl) rfl ?_))
          refine WR.runk [] [5, 6, 7] [62, 66] (L' := [(62, .int .u64 (ior .u64 (ishr .u64 v14 (Int.tmod (wi (a1 * y3.1)) 64)) (ishl .u64 v18 (wi (64 - (Int.tmod (wi (a1 * y3.1)) 64)))))), (66, .int .i64 y3.1)]) (w' := w0) (by kernel_rfl) ?_
          obtain ⟨r21, e22, H⟩ := bind_ex H
          refine WR.st (St.call (by kernel_rfl) (f := 26) (args := #[.int .i64 y3.1]) (by kernel_rfl) (pack_mask.calls w0 y3.1 r21 e22) ?_)
          rintro _ w28 ⟨rfl, hS29⟩
          have hS : Sat w28 (rf w0) [] := hS.ext hS29
          refine WR.runk [6, 7] [] [4] (L' := [(4, .int .u64 (iand .u64 (ior .u64 (ishr .u64 v14 (Int.tmod (wi (a1 * y3.1)) 64)) (ishl .u64 v18 (wi (64 - (Int.tmod (wi (a1 * y3.1)) 64))))) r21))]) (w' := w28) (by kernel_rfl) ?_
          refine WR.nil ?_
          refine At.go ?_
          refine WC.ret (by kernel_rfl) ?_
          obtain rfl := Option.some.inj H
          have hS : Sat w28 (rf w0) [] := hS.sel [] (by kernel_rfl)
          exact At.body [.int .u64 (iand .u64 (ior .u64 (ishr .u64 v14 (Int.tmod (wi (a1 * y3.1)) 64)) (ishl .u64 v18 (wi (64 - (Int.tmod (wi (a1 * y3.1)) 64))))) r21)] (by kernel_rfl) ⟨_, rfl, rfl, hS⟩
        · replace H := ite_f H hb17
          refine WC.skip (by kernel_rfl) ?_
          refine At.go ?_
          refine WC.seq (by kernel_rfl) ?_
          refine WC.reg [0, 1, 2, 3, 4, 5, 6, 7] (by kernel_rfl) (by kernel_rfl) ?_
          refine WR.runk [0, 1, 2, 3] [4, 5, 6, 7] [62, 65] (L' := [(62, .int .u64 (ishr .u64 v14 (Int.tmod (wi (a1 * y3.1)) 64))), (65, .pointer (some ⟨b4, 0, none⟩))]) (w' := w0) (by kernel_rfl) ?_
          refine WR.st (St.ofR (RSt.loadRo (t := 3) (k := 0) (v := .int .i64 y3.1) (.tmp 65) (by kernel_rfl) (by kernel_rfl) (by kernel_rfl) hS.sub0 hb7 (by kernel_rfl) rfl ?_))
          refine WR.runk [] [5, 6, 7] [62, 66] (L' := [(62, .int .u64 (ishr .u64 v14 (Int.tmod (wi (a1 * y3.1)) 64))), (66, .int .i64 y3.1)]) (w' := w0) (by kernel_rfl) ?_
          obtain ⟨r30, e31, H⟩ := bind_ex H
          refine WR.st (St.call (by kernel_rfl) (f := 26) (args := #[.int .i64 y3.1]) (by kernel_rfl) (pack_mask.calls w0 y3.1 r30 e31) ?_)
          rintro _ w37 ⟨rfl, hS38⟩
          have hS : Sat w37 (rf w0) [] := hS.ext hS38
          refine WR.runk [6, 7] [] [4] (L' := [(4, .int .u64 (iand .u64 (ishr .u64 v14 (Int.tmod (wi (a1 * y3.1)) 64)) r30))]) (w' := w37) (by kernel_rfl) ?_
          refine WR.nil ?_
          refine At.go ?_
          refine WC.ret (by kernel_rfl) ?_
          obtain rfl := Option.some.inj H
          have hS : Sat w37 (rf w0) [] := hS.sel [] (by kernel_rfl)
          exact At.body [.int .u64 (iand .u64 (ishr .u64 v14 (Int.tmod (wi (a1 * y3.1)) 64)) r30)] (by kernel_rfl) ⟨_, rfl, rfl, hS⟩
/-! ### 24 math/bits.Len64 -/
def bits_Len64.f (a0 : Int) : Option Int := (if decide (a0 ≥ 4294967296) then (if decide (ishr .u64 a0 32 ≥ 65536) then (if decide (ishr .u64 (ishr .u64 a0 32) 16 ≥ 256) then ((chr? (⟨#[0, 1, 2, 2, 3, 3, 3, 3, 4, 4, 4, 4, 4, 4, 4, 4, 5, 5, 5, 5, 5, 5, 5, 5, 5, 5, 5, 5, 5, 5, 5, 5, 6, 6, 6, 6, 6, 6, 6, 6, 6, 6, 6, 6, 6, 6, 6, 6, 6, 6, 6, 6, 6, 6, 6, 6, 6, 6, 6, 6, 6, 6, 6, 6, 7, 7, 7, 7, 7, 7, 7, 7, 7, 7, 7, 7, 7, 7, 7, 7, 7, 7, 7, 7, 7, 7, 7, 7, 7, 7, 7, 7, 7, 7, 7, 7, 7, 7, 7, 7, 7, 7, 7, 7, 7, 7, 7, 7, 7, 7, 7, 7, 7, 7, 7, 7, 7, 7, 7, 7, 7, 7, 7, 7, 7, 7, 7, 7, 8, 8, 8, 8, 8, 8, 8, 8, 8, 8, 8, 8, 8, 8, 8, 8, 8, 8, 8, 8, 8, 8, 8, 8, 8, 8, 8, 8, 8, 8, 8, 8, 8, 8, 8, 8, 8, 8, 8, 8, 8, 8, 8, 8, 8, 8, 8, 8, 8, 8, 8, 8, 8, 8, 8, 8, 8, 8, 8, 8, 8, 8, 8, 8, 8, 8, 8, 8, 8, 8, 8, 8, 8, 8, 8, 8, 8, 8, 8, 8, 8, 8, 8, 8, 8, 8, 8, 8, 8, 8, 8, 8, 8, 8, 8, 8, 8, 8, 8, 8, 8, 8, 8, 8, 8, 8, 8, 8, 8, 8, 8, 8, 8, 8, 8, 8, 8, 8, 8, 8, 8, 8, 8, 8, 8, 8, 8, 8]⟩ : ByteArray) (IntKind.wrap .u8 (ishr .u64 (ishr .u64 (ishr .u64 a0 32) 16) 8))).bind fun v4 => some (wi ((wi ((wi (32 + 16)) + 8)) + (wi v4)))) else ((chr? (⟨#[0, 1, 2, 2, 3, 3, 3, 3, 4, 4, 4, 4, 4, 4, 4, 4, 5, 5, 5, 5, 5, 5, 5, 5, 5, 5, 5, 5, 5, 5, 5, 5, 6, 6, 6, 6, 6, 6, 6, 6, 6, 6, 6, 6, 6, 6, 6, 6, 6, 6, 6, 6, 6, 6, 6, 6, 6, 6, 6, 6, 6, 6, 6, 6, 7, 7, 7, 7, 7, 7, 7, 7, 7, 7, 7, 7, 7, 7, 7, 7, 7, 7, 7, 7, 7, 7, 7, 7, 7, 7, 7, 7, 7, 7, 7, 7, 7, 7, 7, 7, 7, 7, 7, 7, 7, 7, 7, 7, 7, 7, 7, 7, 7, 7, 7, 7, 7, 7, 7, 7, 7, 7, 7, 7, 7, 7, 7, 7, 8, 8, 8, 8, 8, 8, 8, 8, 8, 8, 8, 8, 8, 8, 8, 8, 8, 8, 8, 8, 8, 8, 8, 8, 8, 8, 8, 8, 8, 8, 8, 8, 8, 8, 8, 8, 8, 8, 8, 8, 8, 8, 8, 8, 8, 8, 8, 8, 8, 8, 8, 8, 8, 8, 8, 8, 8, 8, 8, 8, 8, 8, 8, 8, 8, 8, 8, 8, 8, 8, 8, 8, 8, 8, 8, 8, 8, 8, 8, 8, 8, 8, 8, 8, 8, 8, 8, 8, 8, 8, 8, 8, 8, 8, 8, 8, 8, 8, 8, 8, 8, 8, 8, 8, 8, 8, 8, 8, 8, 8, 8, 8, 8, 8, 8, 8, 8, 8, 8, 8, 8, 8, 8, 8, 8, 8, 8, 8]⟩ : ByteArray) (IntKind.wrap .u8 (ishr .u64 (ishr .u64 a0 32) 16))).bind fun v6 => some (wi ((wi (32 + 16)) + (wi v6))))) else (if decide (ishr .u64 a0 32 ≥ 256) then ((chr? (⟨#[0, 1, 2, 2, 3, 3, 3, 3, 4, 4, 4, 4, 4, 4, 4, 4, 5, 5, 5, 5, 5, 5, 5, 5, 5, 5, 5, 5, 5, 5, 5, 5, 6, 6, 6, 6, 6, 6, 6, 6, 6, 6, 6, 6, 6, 6, 6, 6, 6, 6, 6, 6, 6, 6, 6, 6, 6, 6, 6, 6, 6, 6, 6, 6, 7, 7, 7, 7, 7, 7, 7, 7, 7, 7, 7, 7, 7, 7, 7, 7, 7, 7, 7, 7, 7, 7, 7, 7, 7, 7, 7, 7, 7, 7, 7, 7, 7, 7, 7, 7, 7, 7, 7, 7, 7, 7, 7, 7, 7, 7, 7, 7, 7, 7, 7, 7, 7, 7, 7, 7, 7, 7, 7, 7, 7, 7, 7, 7, 8, 8, 8, 8, 8, 8, 8, 8, 8, 8, 8, 8, 8, 8, 8, 8, 8, 8, 8, 8, 8, 8, 8, 8, 8, 8, 8, 8, 8, 8, 8, 8, 8, 8, 8, 8, 8, 8, 8, 8, 8, 8, 8, 8, 8, 8, 8, 8, 8, 8, 8, 8, 8, 8, 8, 8, 8, 8, 8, 8, 8, 8, 8, 8, 8, 8, 8, 8, 8, 8, 8, 8, 8, 8, 8, 8, 8, 8, 8, 8, 8, 8, 8, 8, 8, 8, 8, 8, 8, 8, 8, 8, 8, 8, 8, 8, 8, 8, 8, 8, 8, 8, 8, 8, 8, 8, 8, 8, 8, 8, 8, 8, 8, 8, 8, 8, 8, 8, 8, 8, 8, 8, 8, 8, 8, 8, 8, 8]⟩ : ByteArray) (IntKind.wrap .u8 (ishr .u64 (ishr .u64 a0 32) 8))).bind fun v9 => some (wi ((wi (32 + 8)) + (wi v9)))) else ((chr? (⟨#[0, 1, 2, 2, 3, 3, 3, 3, 4, 4, 4, 4, 4, 4, 4, 4, 5, 5, 5, 5, 5, 5, 5, 5, 5, 5, 5, 5, 5, 5, 5, 5, 6, 6, 6, 6, 6, 6, 6, 6, 6, 6, 6, 6, 6, 6, 6, 6, 6, 6, 6, 6, 6, 6, 6, 6, 6, 6, 6, 6, 6, 6, 6, 6, 7, 7, 7, 7, 7, 7, 7, 7, 7, 7, 7, 7, 7, 7, 7, 7, 7, 7, 7, 7, 7, 7, 7, 7, 7, 7, 7, 7, 7, 7, 7, 7, 7, 7, 7, 7, 7, 7, 7, 7, 7, 7, 7, 7, 7, 7, 7, 7, 7, 7, 7, 7, 7, 7, 7, 7, 7, 7, 7, 7, 7, 7, 7, 7, 8, 8, 8, 8, 8, 8, 8, 8, 8, 8, 8, 8, 8, 8, 8, 8, 8, 8, 8, 8, 8, 8, 8, 8, 8, 8, 8, 8, 8, 8, 8, 8, 8, 8, 8, 8, 8, 8, 8, 8, 8, 8, 8, 8, 8, 8, 8, 8, 8, 8, 8, 8, 8, 8, 8, 8, 8, 8, 8, 8, 8, 8, 8, 8, 8, 8, 8, 8, 8, 8, 8, 8, 8, 8, 8, 8, 8, 8, 8, 8, 8, 8, 8, 8, 8, 8, 8, 8, 8, 8, 8, 8, 8, 8, 8, 8, 8, 8, 8, 8, 8, 8, 8, 8, 8, 8, 8, 8, 8, 8, 8, 8, 8, 8, 8, 8, 8, 8, 8, 8, 8, 8, 8, 8, 8, 8, 8, 8]⟩ : ByteArray) (IntKind.wrap .u8 (ishr .u64 a0 32))).bind fun v11 => some (wi (32 + (wi v11)))))) else (if decide (a0 ≥ 65536) then (if decide (ishr .u64 a0 16 ≥ 256) then ((chr? (⟨#[0, 1, 2, 2, 3, 3, 3, 3, 4, 4, 4, 4, 4, 4, 4, 4, 5, 5, 5, 5, 5, 5, 5, 5, 5, 5, 5, 5, 5, 5, 5, 5, 6, 6, 6, 6, 6, 6, 6, 6, 6, 6, 6, 6, 6, 6, 6, 6, 6, 6, 6, 6, 6, 6, 6, 6, 6, 6, 6, 6, 6, 6, 6, 6, 7, 7, 7, 7, 7, 7, 7, 7, 7, 7, 7, 7, 7, 7, 7, 7, 7, 7, 7, 7, 7, 7, 7, 7, 7, 7, 7, 7, 7, 7, 7, 7, 7, 7, 7, 7, 7, 7, 7, 7, 7, 7, 7, 7, 7, 7, 7, 7, 7, 7, 7, 7, 7, 7, 7, 7, 7, 7, 7, 7, 7, 7, 7, 7, 8, 8, 8, 8, 8, 8, 8, 8, 8, 8, 8, 8, 8, 8, 8, 8, 8, 8, 8, 8, 8, 8, 8, 8, 8, 8, 8, 8, 8, 8, 8, 8, 8, 8, 8, 8, 8, 8, 8, 8, 8, 8, 8, 8, 8, 8, 8, 8, 8, 8, 8, 8, 8, 8, 8, 8, 8, 8, 8, 8, 8, 8, 8, 8, 8, 8, 8, 8, 8, 8, 8, 8, 8, 8, 8, 8, 8, 8, 8, 8, 8, 8, 8, 8, 8, 8, 8, 8, 8, 8, 8, 8, 8, 8, 8, 8, 8, 8, 8, 8, 8, 8, 8, 8, 8, 8, 8, 8, 8, 8, 8, 8, 8, 8, 8, 8, 8, 8, 8, 8, 8, 8, 8, 8, 8, 8, 8, 8]⟩ : ByteArray) (IntKind.wrap .u8 (ishr .u64 (ishr .u64 a0 16) 8))).bind fun v15 => some (wi ((wi ((wi (0 + 16)) + 8)) + (wi v15)))) else ((chr? (⟨#[0, 1, 2, 2, 3, 3, 3, 3, 4, 4, 4, 4, 4, 4, 4, 4, 5, 5, 5, 5, 5, 5, 5, 5, 5, 5, 5, 5, 5, 5, 5, 5, 6, 6, 6, 6, 6, 6, 6, 6, 6, 6, 6, 6, 6, 6, 6, 6, 6, 6, 6, 6, 6, 6, 6, 6, 6, 6, 6, 6, 6, 6, 6, 6, 7, 7, 7, 7, 7, 7, 7, 7, 7, 7, 7, 7, 7, 7, 7, 7, 7, 7, 7, 7, 7, 7, 7, 7, 7, 7, 7, 7, 7, 7, 7, 7, 7, 7, 7, 7, 7, 7, 7, 7, 7, 7, 7, 7, 7, 7, 7, 7, 7, 7, 7, 7, 7, 7, 7, 7, 7, 7, 7, 7, 7, 7, 7, 7, 8, 8, 8, 8, 8, 8, 8, 8, 8, 8, 8, 8, 8, 8, 8, 8, 8, 8, 8, 8, 8, 8, 8, 8, 8, 8, 8, 8, 8, 8, 8, 8, 8, 8, 8, 8, 8, 8, 8, 8, 8, 8, 8, 8, 8, 8, 8, 8, 8, 8, 8, 8, 8, 8, 8, 8, 8, 8, 8, 8, 8, 8, 8, 8, 8, 8, 8, 8, 8, 8, 8, 8, 8, 8, 8, 8, 8, 8, 8, 8, 8, 8, 8, 8, 8, 8, 8, 8, 8, 8, 8, 8, 8, 8, 8, 8, 8, 8, 8, 8, 8, 8, 8, 8, 8, 8, 8, 8, 8, 8, 8, 8, 8, 8, 8, 8, 8, 8, 8, 8, 8, 8, 8, 8, 8, 8, 8, 8]⟩ : ByteArray) (IntKind.wrap .u8 (ishr .u64 a0 16))).bind fun v17 => some (wi ((wi (0 + 16)) + (wi v17))))) else (if decide (a0 ≥ 256) then ((chr? (⟨#[0, 1, 2, 2, 3, 3, 3, 3, 4, 4, 4, 4, 4, 4, 4, 4, 5, 5, 5, 5, 5, 5, 5, 5, 5, 5, 5, 5, 5, 5, 5, 5, 6, 6, 6, 6, 6, 6, 6, 6, 6, 6, 6, 6, 6, 6, 6, 6, 6, 6, 6, 6, 6, 6, 6, 6, 6, 6, 6, 6, 6, 6, 6, 6, 7, 7, 7, 7, 7, 7, 7, 7, 7, 7, 7, 7, 7, 7, 7, 7, 7, 7, 7, 7, 7, 7, 7, 7, 7, 7, 7, 7, 7, 7, 7, 7, 7, 7, 7, 7, 7, 7, 7, 7, 7, 7, 7, 7, 7, 7, 7, 7, 7, 7, 7, 7, 7, 7, 7, 7, 7, 7, 7, 7, 7, 7, 7, 7, 8, 8, 8, 8, 8, 8, 8, 8, 8, 8, 8, 8, 8, 8, 8, 8, 8, 8, 8, 8, 8, 8, 8, 8, 8, 8, 8, 8, 8, 8, 8, 8, 8, 8, 8, 8, 8, 8, 8, 8, 8, 8, 8, 8, 8, 8, 8, 8, 8, 8, 8, 8, 8, 8, 8, 8, 8, 8, 8, 8, 8, 8, 8, 8, 8, 8, 8, 8, 8, 8, 8, 8, 8, 8, 8, 8, 8, 8, 8, 8, 8, 8, 8, 8, 8, 8, 8, 8, 8, 8, 8, 8, 8, 8, 8, 8, 8, 8, 8, 8, 8, 8, 8, 8, 8, 8, 8, 8, 8, 8, 8, 8, 8, 8, 8, 8, 8, 8, 8, 8, 8, 8, 8, 8, 8, 8, 8, 8]⟩ : ByteArray) (IntKind.wrap .u8 (ishr .u64 a0 8))).bind fun v20 => some (wi ((wi (0 + 8)) + (wi v20)))) else ((chr? (⟨#[0, 1, 2, 2, 3, 3, 3, 3, 4, 4, 4, 4, 4, 4, 4, 4, 5, 5, 5, 5, 5, 5, 5, 5, 5, 5, 5, 5, 5, 5, 5, 5, 6, 6, 6, 6, 6, 6, 6, 6, 6, 6, 6, 6, 6, 6, 6, 6, 6, 6, 6, 6, 6, 6, 6, 6, 6, 6, 6, 6, 6, 6, 6, 6, 7, 7, 7, 7, 7, 7, 7, 7, 7, 7, 7, 7, 7, 7, 7, 7, 7, 7, 7, 7, 7, 7, 7, 7, 7, 7, 7, 7, 7, 7, 7, 7, 7, 7, 7, 7, 7, 7, 7, 7, 7, 7, 7, 7, 7, 7, 7, 7, 7, 7, 7, 7, 7, 7, 7, 7, 7, 7, 7, 7, 7, 7, 7, 7, 8, 8, 8, 8, 8, 8, 8, 8, 8, 8, 8, 8, 8, 8, 8, 8, 8, 8, 8, 8, 8, 8, 8, 8, 8, 8, 8, 8, 8, 8, 8, 8, 8, 8, 8, 8, 8, 8, 8, 8, 8, 8, 8, 8, 8, 8, 8, 8, 8, 8, 8, 8, 8, 8, 8, 8, 8, 8, 8, 8, 8, 8, 8, 8, 8, 8, 8, 8, 8, 8, 8, 8, 8, 8, 8, 8, 8, 8, 8, 8, 8, 8, 8, 8, 8, 8, 8, 8, 8, 8, 8, 8, 8, 8, 8, 8, 8, 8, 8, 8, 8, 8, 8, 8, 8, 8, 8, 8, 8, 8, 8, 8, 8, 8, 8, 8, 8, 8, 8, 8, 8, 8, 8, 8, 8, 8, 8, 8]⟩ : ByteArray) (IntKind.wrap .u8 a0)).bind fun v22 => some (wi (0 + (wi v22)))))))
def bits_Len64.post (w : World) (r : Int) (v : Value) (w' : World) : Prop := v = (.int .i64 r : Value) ∧ Sat w' (rf w) []
theorem bits_Len64.calls (w0 : World) (a0 : Int) (r : Int) (H : bits_Len64.f a0 = some r) :
    Calls Try.prog 24 #[.int .u64 a0] w0 (fun e w' => ∃ v, e = .returned v ∧ bits_Len64.post w0 r v w') := by
  have hS : Sat w0 (rf w0) [] := Sat.start w0
  unfold bits_Len64.f at H
  refine calls_of_WC (vs := [.int .u64 a0]) Try.func24 (c := C24) (n := 25) (by kernel_rfl) (by kernel_rfl) (by kernel_rfl) ?_
  refine WC.seq (by kernel_rfl) ?_
  refine WC.reg [0] (by kernel_rfl) (by kernel_rfl) ?_
  refine WR.runk [0] [] [0, 2] (L' := [(0, .int .u64 a0), (2, .int .i64 0)]) (w' := w0) (by kernel_rfl) ?_
  refine WR.nil ?_
  refine At.go ?_
  refine WC.seq (by kernel_rfl) ?_
  refine WC.seq (by kernel_rfl) ?_
  refine WC.reg [0, 1] (by kernel_rfl) (by kernel_rfl) ?_
  refine WR.runk [0, 1] [] [0, 2, 4] (L' := [(0, .int .u64 a0), (2, .int .i64 0), (4, .bool (decide (a0 ≥ 4294967296)))]) (w' := w0) (by kernel_rfl) ?_
  refine WR.nil ?_
  refine At.go ?_
  refine WC.cond (by kernel_rfl) (decide (a0 ≥ 4294967296)) (by kernel_rfl) (by kernel_rfl) (fun hb1 => ?_) (fun hb1 => ?_)
  · replace H := ite_t H hb1
    refine WC.seq (by kernel_rfl) ?_
    refine WC.reg [0, 1, 2] (by kernel_rfl) (by kernel_rfl) ?_
    refine WR.runk [0, 1, 2] [] [0] (L' := [(0, .int .u64 (ishr .u64 a0 32))]) (w' := w0) (by kernel_rfl) ?_
    refine WR.nil ?_
    refine At.go ?_
    refine WC.reg [0] (by kernel_rfl) (by kernel_rfl) ?_
    refine WR.runk [0] [] [0, 2] (L' := [(0, .int .u64 (ishr .u64 a0 32)), (2, .int .i64 32)]) (w' := w0) (by kernel_rfl) ?_
    refine WR.nil ?_
    refine At.go ?_
    refine WC.seq (by kernel_rfl) ?_
    refine WC.seq (by kernel_rfl) ?_
    refine WC.reg [0, 1] (by kernel_rfl) (by kernel_rfl) ?_
    refine WR.runk [0, 1] [] [0, 2, 8] (L' := [(0, .int .u64 (ishr .u64 a0 32)), (2, .int .i64 32), (8, .bool (decide (ishr .u64 a0 32 ≥ 65536)))]) (w' := w0) (by kernel_rfl) ?_
    refine WR.nil ?_
    refine At.go ?_
    refine WC.cond (by kernel_rfl) (decide (ishr .u64 a0 32 ≥ 65536)) (by kernel_rfl) (by kernel_rfl) (fun hb2 => ?_) (fun hb2 => ?_)
    · replace H := ite_t H hb2
      refine WC.seq (by kernel_rfl) ?_
      refine WC.reg [0, 1, 2] (by kernel_rfl) (by kernel_rfl) ?_
      refine WR.runk [0, 1, 2] [] [0, 2] (L' := [(0, .int .u64 (ishr .u64 (ishr .u64 a0 32) 16)), (2, .int .i64 32)]) (w' := w0) (by kernel_rfl) ?_
      refine WR.nil ?_
      refine At.go ?_
      refine WC.reg [0, 1, 2] (by kernel_rfl) (by kernel_rfl) ?_
      refine WR.runk [0, 1, 2] [] [0, 2] (L' := [(0, .int .u64 (ishr .u64 (ishr .u64 a0 32) 16)), (2, .int .i64 (wi (32 + 16)))]) (w' := w0) (by kernel_rfl) ?_
      refine WR.nil ?_
      refine At.go ?_
      refine WC.seq (by kernel_rfl) ?_
      refine WC.seq (by kernel_rfl) ?_
      refine WC.reg [0, 1] (by kernel_rfl) (by kernel_rfl) ?_
      refine WR.runk [0, 1] [] [0, 2, 14] (L' := [(0, .int .u64 (ishr .u64 (ishr .u64 a0 32) 16)), (2, .int .i64 (wi (32 + 16))), (14, .bool (decide (ishr .u64 (ishr .u64 a0 32) 16 ≥ 256)))]) (w' := w0) (by kernel_rfl) ?_
      refine WR.nil ?_
      refine At.go ?_
      refine WC.cond (by kernel_rfl) (decide (ishr .u64 (ishr .u64 a0 32) 16 ≥ 256)) (by kernel_rfl) (by kernel_rfl) (fun hb3 => ?_) (fun hb3 => ?_)
      · replace H := ite_t H hb3
        refine WC.seq (by kernel_rfl) ?_
        refine WC.reg [0, 1, 2] (by kernel_rfl) (by kernel_rfl) ?_
        refine WR.runk [0, 1, 2] [] [0, 2] (L' := [(0, .int .u64 (ishr .u64 (ishr .u64 (ishr .u64 a0 32) 16) 8)), (2, .int .i64 (wi (32 + 16)))]) (w' := w0) (by kernel_rfl) ?_
        refine WR.nil ?_
        refine At.go ?_
        refine WC.reg [0, 1, 2] (by kernel_rfl) (by kernel_rfl) ?_
        refine WR.runk [0, 1, 2] [] [0, 2] (L' := [(0, .int .u64 (ishr .u64 (ishr .u64 (ishr .u64 a0 32) 16) 8)), (2, .int .i64 (wi ((wi (32 + 16)) + 8)))]) (w' := w0) (by kernel_rfl) ?_
        refine WR.nil ?_
        refine At.go ?_
        refine WC.seq (by kernel_rfl) ?_
        refine WC.reg [0, 1, 2, 3, 4, 5, 6] (by kernel_rfl) (by kernel_rfl) ?_
        refine WR.runk [0, 1, 2] [3, 4, 5, 6] [2, 19, 21] (L' := [(2, .int .i64 (wi ((wi (32 + 16)) + 8))), (19, .int .i64 (wi ((wi (32 + 16)) + 8))), (21, .int .u8 (IntKind.wrap .u8 (ishr .u64 (ishr .u64 (ishr .u64 a0 32) 16) 8)))]) (w' := w0) (by kernel_rfl) ?_
        obtain ⟨v4, e5, H⟩ := bind_ex H
        refine WR.st (St.ofP (PSt.chr (k := .u8) (t := 9) (.const (.string ⟨#[0, 1, 2, 2, 3, 3, 3, 3, 4, 4, 4, 4, 4, 4, 4, 4, 5, 5, 5, 5, 5, 5, 5, 5, 5, 5, 5, 5, 5, 5, 5, 5, 6, 6, 6, 6, 6, 6, 6, 6, 6, 6, 6, 6, 6, 6, 6, 6, 6, 6, 6, 6, 6, 6, 6, 6, 6, 6, 6, 6, 6, 6, 6, 6, 7, 7, 7, 7, 7, 7, 7, 7, 7, 7, 7, 7, 7, 7, 7, 7, 7, 7, 7, 7, 7, 7, 7, 7, 7, 7, 7, 7, 7, 7, 7, 7, 7, 7, 7, 7, 7, 7, 7, 7, 7, 7, 7, 7, 7, 7, 7, 7, 7, 7, 7, 7, 7, 7, 7, 7, 7, 7, 7, 7, 7, 7, 7, 7, 8, 8, 8, 8, 8, 8, 8, 8, 8, 8, 8, 8, 8, 8, 8, 8, 8, 8, 8, 8, 8, 8, 8, 8, 8, 8, 8, 8, 8, 8, 8, 8, 8, 8, 8, 8, 8, 8, 8, 8, 8, 8, 8, 8, 8, 8, 8, 8, 8, 8, 8, 8, 8, 8, 8, 8, 8, 8, 8, 8, 8, 8, 8, 8, 8, 8, 8, 8, 8, 8, 8, 8, 8, 8, 8, 8, 8, 8, 8, 8, 8, 8, 8, 8, 8, 8, 8, 8, 8, 8, 8, 8, 8, 8, 8, 8, 8, 8, 8, 8, 8, 8, 8, 8, 8, 8, 8, 8, 8, 8, 8, 8, 8, 8, 8, 8, 8, 8, 8, 8, 8, 8, 8, 8, 8, 8, 8, 8]⟩)) (.tmp 21) (by kernel_rfl) (by kernel_rfl) (by kernel_rfl) (by kernel_rfl) (by kernel_rfl) e5 ?_))
        refine WR.runk [4, 5, 6] [] [2] (L' := [(2, .int .i64 (wi ((wi ((wi (32 + 16)) + 8)) + (wi v4))))]) (w' := w0) (by kernel_rfl) ?_
        refine WR.nil ?_
        refine At.go ?_
        refine WC.ret (by kernel_rfl) ?_
        obtain rfl := Option.some.inj H
        have hS : Sat w0 (rf w0) [] := hS.sel [] (by kernel_rfl)
        exact At.body [.int .i64 (wi ((wi ((wi (32 + 16)) + 8)) + (wi v4)))] (by kernel_rfl) ⟨_, rfl, rfl, hS⟩
      · replace H := ite_f H hb3
        refine WC.skip (by kernel_rfl) ?_
        refine At.go ?_
        refine WC.seq (by kernel_rfl) ?_
        refine WC.reg [0, 1, 2, 3, 4, 5, 6] (by kernel_rfl) (by kernel_rfl) ?_
        refine WR.runk [0, 1, 2] [3, 4, 5, 6] [2, 19, 21] (L' := [(2, .int .i64 (wi (32 + 16))), (19, .int .i64 (wi (32 + 16))), (21, .int .u8 (IntKind.wrap .u8 (ishr .u64 (ishr .u64 a0 32) 16)))]) (w' := w0) (by kernel_rfl) ?_
        obtain ⟨v6, e7, H⟩ := bind_ex H
        refine WR.st (St.ofP (PSt.chr (k := .u8) (t := 9) (.const (.string ⟨#[0, 1, 2, 2, 3, 3, 3, 3, 4, 4, 4, 4, 4, 4, 4, 4, 5, 5, 5, 5, 5, 5, 5, 5, 5, 5, 5, 5, 5, 5, 5, 5, 6, 6, 6, 6, 6, 6, 6, 6, 6, 6, 6, 6, 6, 6, 6, 6, 6, 6, 6, 6, 6, 6, 6, 6, 6, 6, 6, 6, 6, 6, 6, 6, 7, 7, 7, 7, 7, 7, 7, 7, 7, 7, 7, 7, 7, 7, 7, 7, 7, 7, 7, 7, 7, 7, 7, 7, 7, 7, 7, 7, 7, 7, 7, 7, 7, 7, 7, 7, 7, 7, 7, 7, 7, 7, 7, 7, 7, 7, 7, 7, 7, 7, 7, 7, 7, 7, 7, 7, 7, 7, 7, 7, 7, 7, 7, 7, 8, 8, 8, 8, 8, 8, 8, 8, 8, 8, 8, 8, 8, 8, 8, 8, 8, 8, 8, 8, 8, 8, 8, 8, 8, 8, 8, 8, 8, 8, 8, 8, 8, 8, 8, 8, 8, 8, 8, 8, 8, 8, 8, 8, 8, 8, 8, 8, 8, 8, 8, 8, 8, 8, 8, 8, 8, 8, 8, 8, 8, 8, 8, 8, 8, 8, 8, 8, 8, 8, 8, 8, 8, 8, 8, 8, 8, 8, 8, 8, 8, 8, 8, 8, 8, 8, 8, 8, 8, 8, 8, 8, 8, 8, 8, 8, 8, 8, 8, 8, 8, 8, 8, 8, 8, 8, 8, 8, 8, 8, 8, 8, 8, 8, 8, 8, 8, 8, 8, 8, 8, 8, 8, 8, 8, 8, 8, 8]⟩)) (.tmp 21) (by kernel_rfl) (by kernel_rfl) (by kernel_rfl) (by kernel_rfl) (by kernel_rfl) e7 ?_))
        refine WR.runk [4, 5, 6] [] [2] (L' := [(2, .int .i64 (wi ((wi (32 + 16)) + (wi v6))))]) (w' := w0) (by kernel_rfl) ?_
        refine WR.nil ?_
        refine At.go ?_
        refine WC.ret (by kernel_rfl) ?_
        obtain rfl := Option.some.inj H
        have hS : Sat w0 (rf w0) [] := hS.sel [] (by kernel_rfl)
        exact At.body [.int .i64 (wi ((wi (32 + 16)) + (wi v6)))] (by kernel_rfl) ⟨_, rfl, rfl, hS⟩
    · replace H := ite_f H hb2
      refine WC.skip (by kernel_rfl) ?_
      refine At.go ?_
      refine WC.seq (by kernel_rfl) ?_
      refine WC.seq (by kernel_rfl) ?_
      refine WC.reg [0, 1] (by kernel_rfl) (by kernel_rfl) ?_
      refine WR.runk [0, 1] [] [0, 2, 14] (L' := [(0, .int .u64 (ishr .u64 a0 32)), (2, .int .i64 32), (14, .bool (decide (ishr .u64 a0 32 ≥ 256)))]) (w' := w0) (by kernel_rfl) ?_
      refine WR.nil ?_
      refine At.go ?_
      refine WC.cond (by kernel_rfl) (decide (ishr .u64 a0 32 ≥ 256)) (by kernel_rfl) (by kernel_rfl) (fun hb8 => ?_) (fun hb8 => ?_)
      · replace H := ite_t H hb8
        refine WC.seq (by kernel_rfl) ?_
        refine WC.reg [0, 1, 2] (by kernel_rfl) (by kernel_rfl) ?_
        refine WR.runk [0, 1, 2] [] [0, 2] (L' := [(0, .int .u64 (ishr .u64 (ishr .u64 a0 32) 8)), (2, .int .i64 32)]) (w' := w0) (by kernel_rfl) ?_
        refine WR.nil ?_
        refine At.go ?_
        refine WC.reg [0, 1, 2] (by kernel_rfl) (by kernel_rfl) ?_
        refine WR.runk [0, 1, 2] [] [0, 2] (L' := [(0, .int .u64 (ishr .u64 (ishr .u64 a0 32) 8)), (2, .int .i64 (wi (32 + 8)))]) (w' := w0) (by kernel_rfl) ?_
        refine WR.nil ?_
        refine At.go ?_
        refine WC.seq (by kernel_rfl) ?_
        refine WC.reg [0, 1, 2, 3, 4, 5, 6] (by kernel_rfl) (by kernel_rfl) ?_
        refine WR.runk [0, 1, 2] [3, 4, 5, 6] [2, 19, 21] (L' := [(2, .int .i64 (wi (32 + 8))), (19, .int .i64 (wi (32 + 8))), (21, .int .u8 (IntKind.wrap .u8 (ishr .u64 (ishr .u64 a0 32) 8)))]) (w' := w0) (by kernel_rfl) ?_
        obtain ⟨v9, e10, H⟩ := bind_ex H
        refine WR.st (St.ofP (PSt.chr (k := .u8) (t := 9) (.const (.string ⟨#[0, 1, 2, 2, 3, 3, 3, 3, 4, 4, 4, 4, 4, 4, 4, 4, 5, 5, 5, 5, 5, 5, 5, 5, 5, 5, 5, 5, 5, 5, 5, 5, 6, 6, 6, 6, 6, 6, 6, 6, 6, 6, 6, 6, 6, 6, 6, 6, 6, 6, 6, 6, 6, 6, 6, 6, 6, 6, 6, 6, 6, 6, 6, 6, 7, 7, 7, 7, 7, 7, 7, 7, 7, 7, 7, 7, 7, 7, 7, 7, 7, 7, 7, 7, 7, 7, 7, 7, 7, 7, 7, 7, 7, 7, 7, 7, 7, 7, 7, 7, 7, 7, 7, 7, 7, 7, 7, 7, 7, 7, 7, 7, 7, 7, 7, 7, 7, 7, 7, 7, 7, 7, 7, 7, 7, 7, 7, 7, 8, 8, 8, 8, 8, 8, 8, 8, 8, 8, 8, 8, 8, 8, 8, 8, 8, 8, 8, 8, 8, 8, 8, 8, 8, 8, 8, 8, 8, 8, 8, 8, 8, 8, 8, 8, 8, 8, 8, 8, 8, 8, 8, 8, 8, 8, 8, 8, 8, 8, 8, 8, 8, 8, 8, 8, 8, 8, 8, 8, 8, 8, 8, 8, 8, 8, 8, 8, 8, 8, 8, 8, 8, 8, 8, 8, 8, 8, 8, 8, 8, 8, 8, 8, 8, 8, 8, 8, 8, 8, 8, 8, 8, 8, 8, 8, 8, 8, 8, 8, 8, 8, 8, 8, 8, 8, 8, 8, 8, 8, 8, 8, 8, 8, 8, 8, 8, 8, 8, 8, 8, 8, 8, 8, 8, 8, 8, 8]⟩)) (.tmp 21) (by kernel_rfl) (by kernel_rfl) (by kernel_rfl) (by kernel_rfl) (by kernel_rfl) e10 ?_))
        refine WR.runk [4, 5, 6] [] [2] (L' := [(2, .int .i64 (wi ((wi (32 + 8)) + (wi v9))))]) (w' := w0) (by kernel_rfl) ?_
        refine WR.nil ?_
        refine At.go ?_
        refine WC.ret (by kernel_rfl) ?_
        obtain rfl := Option.some.inj H
        have hS : Sat w0 (rf w0) [] := hS.sel [] (by kernel_rfl)
        exact At.body [.int .i64 (wi ((wi (32 + 8)) + (wi v9)))] (by kernel_rfl) ⟨_, rfl, rfl, hS⟩
      · replace H := ite_f H hb8
        refine WC.skip (by kernel_rfl) ?_
        refine At.go ?_
        refine WC.seq (by kernel_rfl) ?_
        refine WC.reg [0, 1, 2, 3, 4, 5, 6] (by kernel_rfl) (by kernel_rfl) ?_
        refine WR.runk [0, 1, 2] [3, 4, 5, 6] [2, 19, 21] (L' := [(2, .int .i64 32), (19, .int .i64 32), (21, .int .u8 (IntKind.wrap .u8 (ishr .u64 a0 32)))]) (w' := w0) (by kernel_rfl) ?_
        obtain ⟨v11, e12, H⟩ := bind_ex H
        refine WR.st (St.ofP (PSt.chr (k := .u8) (t := 9) (.const (.string ⟨#[0, 1, 2, 2, 3, 3, 3, 3, 4, 4, 4, 4, 4, 4, 4, 4, 5, 5, 5, 5, 5, 5, 5, 5, 5, 5, 5, 5, 5, 5, 5, 5, 6, 6, 6, 6, 6, 6, 6, 6, 6, 6, 6, 6, 6, 6, 6, 6, 6, 6, 6, 6, 6, 6, 6, 6, 6, 6, 6, 6, 6, 6, 6, 6, 7, 7, 7, 7, 7, 7, 7, 7, 7, 7, 7, 7, 7, 7, 7, 7, 7, 7, 7, 7, 7, 7, 7, 7, 7, 7, 7, 7, 7, 7, 7, 7, 7, 7, 7, 7, 7, 7, 7, 7, 7, 7, 7, 7, 7, 7, 7, 7, 7, 7, 7, 7, 7, 7, 7, 7, 7, 7, 7, 7, 7, 7, 7, 7, 8, 8, 8, 8, 8, 8, 8, 8, 8, 8, 8, 8, 8, 8, 8, 8, 8, 8, 8, 8, 8, 8, 8, 8, 8, 8, 8, 8, 8, 8, 8, 8, 8, 8, 8, 8, 8, 8, 8, 8, 8, 8, 8, 8, 8, 8, 8, 8, 8, 8, 8, 8, 8, 8, 8, 8, 8, 8, 8, 8, 8, 8, 8, 8, 8, 8, 8, 8, 8, 8, 8, 8, 8, 8, 8, 8, 8, 8, 8, 8, 8, 8, 8, 8, 8, 8, 8, 8, 8, 8, 8, 8, 8, 8, 8, 8, 8, 8, 8, 8, 8, 8, 8, 8, 8, 8, 8, 8, 8, 8, 8, 8, 8, 8, 8, 8, 8, 8, 8, 8, 8, 8, 8, 8, 8, 8, 8, 8]⟩)) (.tmp 21) (by kernel_rfl) (by kernel_rfl) (by kernel_rfl) (by kernel_rfl) (by kernel_rfl) e12 ?_))
        refine WR.runk [4, 5, 6] [] [2] (L' := [(2, .int .i64 (wi (32 + (wi v11))))]) (w' := w0) (by kernel_rfl) ?_
        refine WR.nil ?_
        refine At.go ?_
        refine WC.ret (by kernel_rfl) ?_
        obtain rfl := Option.some.inj H
        have hS : Sat w0 (rf w0) [] := hS.sel [] (by kernel_rfl)
        exact At.body [.int .i64 (wi (32 + (wi v11)))] (by kernel_rfl) ⟨_, rfl, rfl, hS⟩
  · replace H := ite_f H hb1
    refine WC.skip (by kernel_rfl) ?_
    refine At.go ?_
    refine WC.seq (by kernel_rfl) ?_
    refine WC.seq (by kernel_rfl) ?_
    refine WC.reg [0, 1] (by kernel_rfl) (by kernel_rfl) ?_
    refine WR.runk [0, 1] [] [0, 2, 8] (L' := [(0, .int .u64 a0), (2, .int .i64 0), (8, .bool (decide (a0 ≥ 65536)))]) (w' := w0) (by kernel_rfl) ?_
    refine WR.nil ?_
    refine At.go ?_
    refine WC.cond (by kernel_rfl) (decide (a0 ≥ 65536)) (by kernel_rfl) (by kernel_rfl) (fun hb13 => ?_) (fun hb13 => ?_)
    · replace H := ite_t H hb13
      refine WC.seq (by kernel_rfl) ?_
      refine WC.reg [0, 1, 2] (by kernel_rfl) (by kernel_rfl) ?_
      refine WR.runk [0, 1, 2] [] [0, 2] (L' := [(0, .int .u64 (ishr .u64 a0 16)), (2, .int .i64 0)]) (w' := w0) (by kernel_rfl) ?_
      refine WR.nil ?_
      refine At.go ?_
      refine WC.reg [0, 1, 2] (by kernel_rfl) (by kernel_rfl) ?_
      refine WR.runk [0, 1, 2] [] [0, 2] (L' := [(0, .int .u64 (ishr .u64 a0 16)), (2, .int .i64 (wi (0 + 16)))]) (w' := w0) (by kernel_rfl) ?_
      refine WR.nil ?_
      refine At.go ?_
      refine WC.seq (by kernel_rfl) ?_
      refine WC.seq (by kernel_rfl) ?_
      refine WC.reg [0, 1] (by kernel_rfl) (by kernel_rfl) ?_
      refine WR.runk [0, 1] [] [0, 2, 14] (L' := [(0, .int .u64 (ishr .u64 a0 16)), (2, .int .i64 (wi (0 + 16))), (14, .bool (decide (ishr .u64 a0 16 ≥ 256)))]) (w' := w0) (by kernel_rfl) ?_
      refine WR.nil ?_
      refine At.go ?_
      refine WC.cond (by kernel_rfl) (decide (ishr .u64 a0 16 ≥ 256)) (by kernel_rfl) (by kernel_rfl) (fun hb14 => ?_) (fun hb14 => ?_)
      · replace H := ite_t H hb14
        refine WC.seq (by kernel_rfl) ?_
        refine WC.reg [0, 1, 2] (by kernel_rfl) (by kernel_rfl) ?_
        refine WR.runk [0, 1, 2] [] [0, 2] (L' := [(0, .int .u64 (ishr .u64 (ishr .u64 a0 16) 8)), (2, .int .i64 (wi (0 + 16)))]) (w' := w0) (by kernel_rfl) ?_
        refine WR.nil ?_
        refine At.go ?_
        refine WC.reg [0, 1, 2] (by kernel_rfl) (by kernel_rfl) ?_
        refine WR.runk [0, 1, 2] [] [0, 2] (L' := [(0, .int .u64 (ishr .u64 (ishr .u64 a0 16) 8)), (2, .int .i64 (wi ((wi (0 + 16)) + 8)))]) (w' := w0) (by kernel_rfl) ?_
        refine WR.nil ?_
        refine At.go ?_
        refine WC.seq (by kernel_rfl) ?_
        refine WC.reg [0, 1, 2, 3, 4, 5, 6] (by kernel_rfl) (by kernel_rfl) ?_
        refine WR.runk [0, 1, 2] [3, 4, 5, 6] [2, 19, 21] (L' := [(2, .int .i64 (wi ((wi (0 + 16)) + 8))), (19, .int .i64 (wi ((wi (0 + 16)) + 8))), (21, .int .u8 (IntKind.wrap .u8 (ishr .u64 (ishr .u64 a0 16) 8)))]) (w' := w0) (by kernel_rfl) ?_
        obtain ⟨v15, e16, H⟩ := bind_ex H
        refine WR.st (St.ofP (PSt.chr (k := .u8) (t := 9) (.const (.string ⟨#[0, 1, 2, 2, 3, 3, 3, 3, 4, 4, 4, 4, 4, 4, 4, 4, 5, 5, 5, 5, 5, 5, 5, 5, 5, 5, 5, 5, 5, 5, 5, 5, 6, 6, 6, 6, 6, 6, 6, 6, 6, 6, 6, 6, 6, 6, 6, 6, 6, 6, 6, 6, 6, 6, 6, 6, 6, 6, 6, 6, 6, 6, 6, 6, 7, 7, 7, 7, 7, 7, 7, 7, 7, 7, 7, 7, 7, 7, 7, 7, 7, 7, 7, 7, 7, 7, 7, 7, 7, 7, 7, 7, 7, 7, 7, 7, 7, 7, 7, 7, 7, 7, 7, 7, 7, 7, 7, 7, 7, 7, 7, 7, 7, 7, 7, 7, 7, 7, 7, 7, 7, 7, 7, 7, 7, 7, 7, 7, 8, 8, 8, 8, 8, 8, 8, 8, 8, 8, 8, 8, 8, 8, 8, 8, 8, 8, 8, 8, 8, 8, 8, 8, 8, 8, 8, 8, 8, 8, 8, 8, 8, 8, 8, 8, 8, 8, 8, 8, 8, 8, 8, 8, 8, 8, 8, 8, 8, 8, 8, 8, 8, 8, 8, 8, 8, 8, 8, 8, 8, 8, 8, 8, 8, 8, 8, 8, 8, 8, 8, 8, 8, 8, 8, 8, 8, 8, 8, 8, 8, 8, 8, 8, 8, 8, 8, 8, 8, 8, 8, 8, 8, 8, 8, 8, 8, 8, 8, 8, 8, 8, 8, 8, 8, 8, 8, 8, 8, 8, 8, 8, 8, 8, 8, 8, 8, 8, 8, 8, 8, 8, 8, 8, 8, 8, 8, 8]⟩)) (.tmp 21) (by kernel_rfl) (by kernel_rfl) (by kernel_rfl) (by kernel_rfl) (by kernel_rfl) e16 ?_))
        refine WR.runk [4, 5, 6] [] [2] (L' := [(2, .int .i64 (wi ((wi ((wi (0 + 16)) + 8)) + (wi v15))))]) (w' := w0) (by kernel_rfl) ?_
        refine WR.nil ?_
        refine At.go ?_
        refine WC.ret (by kernel_rfl) ?_
        obtain rfl := Option.some.inj H
        have hS : Sat w0 (rf w0) [] := hS.sel [] (by kernel_rfl)
        exact At.body [.int .i64 (wi ((wi ((wi (0 + 16)) + 8)) + (wi v15)))] (by kernel_rfl) ⟨_, rfl, rfl, hS⟩
      · replace H := ite_f H hb14
        refine WC.skip (by kernel_rfl) ?_
        refine At.go ?_
        refine WC.seq (by kernel_rfl) ?_
        refine WC.reg [0, 1, 2, 3, 4, 5, 6] (by kernel_rfl) (by kernel_rfl) ?_
        refine WR.runk [0, 1, 2] [3, 4, 5, 6] [2, 19, 21] (L' := [(2, .int .i64 (wi (0 + 16))), (19, .int .i64 (wi (0 + 16))), (21, .int .u8 (IntKind.wrap .u8 (ishr .u64 a0 16)))]) (w' := w0) (by kernel_rfl) ?_
        obtain ⟨v17, e18, H⟩ := bind_ex H
        refine WR.st (St.ofP (PSt.chr (k := .u8) (t := 9) (.const (.string ⟨#[0, 1, 2, 2, 3, 3, 3, 3, 4, 4, 4, 4, 4, 4, 4, 4, 5, 5, 5, 5, 5, 5, 5, 5, 5, 5, 5, 5, 5, 5, 5, 5, 6, 6, 6, 6, 6, 6, 6, 6, 6, 6, 6, 6, 6, 6, 6, 6, 6, 6, 6, 6, 6, 6, 6, 6, 6, 6, 6, 6, 6, 6, 6, 6, 7, 7, 7, 7, 7, 7, 7, 7, 7, 7, 7, 7, 7, 7, 7, 7, 7, 7, 7, 7, 7, 7, 7, 7, 7, 7, 7, 7, 7, 7, 7, 7, 7, 7, 7, 7, 7, 7, 7, 7, 7, 7, 7, 7, 7, 7, 7, 7, 7, 7, 7, 7, 7, 7, 7, 7, 7, 7, 7, 7, 7, 7, 7, 7, 8, 8, 8, 8, 8, 8, 8, 8, 8, 8, 8, 8, 8, 8, 8, 8, 8, 8, 8, 8, 8, 8, 8, 8, 8, 8, 8, 8, 8, 8, 8, 8, 8, 8, 8, 8, 8, 8, 8, 8, 8, 8, 8, 8, 8, 8, 8, 8, 8, 8, 8, 8, 8, 8, 8, 8, 8, 8, 8, 8, 8, 8, 8, 8, 8, 8, 8, 8, 8, 8, 8, 8, 8, 8, 8, 8, 8, 8, 8, 8, 8, 8, 8, 8, 8, 8, 8, 8, 8, 8, 8, 8, 8, 8, 8, 8, 8, 8, 8, 8, 8, 8, 8, 8, 8, 8, 8, 8, 8, 8, 8, 8, 8, 8, 8, 8, 8, 8, 8, 8, 8, 8, 8, 8, 8, 8, 8, 8]⟩)) (.tmp 21) (by kernel_rfl) (by kernel_rfl) (by kernel_rfl) (by kernel_rfl) (by kernel_rfl) e18 ?_))
        refine WR.runk [4, 5, 6] [] [2] (L' := [(2, .int .i64 (wi ((wi (0 + 16)) + (wi v17))))]) (w' := w0) (by kernel_rfl) ?_
        refine WR.nil ?_
        refine At.go ?_
        refine WC.ret (by kernel_rfl) ?_
        obtain rfl := Option.some.inj H
        have hS : Sat w0 (rf w0) [] := hS.sel [] (by kernel_rfl)
        exact At.body [.int .i64 (wi ((wi (0 + 16)) + (wi v17)))] (by kernel_rfl) ⟨_, rfl, rfl, hS⟩
    · replace H := ite_f H hb13
      refine WC.skip (by kernel_rfl) ?_
      refine At.go ?_
      refine WC.seq (by kernel_rfl) ?_
      refine WC.seq (by kernel_rfl) ?_
      refine WC.reg [0, 1] (by kernel_rfl) (by kernel_rfl) ?_
      refine WR.runk [0, 1] [] [0, 2, 14] (L' := [(0, .int .u64 a0), (2, .int .i64 0), (14, .bool (decide (a0 ≥ 256)))]) (w' := w0) (by kernel_rfl) ?_
      refine WR.nil ?_
      refine At.go ?_
      refine WC.cond (by kernel_rfl) (decide (a0 ≥ 256)) (by kernel_rfl) (by kernel_rfl) (fun hb19 => ?_) (fun hb19 => ?_)
      · replace H := ite_t H hb19
        refine WC.seq (by kernel_rfl) ?_
        refine WC.reg [0, 1, 2] (by kernel_rfl) (by kernel_rfl) ?_
        refine WR.runk [0, 1, 2] [] [0, 2] (L' := [(0, .int .u64 (ishr .u64 a0 8)), (2, .int .i64 0)]) (w' := w0) (by kernel_rfl) ?_
        refine WR.nil ?_
        refine At.go ?_
        refine WC.reg [0, 1, 2] (by kernel_rfl) (by kernel_rfl) ?_
        refine WR.runk [0, 1, 2] [] [0, 2] (L' := [(0, .int .u64 (ishr .u64 a0 8)), (2, .int .i64 (wi (0 + 8)))]) (w' := w0) (by kernel_rfl) ?_
        refine WR.nil ?_
        refine At.go ?_
        refine WC.seq (by kernel_rfl) ?_
        refine WC.reg [0, 1, 2, 3, 4, 5, 6] (by kernel_rfl) (by kernel_rfl) ?_
        refine WR.runk [0, 1, 2] [3, 4, 5, 6] [2, 19, 21] (L' := [(2, .int .i64 (wi (0 + 8))), (19, .int .i64 (wi (0 + 8))), (21, .int .u8 (IntKind.wrap .u8 (ishr .u64 a0 8)))]) (w' := w0) (by kernel_rfl) ?_
        obtain ⟨v20, e21, H⟩ := bind_ex H
        refine WR.st (St.ofP (PSt.chr (k := .u8) (t := 9) (.const (.string ⟨#[0, 1, 2, 2, 3, 3, 3, 3, 4, 4, 4, 4, 4, 4, 4, 4, 5, 5, 5, 5, 5, 5, 5, 5, 5, 5, 5, 5, 5, 5, 5, 5, 6, 6, 6, 6, 6, 6, 6, 6, 6, 6, 6, 6, 6, 6, 6, 6, 6, 6, 6, 6, 6, 6, 6, 6, 6, 6, 6, 6, 6, 6, 6, 6, 7, 7, 7, 7, 7, 7, 7, 7, 7, 7, 7, 7, 7, 7, 7, 7, 7, 7, 7, 7, 7, 7, 7, 7, 7, 7, 7, 7, 7, 7, 7, 7, 7, 7, 7, 7, 7, 7, 7, 7, 7, 7, 7, 7, 7, 7, 7, 7, 7, 7, 7, 7, 7, 7, 7, 7, 7, 7, 7, 7, 7, 7, 7, 7, 8, 8, 8, 8, 8, 8, 8, 8, 8, 8, 8, 8, 8, 8, 8, 8, 8, 8, 8, 8, 8, 8, 8, 8, 8, 8, 8, 8, 8, 8, 8, 8, 8, 8, 8, 8, 8, 8, 8, 8, 8, 8, 8, 8, 8, 8, 8, 8, 8, 8, 8, 8, 8, 8, 8, 8, 8, 8, 8, 8, 8, 8, 8, 8, 8, 8, 8, 8, 8, 8, 8, 8, 8, 8, 8, 8, 8, 8, 8, 8, 8, 8, 8, 8, 8, 8, 8, 8, 8, 8, 8, 8, 8, 8, 8, 8, 8, 8, 8, 8, 8, 8, 8, 8, 8, 8, 8, 8, 8, 8, 8, 8, 8, 8, 8, 8, 8, 8, 8, 8, 8, 8, 8, 8, 8, 8, 8, 8]⟩)) (.tmp 21) (by kernel_rfl) (by kernel_rfl) (by kernel_rfl) (by kernel_rfl) (by kernel_rfl) e21 ?_))
        refine WR.runk [4, 5, 6] [] [2] (L' := [(2, .int .i64 (wi ((wi (0 + 8)) + (wi v20))))]) (w' := w0) (by kernel_rfl) ?_
        refine WR.nil ?_
        refine At.go ?_
        refine WC.ret (by kernel_rfl) ?_
        obtain rfl := Option.some.inj H
        have hS : Sat w0 (rf w0) [] := hS.sel [] (by kernel_rfl)
        exact At.body [.int .i64 (wi ((wi (0 + 8)) + (wi v20)))] (by kernel_rfl) ⟨_, rfl, rfl, hS⟩
      · replace H := ite_f H hb19
        refine WC.skip (by kernel_rfl) ?_
        refine At.go ?_
        refine WC.seq (by kernel_rfl) ?_
        refine WC.reg [0, 1, 2, 3, 4, 5, 6] (by kernel_rfl) (by kernel_rfl) ?_
        refine WR.runk [0, 1, 2] [3, 4, 5, 6] [2, 19, 21] (L' := [(2, .int .i64 0), (19, .int .i64 0), (21, .int .u8 (IntKind.wrap .u8 a0))]) (w' := w0) (by kernel_rfl) ?_
        obtain ⟨v22, e23, H⟩ := bind_ex H
        refine WR.st (St.ofP (PSt.chr (k := .u8) (t := 9) (.const (.string ⟨#[0, 1, 2, 2, 3, 3, 3, 3, 4, 4, 4, 4, 4, 4, 4, 4, 5, 5, 5, 5, 5, 5, 5, 5, 5, 5, 5, 5, 5, 5, 5, 5, 6, 6, 6, 6, 6, 6, 6, 6, 6, 6, 6, 6, 6, 6, 6, 6, 6, 6, 6, 6, 6, 6, 6, 6, 6, 6, 6, 6, 6, 6, 6, 6, 7, 7, 7, 7, 7, 7, 7, 7, 7, 7, 7, 7, 7, 7, 7, 7, 7, 7, 7, 7, 7, 7, 7, 7, 7, 7, 7, 7, 7, 7, 7, 7, 7, 7, 7, 7, 7, 7, 7, 7, 7, 7, 7, 7, 7, 7, 7, 7, 7, 7, 7, 7, 7, 7, 7, 7, 7, 7, 7, 7, 7, 7, 7, 7, 8, 8, 8, 8, 8, 8, 8, 8, 8, 8, 8, 8, 8, 8, 8, 8, 8, 8, 8, 8, 8, 8, 8, 8, 8, 8, 8, 8, 8, 8, 8, 8, 8, 8, 8, 8, 8, 8, 8, 8, 8, 8, 8, 8, 8, 8, 8, 8, 8, 8, 8, 8, 8, 8, 8, 8, 8, 8, 8, 8, 8, 8, 8, 8, 8, 8, 8, 8, 8, 8, 8, 8, 8, 8, 8, 8, 8, 8, 8, 8, 8, 8, 8, 8, 8, 8, 8, 8, 8, 8, 8, 8, 8, 8, 8, 8, 8, 8, 8, 8, 8, 8, 8, 8, 8, 8, 8, 8, 8, 8, 8, 8, 8, 8, 8, 8, 8, 8, 8, 8, 8, 8, 8, 8, 8, 8, 8, 8]⟩)) (.tmp 21) (by kernel_rfl) (by kernel_rfl) (by kernel_rfl) (by kernel_rfl) (by kernel_rfl) e23 ?_))
        refine WR.runk [4, 5, 6] [] [2] (L' := [(2, .int .i64 (wi (0 + (wi v22))))]) (w' := w0) (by kernel_rfl) ?_
        refine WR.nil ?_
        refine At.go ?_
        refine WC.ret (by kernel_rfl) ?_
        obtain rfl := Option.some.inj H
        have hS : Sat w0 (rf w0) [] := hS.sel [] (by kernel_rfl)
        exact At.body [.int .i64 (wi (0 + (wi v22)))] (by kernel_rfl) ⟨_, rfl, rfl, hS⟩
/-! ### 10 colophon/pack.Width -/
def pack_Width.f (a0 : Int) : Option Int := ((bits_Len64.f a0).bind fun r1 => some (imax 1 r1))
def pack_Width.post (w : World) (r : Int) (v : Value) (w' : World) : Prop := v = (.int .i64 r : Value) ∧ Sat w' (rf w) []
theorem pack_Width.calls (w0 : World) (a0 : Int) (r : Int) (H : pack_Width.f a0 = some r) :
    Calls Try.prog 10 #[.int .u64 a0] w0 (fun e w' => ∃ v, e = .returned v ∧ pack_Width.post w0 r v w') := by
  have hS : Sat w0 (rf w0) [] := Sat.start w0
  unfold pack_Width.f at H
  refine calls_of_WC (vs := [.int .u64 a0]) Try.func10 (c := C10) (n := 6) (by kernel_rfl) (by kernel_rfl) (by kernel_rfl) ?_
  refine WC.seq (by kernel_rfl) ?_
  refine WC.reg [0] (by kernel_rfl) (by kernel_rfl) ?_
  refine WR.runk [0] [] [0] (L' := [(0, .int .u64 a0)]) (w' := w0) (by kernel_rfl) ?_
  refine WR.nil ?_
  refine At.go ?_
  refine WC.seq (by kernel_rfl) ?_
  refine WC.reg [0, 1, 2, 3] (by kernel_rfl) (by kernel_rfl) ?_
  refine WR.runk [0] [1, 2, 3] [3] (L' := [(3, .int .u64 a0)]) (w' := w0) (by kernel_rfl) ?_
  obtain ⟨r1, e2, H⟩ := bind_ex H
  refine WR.st (St.call (by kernel_rfl) (f := 24) (args := #[.int .u64 a0]) (by kernel_rfl) (bits_Len64.calls w0 a0 r1 e2) ?_)
  rintro _ w8 ⟨rfl, hS9⟩
  have hS : Sat w8 (rf w0) [] := hS.ext hS9
  refine WR.runk [2, 3] [] [2] (L' := [(2, .int .i64 (imax 1 r1))]) (w' := w8) (by kernel_rfl) ?_
  refine WR.nil ?_
  refine At.go ?_
  refine WC.ret (by kernel_rfl) ?_
  obtain rfl := Option.some.inj H
  have hS : Sat w8 (rf w0) [] := hS.sel [] (by kernel_rfl)
  exact At.body [.int .i64 (imax 1 r1)] (by kernel_rfl) ⟨_, rfl, rfl, hS⟩
/-! ### 9 colophon/colophonlaw01.first -/
def colophonlaw01_first.f : Option Bool := ((pack_New.f 3 3).bind fun r1 => (match r1.1 with | none => some false | some y11 => (if (r1.2 != 0) then some false else ((pack_Ints_Set.f y11 1 5).bind fun r17 => (if (!r17.1) then some false else ((pack_Ints_Set.f r17.2 1 8).bind fun r27 => (if r27.1 then some false else ((pack_Ints_Set.f r27.2 3 1).bind fun r37 => (if r37.1 then some false else ((pack_Ints_Words.f (some r37.2)).bind fun r47 => ((pack_From.f 3 3 ([512] : List Int)).bind fun r60 => (if ((r47.length : Int) == 1) then ((at? r47 0).bind fun v71 => (if (v71 == 40) then ((pack_Ints_Get.f (some r37.2) 1).bind fun r74 => (if (r74 == 5) then ((pack_Ints_Get.f (some r37.2) (-1)).bind fun r84 => (if (r84 == 0) then (if (r60.2 == 10) then ((pack_Width.f 0).bind fun r95 => (if (r95 == 1) then ((pack_Width.f 8).bind fun r105 => some (r105 == 4)) else some false)) else some false) else some false)) else some false)) else some false)) else some false))))))))))))
def colophonlaw01_first.post (w : World) (r : Bool) (v : Value) (w' : World) : Prop := v = (.bool r : Value) ∧ Sat w' (rf w) []
theorem colophonlaw01_first.calls (w0 : World) (r : Bool) (H : colophonlaw01_first.f = some r) :
    Calls Try.prog 9 #[] w0 (fun e w' => ∃ v, e = .returned v ∧ colophonlaw01_first.post w0 r v w') := by
  have hS : Sat w0 (rf w0) [] := Sat.start w0
  unfold colophonlaw01_first.f at H
  refine calls_of_WC (vs := []) Try.func9 (c := C9) (n := 67) (by kernel_rfl) (by kernel_rfl) (by kernel_rfl) ?_
  refine WC.seq (by kernel_rfl) ?_
  refine WC.reg [0] (by kernel_rfl) (by kernel_rfl) ?_
  refine WR.runk [0] [] [] (L' := []) (w' := w0) (by kernel_rfl) ?_
  refine WR.nil ?_
  refine At.go ?_
  refine WC.seq (by kernel_rfl) ?_
  refine WC.reg [0, 1, 2, 3, 4, 5] (by kernel_rfl) (by kernel_rfl) ?_
  obtain ⟨r1, e2, H⟩ := bind_ex H
  refine WR.st (St.call (by kernel_rfl) (f := 11) (args := #[.int .i64 3, .int .i64 3]) (by kernel_rfl) (pack_New.calls w0 3 3 r1 e2) ?_)
  rintro _ w8 ⟨pv10, rfl, hS9⟩
  have hS : Sat w8 (rf w0) [optP O55 pv10 r1.1] := hS.ext hS9
  refine WR.runk [1, 2, 3, 4, 5] [] [1, 2] (L' := [(1, pv10), (2, .int .i64 r1.2)]) (w' := w8) (by kernel_rfl) ?_
  refine WR.nil ?_
  refine At.go ?_
  refine WC.seq (by kernel_rfl) ?_
  refine WC.seq (by kernel_rfl) ?_
  refine WC.reg [0, 1, 2, 3, 4, 5, 6, 7, 8, 9, 10, 11, 12, 13, 14, 15, 16, 17, 18] (by kernel_rfl) (by kernel_rfl) ?_
  refine WR.runk [0] [1, 2, 3, 4, 5, 6, 7, 8, 9, 10, 11, 12, 13, 14, 15, 16, 17, 18] [1, 2, 10] (L' := [(1, pv10), (2, .int .i64 r1.2), (10, pv10)]) (w' := w8) (by kernel_rfl) ?_
  rcases hr12 : r1.1 with _ | y11
  · rw [hr12] at H
    dsimp only at H
    have hv13 := optP.none hS hr12
    subst hv13
    have hS : Sat w8 (rf w0) [] := hS.sel [] (by kernel_rfl)
    refine WR.runk [1, 2, 3, 4, 5, 6, 7, 8, 9, 10, 11, 12, 13, 14, 15, 16, 17, 18] [] [1, 28] (L' := [(1, .pointer none), (28, .bool true)]) (w' := w8) (by kernel_rfl) ?_
    refine WR.nil ?_
    refine At.go ?_
    refine WC.condT (by kernel_rfl) (by kernel_rfl) (by kernel_rfl) ?_
    refine WC.seq (by kernel_rfl) ?_
    refine WC.reg [0] (by kernel_rfl) (by kernel_rfl) ?_
    refine WR.runk [0] [] [0] (L' := [(0, .bool false)]) (w' := w8) (by kernel_rfl) ?_
    refine WR.nil ?_
    refine At.go ?_
    refine WC.ret (by kernel_rfl) ?_
    refine At.thenRet ?_
    obtain rfl := Option.some.inj H
    have hS : Sat w8 (rf w0) [] := hS.sel [] (by kernel_rfl)
    exact At.body [.bool false] (by kernel_rfl) ⟨_, rfl, rfl, hS⟩
  · rw [hr12] at H
    dsimp only at H
    obtain ⟨b14, hv13, hN114⟩ := optP.some hS hr12
    subst hv13
    have hS : Sat w8 (rf w0) [O55 b14 y11] := hN114
    refine WR.runk [1, 2, 3, 4, 5, 6] [7, 8, 9, 10, 11, 12, 13, 14, 15, 16, 17, 18] [1, 16] (L' := [(1, .pointer (some ⟨b14, 0, none⟩)), (16, .bool (r1.2 != 0))]) (w' := w8) (by kernel_rfl) ?_
    refine WR.split 16 (b := (r1.2 != 0)) (by kernel_rfl) (fun hb16 => ?_) (fun hb16 => ?_)
    · replace H := ite_t H hb16
      refine WR.runk [7, 8, 9, 10, 11, 12, 13, 14, 15, 16, 17, 18] [] [1, 28] (L' := [(1, .pointer (some ⟨b14, 0, none⟩)), (28, .bool true)]) (w' := w8) (by kernel_rfl) ?_
      refine WR.nil ?_
      refine At.go ?_
      refine WC.condT (by kernel_rfl) (by kernel_rfl) (by kernel_rfl) ?_
      refine WC.seq (by kernel_rfl) ?_
      refine WC.reg [0] (by kernel_rfl) (by kernel_rfl) ?_
      refine WR.runk [0] [] [0] (L' := [(0, .bool false)]) (w' := w8) (by kernel_rfl) ?_
      refine WR.nil ?_
      refine At.go ?_
      refine WC.ret (by kernel_rfl) ?_
      refine At.thenRet ?_
      obtain rfl := Option.some.inj H
      have hS : Sat w8 (rf w0) [] := hS.sel [] (by kernel_rfl)
      exact At.body [.bool false] (by kernel_rfl) ⟨_, rfl, rfl, hS⟩
    · replace H := ite_f H hb16
      refine WR.runk [7] [8, 9, 10, 11, 12, 13, 14, 15, 16, 17, 18] [1, 16, 17] (L' := [(1, .pointer (some ⟨b14, 0, none⟩)), (16, .bool false), (17, .pointer (some ⟨b14, 0, none⟩))]) (w' := w8) (by kernel_rfl) ?_
      obtain ⟨r17, e18, H⟩ := bind_ex H
      obtain ⟨B23, hso22, hsub20, hcs21, hb19⟩ := Sat.lend [O55 b14 y11] (cs := []) hS
      refine WR.st (St.call (by kernel_rfl) (f := 12) (args := #[.pointer (some ⟨b14, 0, none⟩), .int .i64 1, .int .u64 5]) (by kernel_rfl) (pack_Ints_Set.calls B23 w8 b14 y11 hso22 1 5 r17 e18) ?_)
      rintro _ w24 ⟨rfl, hS25⟩
      have hS : Sat w24 (rf w0) [O55 b14 r17.2] := hb19 _ _ hS25
      refine WR.runk [9, 10, 11] [12, 13, 14, 15, 16, 17, 18] [1, 21] (L' := [(1, .pointer (some ⟨b14, 0, none⟩)), (21, .bool (!r17.1))]) (w' := w24) (by kernel_rfl) ?_
      refine WR.split 21 (b := (!r17.1)) (by kernel_rfl) (fun hb26 => ?_) (fun hb26 => ?_)
      · replace H := ite_t H hb26
        refine WR.runk [12, 13, 14, 15, 16, 17, 18] [] [1, 28] (L' := [(1, .pointer (some ⟨b14, 0, none⟩)), (28, .bool true)]) (w' := w24) (by kernel_rfl) ?_
        refine WR.nil ?_
        refine At.go ?_
        refine WC.condT (by kernel_rfl) (by kernel_rfl) (by kernel_rfl) ?_
        refine WC.seq (by kernel_rfl) ?_
        refine WC.reg [0] (by kernel_rfl) (by kernel_rfl) ?_
        refine WR.runk [0] [] [0] (L' := [(0, .bool false)]) (w' := w24) (by kernel_rfl) ?_
        refine WR.nil ?_
        refine At.go ?_
        refine WC.ret (by kernel_rfl) ?_
        refine At.thenRet ?_
        obtain rfl := Option.some.inj H
        have hS : Sat w24 (rf w0) [] := hS.sel [] (by kernel_rfl)
        exact At.body [.bool false] (by kernel_rfl) ⟨_, rfl, rfl, hS⟩
      · replace H := ite_f H hb26
        refine WR.runk [12] [13, 14, 15, 16, 17, 18] [1, 21, 22] (L' := [(1, .pointer (some ⟨b14, 0, none⟩)), (21, .bool false), (22, .pointer (some ⟨b14, 0, none⟩))]) (w' := w24) (by kernel_rfl) ?_
        obtain ⟨r27, e28, H⟩ := bind_ex H
        obtain ⟨B33, hso32, hsub30, hcs31, hb29⟩ := Sat.lend [O55 b14 r17.2] (cs := []) hS
        refine WR.st (St.call (by kernel_rfl) (f := 12) (args := #[.pointer (some ⟨b14, 0, none⟩), .int .i64 1, .int .u64 8]) (by kernel_rfl) (pack_Ints_Set.calls B33 w24 b14 r17.2 hso32 1 8 r27 e28) ?_)
        rintro _ w34 ⟨rfl, hS35⟩
        have hS : Sat w34 (rf w0) [O55 b14 r27.2] := hb29 _ _ hS35
        refine WR.runk [14, 15] [16, 17, 18] [1, 25] (L' := [(1, .pointer (some ⟨b14, 0, none⟩)), (25, .bool r27.1)]) (w' := w34) (by kernel_rfl) ?_
        refine WR.split 25 (b := r27.1) (by kernel_rfl) (fun hb36 => ?_) (fun hb36 => ?_)
        · replace H := ite_t H hb36
          refine WR.runk [16, 17, 18] [] [1, 28] (L' := [(1, .pointer (some ⟨b14, 0, none⟩)), (28, .bool true)]) (w' := w34) (by kernel_rfl) ?_
          refine WR.nil ?_
          refine At.go ?_
          refine WC.condT (by kernel_rfl) (by kernel_rfl) (by kernel_rfl) ?_
          refine WC.seq (by kernel_rfl) ?_
          refine WC.reg [0] (by kernel_rfl) (by kernel_rfl) ?_
          refine WR.runk [0] [] [0] (L' := [(0, .bool false)]) (w' := w34) (by kernel_rfl) ?_
          refine WR.nil ?_
          refine At.go ?_
          refine WC.ret (by kernel_rfl) ?_
          refine At.thenRet ?_
          obtain rfl := Option.some.inj H
          have hS : Sat w34 (rf w0) [] := hS.sel [] (by kernel_rfl)
          exact At.body [.bool false] (by kernel_rfl) ⟨_, rfl, rfl, hS⟩
        · replace H := ite_f H hb36
          refine WR.runk [16] [17, 18] [1, 25, 26] (L' := [(1, .pointer (some ⟨b14, 0, none⟩)), (25, .bool false), (26, .pointer (some ⟨b14, 0, none⟩))]) (w' := w34) (by kernel_rfl) ?_
          obtain ⟨r37, e38, H⟩ := bind_ex H
          obtain ⟨B43, hso42, hsub40, hcs41, hb39⟩ := Sat.lend [O55 b14 r27.2] (cs := []) hS
          refine WR.st (St.call (by kernel_rfl) (f := 12) (args := #[.pointer (some ⟨b14, 0, none⟩), .int .i64 3, .int .u64 1]) (by kernel_rfl) (pack_Ints_Set.calls B43 w34 b14 r27.2 hso42 3 1 r37 e38) ?_)
          rintro _ w44 ⟨rfl, hS45⟩
          have hS : Sat w44 (rf w0) [O55 b14 r37.2] := hb39 _ _ hS45
          refine WR.runk [18] [] [1, 28] (L' := [(1, .pointer (some ⟨b14, 0, none⟩)), (28, .bool r37.1)]) (w' := w44) (by kernel_rfl) ?_
          refine WR.nil ?_
          refine At.go ?_
          refine WC.cond (by kernel_rfl) r37.1 (by kernel_rfl) (by kernel_rfl) (fun hb46 => ?_) (fun hb46 => ?_)
          · replace H := ite_t H hb46
            refine WC.seq (by kernel_rfl) ?_
            refine WC.reg [0] (by kernel_rfl) (by kernel_rfl) ?_
            refine WR.runk [0] [] [0] (L' := [(0, .bool false)]) (w' := w44) (by kernel_rfl) ?_
            refine WR.nil ?_
            refine At.go ?_
            refine WC.ret (by kernel_rfl) ?_
            refine At.thenRet ?_
            obtain rfl := Option.some.inj H
            have hS : Sat w44 (rf w0) [] := hS.sel [] (by kernel_rfl)
            exact At.body [.bool false] (by kernel_rfl) ⟨_, rfl, rfl, hS⟩
          · replace H := ite_f H hb46
            refine WC.skip (by kernel_rfl) ?_
            refine At.go ?_
            refine WC.seq (by kernel_rfl) ?_
            refine WC.reg [0, 1, 2] (by kernel_rfl) (by kernel_rfl) ?_
            refine WR.runk [0] [1, 2] [1, 29] (L' := [(1, .pointer (some ⟨b14, 0, none⟩)), (29, .pointer (some ⟨b14, 0, none⟩))]) (w' := w44) (by kernel_rfl) ?_
            obtain ⟨r47, e48, H⟩ := bind_ex H
            refine WR.st (St.call (by kernel_rfl) (f := 14) (args := #[.pointer (some ⟨b14, 0, none⟩)]) (by kernel_rfl) (pack_Ints_Words.calls w44 (.pointer (some ⟨b14, 0, none⟩)) (some r37.2) (Sat.rdAny 0 hS rfl (fun _ h => O55.rd _ _ _ h)) r47 e48) ?_)
            rintro _ w54 ⟨A56, c57, rfl, hS55⟩
            have hS : Sat w54 (rf w0) [osl 22 (r0 (.int .u64)) 1 A56 c57 r47, O55 b14 r37.2] := hS.ext hS55
            refine WR.runk [2] [] [1, 3] (L' := [(1, .pointer (some ⟨b14, 0, none⟩)), (3, .slice A56 r47.length c57)]) (w' := w54) (by kernel_rfl) ?_
            refine WR.nil ?_
            refine At.go ?_
            refine WC.seq (by kernel_rfl) ?_
            refine WC.reg [0, 1, 2, 3, 4, 5, 6] (by kernel_rfl) (by kernel_rfl) ?_
            refine WR.st (St.box hS (by kernel_rfl) (.cells #[.int .u64 512] 22) (fun b58 => .slice (some ⟨b58, 0, none⟩) 1 1) (fun _ => by kernel_rfl) (fun b58 w59 hS => ?_))
            refine WR.runk [] [1, 2, 3, 4, 5, 6] [1, 3, 32] (L' := [(1, .pointer (some ⟨b14, 0, none⟩)), (3, .slice A56 r47.length c57), (32, .slice (some ⟨b58, 0, none⟩) 1 1)]) (w' := w59) (by kernel_rfl) ?_
            obtain ⟨r60, e61, H⟩ := bind_ex H
            refine WR.st (St.call (by kernel_rfl) (f := 15) (args := #[.int .i64 3, .int .i64 3, .slice (some ⟨b58, 0, none⟩) 1 1]) (by kernel_rfl) (pack_From.calls w59 3 3 (some ⟨b58, 0, none⟩) 1 ([512] : List Int) (Sat.ptsAt 0 (r0 (.int .u64)) 1 ([512] : List Int) hS rfl rfl (rdL.cons1 rfl (rdL.nil _ _))) r60 e61) ?_)
            rintro _ w67 ⟨pv69, rfl, hS68⟩
            have hS : Sat w67 (rf w0) [optP O55 pv69 r60.1, pts b58 (.cells #[.int .u64 512] 22 (0, 0)), osl 22 (r0 (.int .u64)) 1 A56 c57 r47, O55 b14 r37.2] := hS.ext hS68
            refine WR.runk [2, 3, 4, 5, 6] [] [1, 3, 5] (L' := [(1, .pointer (some ⟨b14, 0, none⟩)), (3, .slice A56 r47.length c57), (5, .int .i64 r60.2)]) (w' := w67) (by kernel_rfl) ?_
            refine WR.nil ?_
            refine At.go ?_
            refine WC.seq (by kernel_rfl) ?_
            refine WC.reg [0, 1, 2, 3, 4, 5, 6, 7, 8, 9, 10, 11, 12, 13, 14, 15, 16, 17, 18, 19, 20, 21, 22, 23, 24, 25, 26, 27, 28, 29, 30, 31] (by kernel_rfl) (by kernel_rfl) ?_
            refine WR.runk [0, 1, 2, 3] [4, 5, 6, 7, 8, 9, 10, 11, 12, 13, 14, 15, 16, 17, 18, 19, 20, 21, 22, 23, 24, 25, 26, 27, 28, 29, 30, 31] [1, 3, 5, 39] (L' := [(1, .pointer (some ⟨b14, 0, none⟩)), (3, .slice A56 r47.length c57), (5, .int .i64 r60.2), (39, .bool ((r47.length : Int) == 1))]) (w' := w67) (by kernel_rfl) ?_
            refine WR.split 39 (b := ((r47.length : Int) == 1)) (by kernel_rfl) (fun hb70 => ?_) (fun hb70 => ?_)
            · replace H := ite_t H hb70
              refine WR.runk [4] [5, 6, 7, 8, 9, 10, 11, 12, 13, 14, 15, 16, 17, 18, 19, 20, 21, 22, 23, 24, 25, 26, 27, 28, 29, 30, 31] [1, 5, 39, 40] (L' := [(1, .pointer (some ⟨b14, 0, none⟩)), (5, .int .i64 r60.2), (39, .bool true), (40, .slice A56 r47.length c57)]) (w' := w67) (by kernel_rfl) ?_
              obtain ⟨v71, e72, H⟩ := bind_ex H
              refine WR.st (St.ofP (PSt.idx (k := .i64) (.tmp 40) (.const (.int .i64 0)) (by kernel_rfl) (by kernel_rfl) E32 (by kernel_rfl) (by kernel_rfl) (Sat.rdAt 2 hS rfl) e72 ?_))
              refine WR.runk [] [6, 7, 8, 9, 10, 11, 12, 13, 14, 15, 16, 17, 18, 19, 20, 21, 22, 23, 24, 25, 26, 27, 28, 29, 30, 31] [1, 5, 39, 41] (L' := [(1, .pointer (some ⟨b14, 0, none⟩)), (5, .int .i64 r60.2), (39, .bool true), (41, .pointer (some (adr A56 (0 : Int).toNat 1)))]) (w' := w67) (by kernel_rfl) ?_
              refine WR.st (St.ofR (RSt.loadInt (t := 22) (.tmp 41) (by kernel_rfl) (by kernel_rfl) (by kernel_rfl) (by kernel_rfl) (Sat.rdAt 2 hS rfl) e72 ?_))
              refine WR.runk [7, 8, 9] [10, 11, 12, 13, 14, 15, 16, 17, 18, 19, 20, 21, 22, 23, 24, 25, 26, 27, 28, 29, 30, 31] [1, 5, 45] (L' := [(1, .pointer (some ⟨b14, 0, none⟩)), (5, .int .i64 r60.2), (45, .bool (v71 == 40))]) (w' := w67) (by kernel_rfl) ?_
              refine WR.split 45 (b := (v71 == 40)) (by kernel_rfl) (fun hb73 => ?_) (fun hb73 => ?_)
              · replace H := ite_t H hb73
                refine WR.runk [10] [11, 12, 13, 14, 15, 16, 17, 18, 19, 20, 21, 22, 23, 24, 25, 26, 27, 28, 29, 30, 31] [1, 5, 45, 46] (L' := [(1, .pointer (some ⟨b14, 0, none⟩)), (5, .int .i64 r60.2), (45, .bool true), (46, .pointer (some ⟨b14, 0, none⟩))]) (w' := w67) (by kernel_rfl) ?_
                obtain ⟨r74, e75, H⟩ := bind_ex H
                refine WR.st (St.call (by kernel_rfl) (f := 13) (args := #[.pointer (some ⟨b14, 0, none⟩), .int .i64 1]) (by kernel_rfl) (pack_Ints_Get.calls w67 (.pointer (some ⟨b14, 0, none⟩)) (some r37.2) (Sat.rdAny 3 hS rfl (fun _ h => O55.rd _ _ _ h)) 1 r74 e75) ?_)
                rintro _ w81 ⟨rfl, hS82⟩
                have hS : Sat w81 (rf w0) [optP O55 pv69 r60.1, pts b58 (.cells #[.int .u64 512] 22 (0, 0)), osl 22 (r0 (.int .u64)) 1 A56 c57 r47, O55 b14 r37.2] := hS.ext hS82
                refine WR.runk [12, 13, 14] [15, 16, 17, 18, 19, 20, 21, 22, 23, 24, 25, 26, 27, 28, 29, 30, 31] [1, 5, 50] (L' := [(1, .pointer (some ⟨b14, 0, none⟩)), (5, .int .i64 r60.2), (50, .bool (r74 == 5))]) (w' := w81) (by kernel_rfl) ?_
                refine WR.split 50 (b := (r74 == 5)) (by kernel_rfl) (fun hb83 => ?_) (fun hb83 => ?_)
                · replace H := ite_t H hb83
                  refine WR.runk [15] [16, 17, 18, 19, 20, 21, 22, 23, 24, 25, 26, 27, 28, 29, 30, 31] [5, 50, 51] (L' := [(5, .int .i64 r60.2), (50, .bool true), (51, .pointer (some ⟨b14, 0, none⟩))]) (w' := w81) (by kernel_rfl) ?_
                  obtain ⟨r84, e85, H⟩ := bind_ex H
                  refine WR.st (St.call (by kernel_rfl) (f := 13) (args := #[.pointer (some ⟨b14, 0, none⟩), .int .i64 (-1)]) (by kernel_rfl) (pack_Ints_Get.calls w81 (.pointer (some ⟨b14, 0, none⟩)) (some r37.2) (Sat.rdAny 3 hS rfl (fun _ h => O55.rd _ _ _ h)) (-1) r84 e85) ?_)
                  rintro _ w91 ⟨rfl, hS92⟩
                  have hS : Sat w91 (rf w0) [optP O55 pv69 r60.1, pts b58 (.cells #[.int .u64 512] 22 (0, 0)), osl 22 (r0 (.int .u64)) 1 A56 c57 r47, O55 b14 r37.2] := hS.ext hS92
                  refine WR.runk [17, 18, 19] [20, 21, 22, 23, 24, 25, 26, 27, 28, 29, 30, 31] [5, 55] (L' := [(5, .int .i64 r60.2), (55, .bool (r84 == 0))]) (w' := w91) (by kernel_rfl) ?_
                  refine WR.split 55 (b := (r84 == 0)) (by kernel_rfl) (fun hb93 => ?_) (fun hb93 => ?_)
                  · replace H := ite_t H hb93
                    refine WR.runk [20, 21, 22, 23] [24, 25, 26, 27, 28, 29, 30, 31] [59] (L' := [(59, .bool (r60.2 == 10))]) (w' := w91) (by kernel_rfl) ?_
                    refine WR.split 59 (b := (r60.2 == 10)) (by kernel_rfl) (fun hb94 => ?_) (fun hb94 => ?_)
                    · replace H := ite_t H hb94
                      refine WR.runk [] [24, 25, 26, 27, 28, 29, 30, 31] [59] (L' := [(59, .bool true)]) (w' := w91) (by kernel_rfl) ?_
                      obtain ⟨r95, e96, H⟩ := bind_ex H
                      refine WR.st (St.call (by kernel_rfl) (f := 10) (args := #[.int .u64 0]) (by kernel_rfl) (pack_Width.calls w91 0 r95 e96) ?_)
                      rintro _ w102 ⟨rfl, hS103⟩
                      have hS : Sat w102 (rf w0) [optP O55 pv69 r60.1, pts b58 (.cells #[.int .u64 512] 22 (0, 0)), osl 22 (r0 (.int .u64)) 1 A56 c57 r47, O55 b14 r37.2] := hS.ext hS103
                      refine WR.runk [25, 26, 27] [28, 29, 30, 31] [63] (L' := [(63, .bool (r95 == 1))]) (w' := w102) (by kernel_rfl) ?_
                      refine WR.split 63 (b := (r95 == 1)) (by kernel_rfl) (fun hb104 => ?_) (fun hb104 => ?_)
                      · replace H := ite_t H hb104
                        refine WR.runk [] [28, 29, 30, 31] [63] (L' := [(63, .bool true)]) (w' := w102) (by kernel_rfl) ?_
                        obtain ⟨r105, e106, H⟩ := bind_ex H
                        refine WR.st (St.call (by kernel_rfl) (f := 10) (args := #[.int .u64 8]) (by kernel_rfl) (pack_Width.calls w102 8 r105 e106) ?_)
                        rintro _ w112 ⟨rfl, hS113⟩
                        have hS : Sat w112 (rf w0) [optP O55 pv69 r60.1, pts b58 (.cells #[.int .u64 512] 22 (0, 0)), osl 22 (r0 (.int .u64)) 1 A56 c57 r47, O55 b14 r37.2] := hS.ext hS113
                        refine WR.runk [29, 30, 31] [] [0] (L' := [(0, .bool (r105 == 4))]) (w' := w112) (by kernel_rfl) ?_
                        refine WR.nil ?_
                        refine At.go ?_
                        refine WC.ret (by kernel_rfl) ?_
                        obtain rfl := Option.some.inj H
                        have hS : Sat w112 (rf w0) [] := hS.sel [] (by kernel_rfl)
                        exact At.body [.bool (r105 == 4)] (by kernel_rfl) ⟨_, rfl, rfl, hS⟩
                      · replace H := ite_f H hb104
                        refine WR.runk [28, 29, 30, 31] [] [0] (L' := [(0, .bool false)]) (w' := w102) (by kernel_rfl) ?_
                        refine WR.nil ?_
                        refine At.go ?_
                        refine WC.ret (by kernel_rfl) ?_
                        obtain rfl := Option.some.inj H
                        have hS : Sat w102 (rf w0) [] := hS.sel [] (by kernel_rfl)
                        exact At.body [.bool false] (by kernel_rfl) ⟨_, rfl, rfl, hS⟩
                    · replace H := ite_f H hb94
                      refine WR.runk [24, 25, 26, 27, 28, 29, 30, 31] [] [0] (L' := [(0, .bool false)]) (w' := w91) (by kernel_rfl) ?_
                      refine WR.nil ?_
                      refine At.go ?_
                      refine WC.ret (by kernel_rfl) ?_
                      obtain rfl := Option.some.inj H
                      have hS : Sat w91 (rf w0) [] := hS.sel [] (by kernel_rfl)
                      exact At.body [.bool false] (by kernel_rfl) ⟨_, rfl, rfl, hS⟩
                  · replace H := ite_f H hb93
                    refine WR.runk [20, 21, 22, 23, 24, 25, 26, 27, 28, 29, 30, 31] [] [0] (L' := [(0, .bool false)]) (w' := w91) (by kernel_rfl) ?_
                    refine WR.nil ?_
                    refine At.go ?_
                    refine WC.ret (by kernel_rfl) ?_
                    obtain rfl := Option.some.inj H
                    have hS : Sat w91 (rf w0) [] := hS.sel [] (by kernel_rfl)
                    exact At.body [.bool false] (by kernel_rfl) ⟨_, rfl, rfl, hS⟩
                · replace H := ite_f H hb83
                  refine WR.runk [15, 16, 17, 18, 19, 20, 21, 22, 23, 24, 25, 26, 27, 28, 29, 30, 31] [] [0] (L' := [(0, .bool false)]) (w' := w81) (by kernel_rfl) ?_
                  refine WR.nil ?_
                  refine At.go ?_
                  refine WC.ret (by kernel_rfl) ?_
                  obtain rfl := Option.some.inj H
                  have hS : Sat w81 (rf w0) [] := hS.sel [] (by kernel_rfl)
                  exact At.body [.bool false] (by kernel_rfl) ⟨_, rfl, rfl, hS⟩
              · replace H := ite_f H hb73
                refine WR.runk [10, 11, 12, 13, 14, 15, 16, 17, 18, 19, 20, 21, 22, 23, 24, 25, 26, 27, 28, 29, 30, 31] [] [0] (L' := [(0, .bool false)]) (w' := w67) (by kernel_rfl) ?_
                refine WR.nil ?_
                refine At.go ?_
                refine WC.ret (by kernel_rfl) ?_
                obtain rfl := Option.some.inj H
                have hS : Sat w67 (rf w0) [] := hS.sel [] (by kernel_rfl)
                exact At.body [.bool false] (by kernel_rfl) ⟨_, rfl, rfl, hS⟩
            · replace H := ite_f H hb70
              refine WR.runk [4, 5, 6, 7, 8, 9, 10, 11, 12, 13, 14, 15, 16, 17, 18, 19, 20, 21, 22, 23, 24, 25, 26, 27, 28, 29, 30, 31] [] [0] (L' := [(0, .bool false)]) (w' := w67) (by kernel_rfl) ?_
              refine WR.nil ?_
              refine At.go ?_
              refine WC.ret (by kernel_rfl) ?_
              obtain rfl := Option.some.inj H
              have hS : Sat w67 (rf w0) [] := hS.sel [] (by kernel_rfl)
              exact At.body [.bool false] (by kernel_rfl) ⟨_, rfl, rfl, hS⟩
/-! ### 16 colophon/colophonref01.Right -/
def colophonref01_Right.f (a0 : Int) (a1 : Int) : Option Bool := (if decide (a0 ≥ 1) then (if decide (a0 ≤ 64) then (if decide (a1 ≥ 0) then some (decide (a1 ≤ 4194304)) else some false) else some false) else some false)
def colophonref01_Right.post (w : World) (r : Bool) (v : Value) (w' : World) : Prop := v = (.bool r : Value) ∧ Sat w' (rf w) []
theorem colophonref01_Right.calls (w0 : World) (a0 : Int) (a1 : Int) (r : Bool) (H : colophonref01_Right.f a0 a1 = some r) :
    Calls Try.prog 16 #[.int .i64 a0, .int .i64 a1] w0 (fun e w' => ∃ v, e = .returned v ∧ colophonref01_Right.post w0 r v w') := by
  have hS : Sat w0 (rf w0) [] := Sat.start w0
  unfold colophonref01_Right.f at H
  refine calls_of_WC (vs := [.int .i64 a0, .int .i64 a1]) Try.func16 (c := C16) (n := 19) (by kernel_rfl) (by kernel_rfl) (by kernel_rfl) ?_
  refine WC.seq (by kernel_rfl) ?_
  refine WC.reg [0] (by kernel_rfl) (by kernel_rfl) ?_
  refine WR.runk [0] [] [0, 1] (L' := [(0, .int .i64 a0), (1, .int .i64 a1)]) (w' := w0) (by kernel_rfl) ?_
  refine WR.nil ?_
  refine At.go ?_
  refine WC.seq (by kernel_rfl) ?_
  refine WC.reg [0, 1, 2, 3, 4, 5, 6, 7, 8, 9, 10, 11, 12, 13, 14] (by kernel_rfl) (by kernel_rfl) ?_
  refine WR.runk [0, 1, 2] [3, 4, 5, 6, 7, 8, 9, 10, 11, 12, 13, 14] [0, 1, 7] (L' := [(0, .int .i64 a0), (1, .int .i64 a1), (7, .bool (decide (a0 ≥ 1)))]) (w' := w0) (by kernel_rfl) ?_
  refine WR.split 7 (b := decide (a0 ≥ 1)) (by kernel_rfl) (fun hb1 => ?_) (fun hb1 => ?_)
  · replace H := ite_t H hb1
    refine WR.runk [3, 4, 5, 6] [7, 8, 9, 10, 11, 12, 13, 14] [1, 11] (L' := [(1, .int .i64 a1), (11, .bool (decide (a0 ≤ 64)))]) (w' := w0) (by kernel_rfl) ?_
    refine WR.split 11 (b := decide (a0 ≤ 64)) (by kernel_rfl) (fun hb2 => ?_) (fun hb2 => ?_)
    · replace H := ite_t H hb2
      refine WR.runk [7, 8, 9, 10] [11, 12, 13, 14] [1, 15] (L' := [(1, .int .i64 a1), (15, .bool (decide (a1 ≥ 0)))]) (w' := w0) (by kernel_rfl) ?_
      refine WR.split 15 (b := decide (a1 ≥ 0)) (by kernel_rfl) (fun hb3 => ?_) (fun hb3 => ?_)
      · replace H := ite_t H hb3
        refine WR.runk [11, 12, 13, 14] [] [4] (L' := [(4, .bool (decide (a1 ≤ 4194304)))]) (w' := w0) (by kernel_rfl) ?_
        refine WR.nil ?_
        refine At.go ?_
        refine WC.ret (by kernel_rfl) ?_
        obtain rfl := Option.some.inj H
        have hS : Sat w0 (rf w0) [] := hS.sel [] (by kernel_rfl)
        exact At.body [.bool (decide (a1 ≤ 4194304))] (by kernel_rfl) ⟨_, rfl, rfl, hS⟩
      · replace H := ite_f H hb3
        refine WR.runk [11, 12, 13, 14] [] [4] (L' := [(4, .bool false)]) (w' := w0) (by kernel_rfl) ?_
        refine WR.nil ?_
        refine At.go ?_
        refine WC.ret (by kernel_rfl) ?_
        obtain rfl := Option.some.inj H
        have hS : Sat w0 (rf w0) [] := hS.sel [] (by kernel_rfl)
        exact At.body [.bool false] (by kernel_rfl) ⟨_, rfl, rfl, hS⟩
    · replace H := ite_f H hb2
      refine WR.runk [7, 8, 9, 10, 11, 12, 13, 14] [] [4] (L' := [(4, .bool false)]) (w' := w0) (by kernel_rfl) ?_
      refine WR.nil ?_
      refine At.go ?_
      refine WC.ret (by kernel_rfl) ?_
      obtain rfl := Option.some.inj H
      have hS : Sat w0 (rf w0) [] := hS.sel [] (by kernel_rfl)
      exact At.body [.bool false] (by kernel_rfl) ⟨_, rfl, rfl, hS⟩
  · replace H := ite_f H hb1
    refine WR.runk [3, 4, 5, 6, 7, 8, 9, 10, 11, 12, 13, 14] [] [4] (L' := [(4, .bool false)]) (w' := w0) (by kernel_rfl) ?_
    refine WR.nil ?_
    refine At.go ?_
    refine WC.ret (by kernel_rfl) ?_
    obtain rfl := Option.some.inj H
    have hS : Sat w0 (rf w0) [] := hS.sel [] (by kernel_rfl)
    exact At.body [.bool false] (by kernel_rfl) ⟨_, rfl, rfl, hS⟩
/-! ### 17 colophon/colophonref01.List -/
def colophonref01_List.l1 (l2 : List Int) : Nat → Int → Option (Sum ((List Int) × Bool) Unit)
  | 0, _ => none
  | k + 1, x8_l1 => (if decide (x8_l1 < wi (64 * (l2.length : Int))) then ((at? l2 (wi (Int.tdiv x8_l1 64))).bind fun v5 => (if ((iand .u64 (ishr .u64 v5 (IntKind.wrap .u64 (Int.tmod x8_l1 64))) 1) == 1) then some (.inl (([] : List Int), false)) else colophonref01_List.l1 l2 k (wi (x8_l1 + 1)))) else some (.inr ()))
def colophonref01_List.l3 (a0 : Int) (l2 : List Int) (x10_l2 : Int) : Nat → Int → Int → Option Int
  | 0, _, _ => none
  | k + 1, x11_l3, x12_l3 => (if decide (x12_l3 ≥ 0) then ((at? l2 (wi (Int.tdiv (wi ((wi (x10_l2 * a0)) + x12_l3)) 64))).bind fun v20 => colophonref01_List.l3 a0 l2 x10_l2 k (IntKind.wrap .u64 ((IntKind.wrap .u64 (2 * x11_l3)) + (iand .u64 (ishr .u64 v20 (IntKind.wrap .u64 (Int.tmod (wi ((wi (x10_l2 * a0)) + x12_l3)) 64))) 1))) (wi (x12_l3 - 1))) else some x11_l3)
def colophonref01_List.l2 (a0 : Int) (a1 : Int) (l2 : List Int) : Nat → (List Int) → Int → Option (List Int)
  | 0, _, _ => none
  | k + 1, x9_l2, x10_l2 => (if decide (x10_l2 < a1) then ((colophonref01_List.l3 a0 l2 x10_l2 FU 0 (wi (a0 - 1))).bind fun o22 => ((app? 17592186044416 x9_l2 ([o22] : List Int)).bind fun y30 => colophonref01_List.l2 a0 a1 l2 k y30 (wi (x10_l2 + 1)))) else some x9_l2)
def colophonref01_List.l4 (l2 : List Int) : Nat → Int → Option (Sum ((List Int) × Bool) Unit)
  | 0, _ => none
  | k + 1, x8_l4 => (if decide (x8_l4 < wi (64 * (l2.length : Int))) then ((at? l2 (wi (Int.tdiv x8_l4 64))).bind fun v40 => (if ((iand .u64 (ishr .u64 v40 (IntKind.wrap .u64 (Int.tmod x8_l4 64))) 1) == 1) then some (.inl (([] : List Int), false)) else colophonref01_List.l4 l2 k (wi (x8_l4 + 1)))) else some (.inr ()))
def colophonref01_List.l6 (a0 : Int) (l2 : List Int) (x10_l5 : Int) : Nat → Int → Int → Option Int
  | 0, _, _ => none
  | k + 1, x11_l6, x12_l6 => (if decide (x12_l6 ≥ 0) then ((at? l2 (wi (Int.tdiv (wi ((wi (x10_l5 * a0)) + x12_l6)) 64))).bind fun v55 => colophonref01_List.l6 a0 l2 x10_l5 k (IntKind.wrap .u64 ((IntKind.wrap .u64 (2 * x11_l6)) + (iand .u64 (ishr .u64 v55 (IntKind.wrap .u64 (Int.tmod (wi ((wi (x10_l5 * a0)) + x12_l6)) 64))) 1))) (wi (x12_l6 - 1))) else some x11_l6)
def colophonref01_List.l5 (a0 : Int) (a1 : Int) (l2 : List Int) : Nat → (List Int) → Int → Option (List Int)
  | 0, _, _ => none
  | k + 1, x9_l5, x10_l5 => (if decide (x10_l5 < a1) then ((colophonref01_List.l6 a0 l2 x10_l5 FU 0 (wi (a0 - 1))).bind fun o57 => ((app? 17592186044416 x9_l5 ([o57] : List Int)).bind fun y65 => colophonref01_List.l5 a0 a1 l2 k y65 (wi (x10_l5 + 1)))) else some x9_l5)
def colophonref01_List.f (a0 : Int) (a1 : Int) (l2 : List Int) : Option ((List Int) × Bool) := (if decide (wi ((l2.length : Int) * 64) < wi (a0 * a1)) then some (([] : List Int), false) else (if decide ((l2.length : Int) > 0) then (if decide (wi ((wi ((l2.length : Int) - 1)) * 64) ≥ wi (a0 * a1)) then some (([] : List Int), false) else ((colophonref01_List.l1 l2 FU (wi (a0 * a1))).bind fun o8 => (match o8 with | .inl o10 => some (o10.1, o10.2) | .inr o14 => ((colophonref01_List.l2 a0 a1 l2 FU ([] : List Int) 0).bind fun o34 => some (o34, true))))) else ((colophonref01_List.l4 l2 FU (wi (a0 * a1))).bind fun o43 => (match o43 with | .inl o45 => some (o45.1, o45.2) | .inr o49 => ((colophonref01_List.l5 a0 a1 l2 FU ([] : List Int) 0).bind fun o69 => some (o69, true))))))
def colophonref01_List.post (w : World) (r : (List Int) × Bool) (v : Value) (w' : World) : Prop := ∃ (A0' : Option Addr) (c0' : Nat), v = .tuple #[.slice A0' r.1.length c0', .bool r.2] ∧ Sat w' (rf w) [osl 22 (r0 (.int .u64)) 1 A0' c0' r.1]
theorem colophonref01_List.l1_ok {Q} (w0 : World) (a0 : Int) (a1 : Int) (A2 : Option Addr) (c2 : Nat) (l2 : List Int) (R2 : rdS (r0 (.int .u64)) 1 (hp w0) A2 c2 l2) (out : Sum ((List Int) × Bool) Unit) (hn0 : ∀ (o0 : (List Int) × Bool) (A6_q : Option Addr) (c6_q : Nat) (w : World), out = (.inl o0) → Sat w (rf w0) [osl 22 (r0 (.int .u64)) 1 A6_q c6_q o0.1] → At Q .ret 91 [(6, .slice A6_q o0.1.length c6_q), (7, .bool o0.2)] w) (hn1 : ∀ (o1 : Unit) (w : World), out = (.inr o1) → Sat w (rf w0) [] → At Q (.exit 0) 91 [(0, .int .i64 a0), (1, .int .i64 a1), (2, .slice A2 l2.length c2)] w) :
    ∀ (k : Nat) (x8_l1 : Int) (w : World), Sat w (rf w0) [] → colophonref01_List.l1 l2 k x8_l1 = some out → WL Try.prog (cbody (cbody (cr (cl (cr (cr C17)))))) Q 91 [(0, .int .i64 a0), (1, .int .i64 a1), (2, .slice A2 l2.length c2), (8, .int .i64 x8_l1)] w := by
  intro k
  induction k with
  | zero => intro x8_l1 w hS H; exact absurd (show none = some out from H) (by simp)
  | succ k ih =>
    intro x8_l1 w hS H
    unfold colophonref01_List.l1 at H
    refine WL.round ?_
    refine WC.seq (by kernel_rfl) ?_
    refine WC.seq (by kernel_rfl) ?_
    refine WC.reg [0, 1, 2, 3, 4] (by kernel_rfl) (by kernel_rfl) ?_
    refine WR.runk [0, 1, 2, 3, 4] [] [0, 1, 2, 8, 43] (L' := [(0, .int .i64 a0), (1, .int .i64 a1), (2, .slice A2 l2.length c2), (8, .int .i64 x8_l1), (43, .bool (decide (x8_l1 < wi (64 * (l2.length : Int)))))]) (w' := w) (by kernel_rfl) ?_
    refine WR.nil ?_
    refine At.go ?_
    refine WC.cond (by kernel_rfl) (decide (x8_l1 < wi (64 * (l2.length : Int)))) (by kernel_rfl) (by kernel_rfl) (fun hb4 => ?_) (fun hb4 => ?_)
    · replace H := ite_t H hb4
      refine WC.skip (by kernel_rfl) ?_
      refine At.go ?_
      refine WC.seq (by kernel_rfl) ?_
      refine WC.block (by kernel_rfl) ?_
      refine WC.seq (by kernel_rfl) ?_
      refine WC.reg [0, 1, 2, 3, 4, 5, 6, 7, 8, 9, 10] (by kernel_rfl) (by kernel_rfl) ?_
      refine WR.runk [0, 1, 2] [3, 4, 5, 6, 7, 8, 9, 10] [0, 1, 2, 8, 46, 48] (L' := [(0, .int .i64 a0), (1, .int .i64 a1), (2, .slice A2 l2.length c2), (8, .int .i64 x8_l1), (46, .slice A2 l2.length c2), (48, .int .i64 (wi (Int.tdiv x8_l1 64)))]) (w' := w) (by kernel_rfl) ?_
      obtain ⟨v5, e6, H⟩ := bind_ex H
      refine WR.st (St.ofP (PSt.idx (k := .i64) (.tmp 46) (.tmp 48) (by kernel_rfl) (by kernel_rfl) E32 (by kernel_rfl) (by kernel_rfl) (rdS.up R2 hS.sub0) e6 ?_))
      refine WR.runk [] [4, 5, 6, 7, 8, 9, 10] [0, 1, 2, 8, 49] (L' := [(0, .int .i64 a0), (1, .int .i64 a1), (2, .slice A2 l2.length c2), (8, .int .i64 x8_l1), (49, .pointer (some (adr A2 (wi (Int.tdiv x8_l1 64)).toNat 1)))]) (w' := w) (by kernel_rfl) ?_
      refine WR.st (St.ofR (RSt.loadInt (t := 22) (.tmp 49) (by kernel_rfl) (by kernel_rfl) (by kernel_rfl) (by kernel_rfl) (rdS.up R2 hS.sub0) e6 ?_))
      refine WR.runk [5, 6, 7] [8, 9, 10] [0, 1, 2, 8, 50, 53] (L' := [(0, .int .i64 a0), (1, .int .i64 a1), (2, .slice A2 l2.length c2), (8, .int .i64 x8_l1), (50, .int .u64 v5), (53, .int .u64 (IntKind.wrap .u64 (Int.tmod x8_l1 64)))]) (w' := w) (by kernel_rfl) ?_
      refine WR.st (St.ofP (PSt.shift (k := .u64) (k2 := .u64) (t := 22) (t2 := 33) (a := v5) (b := (IntKind.wrap .u64 (Int.tmod x8_l1 64))) .shr (by decide) (.tmp 50) (.tmp 53) (by kernel_rfl) (by kernel_rfl) (by kernel_rfl) (by kernel_rfl) (wrap_u64_nonneg _) ?_))
      refine WR.runk [9, 10] [] [0, 1, 2, 8, 56] (L' := [(0, .int .i64 a0), (1, .int .i64 a1), (2, .slice A2 l2.length c2), (8, .int .i64 x8_l1), (56, .bool ((iand .u64 (ishr .u64 v5 (IntKind.wrap .u64 (Int.tmod x8_l1 64))) 1) == 1))]) (w' := w) (by kernel_rfl) ?_
      refine WR.nil ?_
      refine At.go ?_
      refine WC.cond (by kernel_rfl) ((iand .u64 (ishr .u64 v5 (IntKind.wrap .u64 (Int.tmod x8_l1 64))) 1) == 1) (by kernel_rfl) (by kernel_rfl) (fun hb7 => ?_) (fun hb7 => ?_)
      · replace H := ite_t H hb7
        refine WC.seq (by kernel_rfl) ?_
        refine WC.reg [0, 1] (by kernel_rfl) (by kernel_rfl) ?_
        refine WR.runk [0, 1] [] [6, 7] (L' := [(6, .slice none 0 0), (7, .bool false)]) (w' := w) (by kernel_rfl) ?_
        refine WR.nil ?_
        refine At.go ?_
        refine WC.ret (by kernel_rfl) ?_
        refine At.blockRet ?_
        refine At.thenRet ?_
        refine At.thenRet ?_
        obtain rfl := Option.some.inj H
        have hS := hS.addNil (α := Int) 22 (r0 (.int .u64)) 1
        have hS : Sat w (rf w0) [osl 22 (r0 (.int .u64)) 1 none 0 ([] : List Int)] := hS.sel [0] (by kernel_rfl)
        refine At.weaken [6, 7] (L' := [(6, .slice none 0 0), (7, .bool false)]) (by kernel_rfl) ?_
        exact hn0 (([] : List Int), false) none 0 _ rfl hS
      · replace H := ite_f H hb7
        refine WC.skip (by kernel_rfl) ?_
        refine At.blockNormal ?_
        refine At.go ?_
        refine WC.reg [0, 1, 2] (by kernel_rfl) (by kernel_rfl) ?_
        refine WR.runk [0, 1, 2] [] [0, 1, 2, 8] (L' := [(0, .int .i64 a0), (1, .int .i64 a1), (2, .slice A2 l2.length c2), (8, .int .i64 (wi (x8_l1 + 1)))]) (w' := w) (by kernel_rfl) ?_
        refine WR.nil ?_
        have hS : Sat w (rf w0) [] := hS.sel [] (by kernel_rfl)
        refine At.again ?_
        refine WL.weaken [0, 1, 2, 8] (L' := [(0, .int .i64 a0), (1, .int .i64 a1), (2, .slice A2 l2.length c2), (8, .int .i64 (wi (x8_l1 + 1)))]) (by kernel_rfl) ?_
        exact ih (wi (x8_l1 + 1)) _ hS H
    · replace H := ite_f H hb4
      refine WC.exit (by kernel_rfl) ?_
      refine At.thenExit ?_
      refine At.thenExit ?_
      obtain rfl := Option.some.inj H
      have hS : Sat w (rf w0) [] := hS.sel [] (by kernel_rfl)
      refine At.weaken [0, 1, 2] (L' := [(0, .int .i64 a0), (1, .int .i64 a1), (2, .slice A2 l2.length c2)]) (by kernel_rfl) ?_
      exact hn1 () _ rfl hS
theorem colophonref01_List.l3_ok {Q} (w0 : World) (a0 : Int) (a1 : Int) (A2 : Option Addr) (c2 : Nat) (l2 : List Int) (A9_l2 : Option Addr) (c9_l2 : Nat) (x9_l2 : List Int) (x10_l2 : Int) (R2 : rdS (r0 (.int .u64)) 1 (hp w0) A2 c2 l2) (out : Int) (hn0 : ∀ (w : World), Sat w (rf w0) [osl 22 (r0 (.int .u64)) 1 A9_l2 c9_l2 x9_l2] → At Q (.exit 4) 91 [(0, .int .i64 a0), (1, .int .i64 a1), (2, .slice A2 l2.length c2), (9, .slice A9_l2 x9_l2.length c9_l2), (10, .int .i64 x10_l2), (11, .int .u64 out)] w) :
    ∀ (k : Nat) (x11_l3 : Int) (x12_l3 : Int) (w : World), Sat w (rf w0) [osl 22 (r0 (.int .u64)) 1 A9_l2 c9_l2 x9_l2] → colophonref01_List.l3 a0 l2 x10_l2 k x11_l3 x12_l3 = some out → WL Try.prog (cbody (cbody (cr (cl (cr (cbody (cl (cr (cbody (cbody (cr (cl (cr (cr (cr (cr C17)))))))))))))))) Q 91 [(0, .int .i64 a0), (1, .int .i64 a1), (2, .slice A2 l2.length c2), (9, .slice A9_l2 x9_l2.length c9_l2), (10, .int .i64 x10_l2), (11, .int .u64 x11_l3), (12, .int .i64 x12_l3)] w := by
  intro k
  induction k with
  | zero => intro x11_l3 x12_l3 w hS H; exact absurd (show none = some out from H) (by simp)
  | succ k ih =>
    intro x11_l3 x12_l3 w hS H
    unfold colophonref01_List.l3 at H
    refine WL.round ?_
    refine WC.seq (by kernel_rfl) ?_
    refine WC.seq (by kernel_rfl) ?_
    refine WC.reg [0, 1] (by kernel_rfl) (by kernel_rfl) ?_
    refine WR.runk [0, 1] [] [0, 1, 2, 9, 10, 11, 12, 65] (L' := [(0, .int .i64 a0), (1, .int .i64 a1), (2, .slice A2 l2.length c2), (9, .slice A9_l2 x9_l2.length c9_l2), (10, .int .i64 x10_l2), (11, .int .u64 x11_l3), (12, .int .i64 x12_l3), (65, .bool (decide (x12_l3 ≥ 0)))]) (w' := w) (by kernel_rfl) ?_
    refine WR.nil ?_
    refine At.go ?_
    refine WC.cond (by kernel_rfl) (decide (x12_l3 ≥ 0)) (by kernel_rfl) (by kernel_rfl) (fun hb19 => ?_) (fun hb19 => ?_)
    · replace H := ite_t H hb19
      refine WC.skip (by kernel_rfl) ?_
      refine At.go ?_
      refine WC.seq (by kernel_rfl) ?_
      refine WC.block (by kernel_rfl) ?_
      refine WC.seq (by kernel_rfl) ?_
      refine WC.reg [0, 1, 2, 3, 4, 5] (by kernel_rfl) (by kernel_rfl) ?_
      refine WR.runk [0, 1, 2, 3, 4, 5] [] [0, 1, 2, 9, 10, 11, 12, 13] (L' := [(0, .int .i64 a0), (1, .int .i64 a1), (2, .slice A2 l2.length c2), (9, .slice A9_l2 x9_l2.length c9_l2), (10, .int .i64 x10_l2), (11, .int .u64 x11_l3), (12, .int .i64 x12_l3), (13, .int .i64 (wi ((wi (x10_l2 * a0)) + x12_l3)))]) (w' := w) (by kernel_rfl) ?_
      refine WR.nil ?_
      refine At.go ?_
      refine WC.reg [0, 1, 2, 3, 4, 5, 6, 7, 8, 9, 10, 11, 12, 13] (by kernel_rfl) (by kernel_rfl) ?_
      refine WR.runk [0, 1, 2, 3, 4] [5, 6, 7, 8, 9, 10, 11, 12, 13] [0, 1, 2, 9, 10, 11, 12, 13, 74, 75, 77] (L' := [(0, .int .i64 a0), (1, .int .i64 a1), (2, .slice A2 l2.length c2), (9, .slice A9_l2 x9_l2.length c9_l2), (10, .int .i64 x10_l2), (11, .int .u64 x11_l3), (12, .int .i64 x12_l3), (13, .int .i64 (wi ((wi (x10_l2 * a0)) + x12_l3))), (74, .int .u64 (IntKind.wrap .u64 (2 * x11_l3))), (75, .slice A2 l2.length c2), (77, .int .i64 (wi (Int.tdiv (wi ((wi (x10_l2 * a0)) + x12_l3)) 64)))]) (w' := w) (by kernel_rfl) ?_
      obtain ⟨v20, e21, H⟩ := bind_ex H
      refine WR.st (St.ofP (PSt.idx (k := .i64) (.tmp 75) (.tmp 77) (by kernel_rfl) (by kernel_rfl) E32 (by kernel_rfl) (by kernel_rfl) (rdS.up R2 hS.sub0) e21 ?_))
      refine WR.runk [] [6, 7, 8, 9, 10, 11, 12, 13] [0, 1, 2, 9, 10, 11, 12, 13, 74, 78] (L' := [(0, .int .i64 a0), (1, .int .i64 a1), (2, .slice A2 l2.length c2), (9, .slice A9_l2 x9_l2.length c9_l2), (10, .int .i64 x10_l2), (11, .int .u64 x11_l3), (12, .int .i64 x12_l3), (13, .int .i64 (wi ((wi (x10_l2 * a0)) + x12_l3))), (74, .int .u64 (IntKind.wrap .u64 (2 * x11_l3))), (78, .pointer (some (adr A2 (wi (Int.tdiv (wi ((wi (x10_l2 * a0)) + x12_l3)) 64)).toNat 1)))]) (w' := w) (by kernel_rfl) ?_
      refine WR.st (St.ofR (RSt.loadInt (t := 22) (.tmp 78) (by kernel_rfl) (by kernel_rfl) (by kernel_rfl) (by kernel_rfl) (rdS.up R2 hS.sub0) e21 ?_))
      refine WR.runk [7, 8, 9] [10, 11, 12, 13] [0, 1, 2, 9, 10, 11, 12, 74, 79, 82] (L' := [(0, .int .i64 a0), (1, .int .i64 a1), (2, .slice A2 l2.length c2), (9, .slice A9_l2 x9_l2.length c9_l2), (10, .int .i64 x10_l2), (11, .int .u64 x11_l3), (12, .int .i64 x12_l3), (74, .int .u64 (IntKind.wrap .u64 (2 * x11_l3))), (79, .int .u64 v20), (82, .int .u64 (IntKind.wrap .u64 (Int.tmod (wi ((wi (x10_l2 * a0)) + x12_l3)) 64)))]) (w' := w) (by kernel_rfl) ?_
      refine WR.st (St.ofP (PSt.shift (k := .u64) (k2 := .u64) (t := 22) (t2 := 33) (a := v20) (b := (IntKind.wrap .u64 (Int.tmod (wi ((wi (x10_l2 * a0)) + x12_l3)) 64))) .shr (by decide) (.tmp 79) (.tmp 82) (by kernel_rfl) (by kernel_rfl) (by kernel_rfl) (by kernel_rfl) (wrap_u64_nonneg _) ?_))
      refine WR.runk [11, 12, 13] [] [0, 1, 2, 9, 10, 11, 12] (L' := [(0, .int .i64 a0), (1, .int .i64 a1), (2, .slice A2 l2.length c2), (9, .slice A9_l2 x9_l2.length c9_l2), (10, .int .i64 x10_l2), (11, .int .u64 (IntKind.wrap .u64 ((IntKind.wrap .u64 (2 * x11_l3)) + (iand .u64 (ishr .u64 v20 (IntKind.wrap .u64 (Int.tmod (wi ((wi (x10_l2 * a0)) + x12_l3)) 64))) 1)))), (12, .int .i64 x12_l3)]) (w' := w) (by kernel_rfl) ?_
      refine WR.nil ?_
      refine At.blockNormal ?_
      refine At.go ?_
      refine WC.reg [0, 1, 2] (by kernel_rfl) (by kernel_rfl) ?_
      refine WR.runk [0, 1, 2] [] [0, 1, 2, 9, 10, 11, 12] (L' := [(0, .int .i64 a0), (1, .int .i64 a1), (2, .slice A2 l2.length c2), (9, .slice A9_l2 x9_l2.length c9_l2), (10, .int .i64 x10_l2), (11, .int .u64 (IntKind.wrap .u64 ((IntKind.wrap .u64 (2 * x11_l3)) + (iand .u64 (ishr .u64 v20 (IntKind.wrap .u64 (Int.tmod (wi ((wi (x10_l2 * a0)) + x12_l3)) 64))) 1)))), (12, .int .i64 (wi (x12_l3 - 1)))]) (w' := w) (by kernel_rfl) ?_
      refine WR.nil ?_
      have hS : Sat w (rf w0) [osl 22 (r0 (.int .u64)) 1 A9_l2 c9_l2 x9_l2] := hS.sel [0] (by kernel_rfl)
      refine At.again ?_
      refine WL.weaken [0, 1, 2, 9, 10, 11, 12] (L' := [(0, .int .i64 a0), (1, .int .i64 a1), (2, .slice A2 l2.length c2), (9, .slice A9_l2 x9_l2.length c9_l2), (10, .int .i64 x10_l2), (11, .int .u64 (IntKind.wrap .u64 ((IntKind.wrap .u64 (2 * x11_l3)) + (iand .u64 (ishr .u64 v20 (IntKind.wrap .u64 (Int.tmod (wi ((wi (x10_l2 * a0)) + x12_l3)) 64))) 1)))), (12, .int .i64 (wi (x12_l3 - 1)))]) (by kernel_rfl) ?_
      exact ih (IntKind.wrap .u64 ((IntKind.wrap .u64 (2 * x11_l3)) + (iand .u64 (ishr .u64 v20 (IntKind.wrap .u64 (Int.tmod (wi ((wi (x10_l2 * a0)) + x12_l3)) 64))) 1))) (wi (x12_l3 - 1)) _ hS H
    · replace H := ite_f H hb19
      refine WC.exit (by kernel_rfl) ?_
      refine At.thenExit ?_
      refine At.thenExit ?_
      obtain rfl := Option.some.inj H
      have hS : Sat w (rf w0) [osl 22 (r0 (.int .u64)) 1 A9_l2 c9_l2 x9_l2] := hS.sel [0] (by kernel_rfl)
      refine At.weaken [0, 1, 2, 9, 10, 11] (L' := [(0, .int .i64 a0), (1, .int .i64 a1), (2, .slice A2 l2.length c2), (9, .slice A9_l2 x9_l2.length c9_l2), (10, .int .i64 x10_l2), (11, .int .u64 x11_l3)]) (by kernel_rfl) ?_
      exact hn0 _ hS
theorem colophonref01_List.l2_ok {Q} (w0 : World) (a0 : Int) (a1 : Int) (A2 : Option Addr) (c2 : Nat) (l2 : List Int) (R2 : rdS (r0 (.int .u64)) 1 (hp w0) A2 c2 l2) (out : (List Int)) (hn0 : ∀ (A9_q : Option Addr) (c9_q : Nat) (w : World), Sat w (rf w0) [osl 22 (r0 (.int .u64)) 1 A9_q c9_q out] → At Q (.exit 2) 91 [(9, .slice A9_q out.length c9_q)] w) :
    ∀ (k : Nat) (x9_l2 : List Int) (x10_l2 : Int) (A9_l2 : Option Addr) (c9_l2 : Nat) (w : World), Sat w (rf w0) [osl 22 (r0 (.int .u64)) 1 A9_l2 c9_l2 x9_l2] → colophonref01_List.l2 a0 a1 l2 k x9_l2 x10_l2 = some out → WL Try.prog (cbody (cbody (cr (cl (cr (cr (cr (cr C17)))))))) Q 91 [(0, .int .i64 a0), (1, .int .i64 a1), (2, .slice A2 l2.length c2), (9, .slice A9_l2 x9_l2.length c9_l2), (10, .int .i64 x10_l2)] w := by
  intro k
  induction k with
  | zero => intro x9_l2 x10_l2 A9_l2 c9_l2 w hS H; exact absurd (show none = some out from H) (by simp)
  | succ k ih =>
    intro x9_l2 x10_l2 A9_l2 c9_l2 w hS H
    unfold colophonref01_List.l2 at H
    refine WL.round ?_
    refine WC.seq (by kernel_rfl) ?_
    refine WC.seq (by kernel_rfl) ?_
    refine WC.reg [0, 1, 2] (by kernel_rfl) (by kernel_rfl) ?_
    refine WR.runk [0, 1, 2] [] [0, 1, 2, 9, 10, 59] (L' := [(0, .int .i64 a0), (1, .int .i64 a1), (2, .slice A2 l2.length c2), (9, .slice A9_l2 x9_l2.length c9_l2), (10, .int .i64 x10_l2), (59, .bool (decide (x10_l2 < a1)))]) (w' := w) (by kernel_rfl) ?_
    refine WR.nil ?_
    refine At.go ?_
    refine WC.cond (by kernel_rfl) (decide (x10_l2 < a1)) (by kernel_rfl) (by kernel_rfl) (fun hb18 => ?_) (fun hb18 => ?_)
    · replace H := ite_t H hb18
      refine WC.skip (by kernel_rfl) ?_
      refine At.go ?_
      refine WC.seq (by kernel_rfl) ?_
      refine WC.block (by kernel_rfl) ?_
      refine WC.seq (by kernel_rfl) ?_
      refine WC.reg [0] (by kernel_rfl) (by kernel_rfl) ?_
      refine WR.runk [0] [] [0, 1, 2, 9, 10, 11] (L' := [(0, .int .i64 a0), (1, .int .i64 a1), (2, .slice A2 l2.length c2), (9, .slice A9_l2 x9_l2.length c9_l2), (10, .int .i64 x10_l2), (11, .int .u64 0)]) (w' := w) (by kernel_rfl) ?_
      refine WR.nil ?_
      refine At.go ?_
      refine WC.seq (by kernel_rfl) ?_
      refine WC.seq (by kernel_rfl) ?_
      refine WC.reg [0, 1, 2] (by kernel_rfl) (by kernel_rfl) ?_
      refine WR.runk [0, 1, 2] [] [0, 1, 2, 9, 10, 11, 12] (L' := [(0, .int .i64 a0), (1, .int .i64 a1), (2, .slice A2 l2.length c2), (9, .slice A9_l2 x9_l2.length c9_l2), (10, .int .i64 x10_l2), (11, .int .u64 0), (12, .int .i64 (wi (a0 - 1)))]) (w' := w) (by kernel_rfl) ?_
      refine WR.nil ?_
      refine At.go ?_
      refine WC.block (by kernel_rfl) ?_
      have hS : Sat w (rf w0) [osl 22 (r0 (.int .u64)) 1 A9_l2 c9_l2 x9_l2] := hS.sel [0] (by kernel_rfl)
      obtain ⟨o22, e23, H⟩ := bind_ex H
      refine WC.loop (by kernel_rfl) ?_
      refine WL.weaken [0, 1, 2, 9, 10, 11, 12] (L' := [(0, .int .i64 a0), (1, .int .i64 a1), (2, .slice A2 l2.length c2), (9, .slice A9_l2 x9_l2.length c9_l2), (10, .int .i64 x10_l2), (11, .int .u64 0), (12, .int .i64 (wi (a0 - 1)))]) (by kernel_rfl) ?_
      refine colophonref01_List.l3_ok w0 a0 a1 A2 c2 l2 A9_l2 c9_l2 x9_l2 x10_l2 R2 o22 (fun w25 hS => ?_) FU 0 (wi (a0 - 1)) _ hS e23
      refine At.hit ?_
      refine At.go ?_
      refine WC.reg [0, 1, 2, 3, 4] (by kernel_rfl) (by kernel_rfl) ?_
      refine WR.runk [0, 1] [2, 3, 4] [0, 1, 2, 9, 10, 86, 87] (L' := [(0, .int .i64 a0), (1, .int .i64 a1), (2, .slice A2 l2.length c2), (9, .slice A9_l2 x9_l2.length c9_l2), (10, .int .i64 x10_l2), (86, .slice A9_l2 x9_l2.length c9_l2), (87, .int .u64 o22)]) (w' := w25) (by kernel_rfl) ?_
      refine WR.st (St.box hS (by kernel_rfl) (.cells #[.int .u64 o22] 22) (fun b27 => .slice (some ⟨b27, 0, none⟩) 1 1) (fun _ => by kernel_rfl) (fun b27 w28 hS => ?_))
      refine WR.runk [] [3, 4] [0, 1, 2, 9, 10, 86, 88] (L' := [(0, .int .i64 a0), (1, .int .i64 a1), (2, .slice A2 l2.length c2), (9, .slice A9_l2 x9_l2.length c9_l2), (10, .int .i64 x10_l2), (86, .slice A9_l2 x9_l2.length c9_l2), (88, .slice (some ⟨b27, 0, none⟩) 1 1)]) (w' := w28) (by kernel_rfl) ?_
      have hS : Sat w28 (rf w0) [osl 22 (r0 (.int .u64)) 1 A9_l2 c9_l2 x9_l2, pts b27 (.cells #[.int .u64 o22] 22 (0, 0))] := hS.sel [1, 0] (by kernel_rfl)
      obtain ⟨y30, e29, H⟩ := bind_ex H
      refine WR.st (St.append' (.tmp 86) (.tmp 88) (by kernel_rfl) (by kernel_rfl) E32 (r0_one _) hS (by kernel_rfl) (by kernel_rfl) (Sat.ptsAt 1 (r0 (.int .u64)) 1 ([o22] : List Int) hS rfl rfl (rdL.cons1 rfl (rdL.nil _ _))) 17592186044416 (by kernel_rfl) (by kernel_rfl) e29 (fun A31 c32 w33 hS => ?_))
      refine WR.runk [4] [] [0, 1, 2, 9, 10] (L' := [(0, .int .i64 a0), (1, .int .i64 a1), (2, .slice A2 l2.length c2), (9, .slice A31 y30.length c32), (10, .int .i64 x10_l2)]) (w' := w33) (by kernel_rfl) ?_
      refine WR.nil ?_
      refine At.blockNormal ?_
      refine At.go ?_
      refine WC.reg [0, 1, 2] (by kernel_rfl) (by kernel_rfl) ?_
      refine WR.runk [0, 1, 2] [] [0, 1, 2, 9, 10] (L' := [(0, .int .i64 a0), (1, .int .i64 a1), (2, .slice A2 l2.length c2), (9, .slice A31 y30.length c32), (10, .int .i64 (wi (x10_l2 + 1)))]) (w' := w33) (by kernel_rfl) ?_
      refine WR.nil ?_
      have hS : Sat w33 (rf w0) [osl 22 (r0 (.int .u64)) 1 A31 c32 y30] := hS.sel [0] (by kernel_rfl)
      refine At.again ?_
      refine WL.weaken [0, 1, 2, 9, 10] (L' := [(0, .int .i64 a0), (1, .int .i64 a1), (2, .slice A2 l2.length c2), (9, .slice A31 y30.length c32), (10, .int .i64 (wi (x10_l2 + 1)))]) (by kernel_rfl) ?_
      exact ih y30 (wi (x10_l2 + 1)) A31 c32 _ hS H
    · replace H := ite_f H hb18
      refine WC.exit (by kernel_rfl) ?_
      refine At.thenExit ?_
      refine At.thenExit ?_
      obtain rfl := Option.some.inj H
      have hS : Sat w (rf w0) [osl 22 (r0 (.int .u64)) 1 A9_l2 c9_l2 x9_l2] := hS.sel [0] (by kernel_rfl)
      refine At.weaken [9] (L' := [(9, .slice A9_l2 x9_l2.length c9_l2)]) (by kernel_rfl) ?_
      exact hn0 A9_l2 c9_l2 _ hS
theorem colophonref01_List.l4_ok {Q} (w0 : World) (a0 : Int) (a1 : Int) (A2 : Option Addr) (c2 : Nat) (l2 : List Int) (R2 : rdS (r0 (.int .u64)) 1 (hp w0) A2 c2 l2) (out : Sum ((List Int) × Bool) Unit) (hn0 : ∀ (o0 : (List Int) × Bool) (A6_q : Option Addr) (c6_q : Nat) (w : World), out = (.inl o0) → Sat w (rf w0) [osl 22 (r0 (.int .u64)) 1 A6_q c6_q o0.1] → At Q .ret 91 [(6, .slice A6_q o0.1.length c6_q), (7, .bool o0.2)] w) (hn1 : ∀ (o1 : Unit) (w : World), out = (.inr o1) → Sat w (rf w0) [] → At Q (.exit 0) 91 [(0, .int .i64 a0), (1, .int .i64 a1), (2, .slice A2 l2.length c2)] w) :
    ∀ (k : Nat) (x8_l4 : Int) (w : World), Sat w (rf w0) [] → colophonref01_List.l4 l2 k x8_l4 = some out → WL Try.prog (cbody (cbody (cr (cl (cr (cr C17)))))) Q 91 [(0, .int .i64 a0), (1, .int .i64 a1), (2, .slice A2 l2.length c2), (8, .int .i64 x8_l4)] w := by
  intro k
  induction k with
  | zero => intro x8_l4 w hS H; exact absurd (show none = some out from H) (by simp)
  | succ k ih =>
    intro x8_l4 w hS H
    unfold colophonref01_List.l4 at H
    refine WL.round ?_
    refine WC.seq (by kernel_rfl) ?_
    refine WC.seq (by kernel_rfl) ?_
    refine WC.reg [0, 1, 2, 3, 4] (by kernel_rfl) (by kernel_rfl) ?_
    refine WR.runk [0, 1, 2, 3, 4] [] [0, 1, 2, 8, 43] (L' := [(0, .int .i64 a0), (1, .int .i64 a1), (2, .slice A2 l2.length c2), (8, .int .i64 x8_l4), (43, .bool (decide (x8_l4 < wi (64 * (l2.length : Int)))))]) (w' := w) (by kernel_rfl) ?_
    refine WR.nil ?_
    refine At.go ?_
    refine WC.cond (by kernel_rfl) (decide (x8_l4 < wi (64 * (l2.length : Int)))) (by kernel_rfl) (by kernel_rfl) (fun hb39 => ?_) (fun hb39 => ?_)
    · replace H := ite_t H hb39
      refine WC.skip (by kernel_rfl) ?_
      refine At.go ?_
      refine WC.seq (by kernel_rfl) ?_
      refine WC.block (by kernel_rfl) ?_
      refine WC.seq (by kernel_rfl) ?_
      refine WC.reg [0, 1, 2, 3, 4, 5, 6, 7, 8, 9, 10] (by kernel_rfl) (by kernel_rfl) ?_
      refine WR.runk [0, 1, 2] [3, 4, 5, 6, 7, 8, 9, 10] [0, 1, 2, 8, 46, 48] (L' := [(0, .int .i64 a0), (1, .int .i64 a1), (2, .slice A2 l2.length c2), (8, .int .i64 x8_l4), (46, .slice A2 l2.length c2), (48, .int .i64 (wi (Int.tdiv x8_l4 64)))]) (w' := w) (by kernel_rfl) ?_
      obtain ⟨v40, e41, H⟩ := bind_ex H
      refine WR.st (St.ofP (PSt.idx (k := .i64) (.tmp 46) (.tmp 48) (by kernel_rfl) (by kernel_rfl) E32 (by kernel_rfl) (by kernel_rfl) (rdS.up R2 hS.sub0) e41 ?_))
      refine WR.runk [] [4, 5, 6, 7, 8, 9, 10] [0, 1, 2, 8, 49] (L' := [(0, .int .i64 a0), (1, .int .i64 a1), (2, .slice A2 l2.length c2), (8, .int .i64 x8_l4), (49, .pointer (some (adr A2 (wi (Int.tdiv x8_l4 64)).toNat 1)))]) (w' := w) (by kernel_rfl) ?_
      refine WR.st (St.ofR (RSt.loadInt (t := 22) (.tmp 49) (by kernel_rfl) (by kernel_rfl) (by kernel_rfl) (by kernel_rfl) (rdS.up R2 hS.sub0) e41 ?_))
      refine WR.runk [5, 6, 7] [8, 9, 10] [0, 1, 2, 8, 50, 53] (L' := [(0, .int .i64 a0), (1, .int .i64 a1), (2, .slice A2 l2.length c2), (8, .int .i64 x8_l4), (50, .int .u64 v40), (53, .int .u64 (IntKind.wrap .u64 (Int.tmod x8_l4 64)))]) (w' := w) (by kernel_rfl) ?_
      refine WR.st (St.ofP (PSt.shift (k := .u64) (k2 := .u64) (t := 22) (t2 := 33) (a := v40) (b := (IntKind.wrap .u64 (Int.tmod x8_l4 64))) .shr (by decide) (.tmp 50) (.tmp 53) (by kernel_rfl) (by kernel_rfl) (by kernel_rfl) (by kernel_rfl) (wrap_u64_nonneg _) ?_))
      refine WR.runk [9, 10] [] [0, 1, 2, 8, 56] (L' := [(0, .int .i64 a0), (1, .int .i64 a1), (2, .slice A2 l2.length c2), (8, .int .i64 x8_l4), (56, .bool ((iand .u64 (ishr .u64 v40 (IntKind.wrap .u64 (Int.tmod x8_l4 64))) 1) == 1))]) (w' := w) (by kernel_rfl) ?_
      refine WR.nil ?_
      refine At.go ?_
      refine WC.cond (by kernel_rfl) ((iand .u64 (ishr .u64 v40 (IntKind.wrap .u64 (Int.tmod x8_l4 64))) 1) == 1) (by kernel_rfl) (by kernel_rfl) (fun hb42 => ?_) (fun hb42 => ?_)
      · replace H := ite_t H hb42
        refine WC.seq (by kernel_rfl) ?_
        refine WC.reg [0, 1] (by kernel_rfl) (by kernel_rfl) ?_
        refine WR.runk [0, 1] [] [6, 7] (L' := [(6, .slice none 0 0), (7, .bool false)]) (w' := w) (by kernel_rfl) ?_
        refine WR.nil ?_
        refine At.go ?_
        refine WC.ret (by kernel_rfl) ?_
        refine At.blockRet ?_
        refine At.thenRet ?_
        refine At.thenRet ?_
        obtain rfl := Option.some.inj H
        have hS := hS.addNil (α := Int) 22 (r0 (.int .u64)) 1
        have hS : Sat w (rf w0) [osl 22 (r0 (.int .u64)) 1 none 0 ([] : List Int)] := hS.sel [0] (by kernel_rfl)
        refine At.weaken [6, 7] (L' := [(6, .slice none 0 0), (7, .bool false)]) (by kernel_rfl) ?_
        exact hn0 (([] : List Int), false) none 0 _ rfl hS
      · replace H := ite_f H hb42
        refine WC.skip (by kernel_rfl) ?_
        refine At.blockNormal ?_
        refine At.go ?_
        refine WC.reg [0, 1, 2] (by kernel_rfl) (by kernel_rfl) ?_
        refine WR.runk [0, 1, 2] [] [0, 1, 2, 8] (L' := [(0, .int .i64 a0), (1, .int .i64 a1), (2, .slice A2 l2.length c2), (8, .int .i64 (wi (x8_l4 + 1)))]) (w' := w) (by kernel_rfl) ?_
        refine WR.nil ?_
        have hS : Sat w (rf w0) [] := hS.sel [] (by kernel_rfl)
        refine At.again ?_
        refine WL.weaken [0, 1, 2, 8] (L' := [(0, .int .i64 a0), (1, .int .i64 a1), (2, .slice A2 l2.length c2), (8, .int .i64 (wi (x8_l4 + 1)))]) (by kernel_rfl) ?_
        exact ih (wi (x8_l4 + 1)) _ hS H
    · replace H := ite_f H hb39
      refine WC.exit (by kernel_rfl) ?_
      refine At.thenExit ?_
      refine At.thenExit ?_
      obtain rfl := Option.some.inj H
      have hS : Sat w (rf w0) [] := hS.sel [] (by kernel_rfl)
      refine At.weaken [0, 1, 2] (L' := [(0, .int .i64 a0), (1, .int .i64 a1), (2, .slice A2 l2.length c2)]) (by kernel_rfl) ?_
      exact hn1 () _ rfl hS
theorem colophonref01_List.l6_ok {Q} (w0 : World) (a0 : Int) (a1 : Int) (A2 : Option Addr) (c2 : Nat) (l2 : List Int) (A9_l5 : Option Addr) (c9_l5 : Nat) (x9_l5 : List Int) (x10_l5 : Int) (R2 : rdS (r0 (.int .u64)) 1 (hp w0) A2 c2 l2) (out : Int) (hn0 : ∀ (w : World), Sat w (rf w0) [osl 22 (r0 (.int .u64)) 1 A9_l5 c9_l5 x9_l5] → At Q (.exit 4) 91 [(0, .int .i64 a0), (1, .int .i64 a1), (2, .slice A2 l2.length c2), (9, .slice A9_l5 x9_l5.length c9_l5), (10, .int .i64 x10_l5), (11, .int .u64 out)] w) :
    ∀ (k : Nat) (x11_l6 : Int) (x12_l6 : Int) (w : World), Sat w (rf w0) [osl 22 (r0 (.int .u64)) 1 A9_l5 c9_l5 x9_l5] → colophonref01_List.l6 a0 l2 x10_l5 k x11_l6 x12_l6 = some out → WL Try.prog (cbody (cbody (cr (cl (cr (cbody (cl (cr (cbody (cbody (cr (cl (cr (cr (cr (cr C17)))))))))))))))) Q 91 [(0, .int .i64 a0), (1, .int .i64 a1), (2, .slice A2 l2.length c2), (9, .slice A9_l5 x9_l5.length c9_l5), (10, .int .i64 x10_l5), (11, .int .u64 x11_l6), (12, .int .i64 x12_l6)] w := by
  intro k
  induction k with
  | zero => intro x11_l6 x12_l6 w hS H; exact absurd (show none = some out from H) (by simp)
  | succ k ih =>
    intro x11_l6 x12_l6 w hS H
    unfold colophonref01_List.l6 at H
    refine WL.round ?_
    refine WC.seq (by kernel_rfl) ?_
    refine WC.seq (by kernel_rfl) ?_
    refine WC.reg [0, 1] (by kernel_rfl) (by kernel_rfl) ?_
    refine WR.runk [0, 1] [] [0, 1, 2, 9, 10, 11, 12, 65] (L' := [(0, .int .i64 a0), (1, .int .i64 a1), (2, .slice A2 l2.length c2), (9, .slice A9_l5 x9_l5.length c9_l5), (10, .int .i64 x10_l5), (11, .int .u64 x11_l6), (12, .int .i64 x12_l6), (65, .bool (decide (x12_l6 ≥ 0)))]) (w' := w) (by kernel_rfl) ?_
    refine WR.nil ?_
    refine At.go ?_
    refine WC.cond (by kernel_rfl) (decide (x12_l6 ≥ 0)) (by kernel_rfl) (by kernel_rfl) (fun hb54 => ?_) (fun hb54 => ?_)
    · replace H := ite_t H hb54
      refine WC.skip (by kernel_rfl) ?_
      refine At.go ?_
      refine WC.seq (by kernel_rfl) ?_
      refine WC.block (by kernel_rfl) ?_
      refine WC.seq (by kernel_rfl) ?_
      refine WC.reg [0, 1, 2, 3, 4, 5] (by kernel_rfl) (by kernel_rfl) ?_
      refine WR.runk [0, 1, 2, 3, 4, 5] [] [0, 1, 2, 9, 10, 11, 12, 13] (L' := [(0, .int .i64 a0), (1, .int .i64 a1), (2, .slice A2 l2.length c2), (9, .slice A9_l5 x9_l5.length c9_l5), (10, .int .i64 x10_l5), (11, .int .u64 x11_l6), (12, .int .i64 x12_l6), (13, .int .i64 (wi ((wi (x10_l5 * a0)) + x12_l6)))]) (w' := w) (by kernel_rfl) ?_
      refine WR.nil ?_
      refine At.go ?_
      refine WC.reg [0, 1, 2, 3, 4, 5, 6, 7, 8, 9, 10, 11, 12, 13] (by kernel_rfl) (by kernel_rfl) ?_
      refine WR.runk [0, 1, 2, 3, 4] [5, 6, 7, 8, 9, 10, 11, 12, 13] [0, 1, 2, 9, 10, 11, 12, 13, 74, 75, 77] (L' := [(0, .int .i64 a0), (1, .int .i64 a1), (2, .slice A2 l2.length c2), (9, .slice A9_l5 x9_l5.length c9_l5), (10, .int .i64 x10_l5), (11, .int .u64 x11_l6), (12, .int .i64 x12_l6), (13, .int .i64 (wi ((wi (x10_l5 * a0)) + x12_l6))), (74, .int .u64 (IntKind.wrap .u64 (2 * x11_l6))), (75, .slice A2 l2.length c2), (77, .int .i64 (wi (Int.tdiv (wi ((wi (x10_l5 * a0)) + x12_l6)) 64)))]) (w' := w) (by kernel_rfl) ?_
      obtain ⟨v55, e56, H⟩ := bind_ex H
      refine WR.st (St.ofP (PSt.idx (k := .i64) (.tmp 75) (.tmp 77) (by kernel_rfl) (by kernel_rfl) E32 (by kernel_rfl) (by kernel_rfl) (rdS.up R2 hS.sub0) e56 ?_))
      refine WR.runk [] [6, 7, 8, 9, 10, 11, 12, 13] [0, 1, 2, 9, 10, 11, 12, 13, 74, 78] (L' := [(0, .int .i64 a0), (1, .int .i64 a1), (2, .slice A2 l2.length c2), (9, .slice A9_l5 x9_l5.length c9_l5), (10, .int .i64 x10_l5), (11, .int .u64 x11_l6), (12, .int .i64 x12_l6), (13, .int .i64 (wi ((wi (x10_l5 * a0)) + x12_l6))), (74, .int .u64 (IntKind.wrap .u64 (2 * x11_l6))), (78, .pointer (some (adr A2 (wi (Int.tdiv (wi ((wi (x10_l5 * a0)) + x12_l6)) 64)).toNat 1)))]) (w' := w) (by kernel_rfl) ?_
      refine WR.st (St.ofR (RSt.loadInt (t := 22) (.tmp 78) (by kernel_rfl) (by kernel_rfl) (by kernel_rfl) (by kernel_rfl) (rdS.up R2 hS.sub0) e56 ?_))
      refine WR.runk [7, 8, 9] [10, 11, 12, 13] [0, 1, 2, 9, 10, 11, 12, 74, 79, 82] (L' := [(0, .int .i64 a0), (1, .int .i64 a1), (2, .slice A2 l2.length c2), (9, .slice A9_l5 x9_l5.length c9_l5), (10, .int .i64 x10_l5), (11, .int .u64 x11_l6), (12, .int .i64 x12_l6), (74, .int .u64 (IntKind.wrap .u64 (2 * x11_l6))), (79, .int .u64 v55), (82, .int .u64 (IntKind.wrap .u64 (Int.tmod (wi ((wi (x10_l5 * a0)) + x12_l6)) 64)))]) (w' := w) (by kernel_rfl) ?_
      refine WR.st (St.ofP (PSt.shift (k := .u64) (k2 := .u64) (t := 22) (t2 := 33) (a := v55) (b := (IntKind.wrap .u64 (Int.tmod (wi ((wi (x10_l5 * a0)) + x12_l6)) 64))) .shr (by decide) (.tmp 79) (.tmp 82) (by kernel_rfl) (by kernel_rfl) (by kernel_rfl) (by kernel_rfl) (wrap_u64_nonneg _) ?_))
      refine WR.runk [11, 12, 13] [] [0, 1, 2, 9, 10, 11, 12] (L' := [(0, .int .i64 a0), (1, .int .i64 a1), (2, .slice A2 l2.length c2), (9, .slice A9_l5 x9_l5.length c9_l5), (10, .int .i64 x10_l5), (11, .int .u64 (IntKind.wrap .u64 ((IntKind.wrap .u64 (2 * x11_l6)) + (iand .u64 (ishr .u64 v55 (IntKind.wrap .u64 (Int.tmod (wi ((wi (x10_l5 * a0)) + x12_l6)) 64))) 1)))), (12, .int .i64 x12_l6)]) (w' := w) (by kernel_rfl) ?_
      refine WR.nil ?_
      refine At.blockNormal ?_
      refine At.go ?_
      refine WC.reg [0, 1, 2] (by kernel_rfl) (by kernel_rfl) ?_
      refine WR.runk [0, 1, 2] [] [0, 1, 2, 9, 10, 11, 12] (L' := [(0, .int .i64 a0), (1, .int .i64 a1), (2, .slice A2 l2.length c2), (9, .slice A9_l5 x9_l5.length c9_l5), (10, .int .i64 x10_l5), (11, .int .u64 (IntKind.wrap .u64 ((IntKind.wrap .u64 (2 * x11_l6)) + (iand .u64 (ishr .u64 v55 (IntKind.wrap .u64 (Int.tmod (wi ((wi (x10_l5 * a0)) + x12_l6)) 64))) 1)))), (12, .int .i64 (wi (x12_l6 - 1)))]) (w' := w) (by kernel_rfl) ?_
      refine WR.nil ?_
      have hS : Sat w (rf w0) [osl 22 (r0 (.int .u64)) 1 A9_l5 c9_l5 x9_l5] := hS.sel [0] (by kernel_rfl)
      refine At.again ?_
      refine WL.weaken [0, 1, 2, 9, 10, 11, 12] (L' := [(0, .int .i64 a0), (1, .int .i64 a1), (2, .slice A2 l2.length c2), (9, .slice A9_l5 x9_l5.length c9_l5), (10, .int .i64 x10_l5), (11, .int .u64 (IntKind.wrap .u64 ((IntKind.wrap .u64 (2 * x11_l6)) + (iand .u64 (ishr .u64 v55 (IntKind.wrap .u64 (Int.tmod (wi ((wi (x10_l5 * a0)) + x12_l6)) 64))) 1)))), (12, .int .i64 (wi (x12_l6 - 1)))]) (by kernel_rfl) ?_
      exact ih (IntKind.wrap .u64 ((IntKind.wrap .u64 (2 * x11_l6)) + (iand .u64 (ishr .u64 v55 (IntKind.wrap .u64 (Int.tmod (wi ((wi (x10_l5 * a0)) + x12_l6)) 64))) 1))) (wi (x12_l6 - 1)) _ hS H
    · replace H := ite_f H hb54
      refine WC.exit (by kernel_rfl) ?_
      refine At.thenExit ?_
      refine At.thenExit ?_
      obtain rfl := Option.some.inj H
      have hS : Sat w (rf w0) [osl 22 (r0 (.int .u64)) 1 A9_l5 c9_l5 x9_l5] := hS.sel [0] (by kernel_rfl)
      refine At.weaken [0, 1, 2, 9, 10, 11] (L' := [(0, .int .i64 a0), (1, .int .i64 a1), (2, .slice A2 l2.length c2), (9, .slice A9_l5 x9_l5.length c9_l5), (10, .int .i64 x10_l5), (11, .int .u64 x11_l6)]) (by kernel_rfl) ?_
      exact hn0 _ hS
theorem colophonref01_List.l5_ok {Q} (w0 : World) (a0 : Int) (a1 : Int) (A2 : Option Addr) (c2 : Nat) (l2 : List Int) (R2 : rdS (r0 (.int .u64)) 1 (hp w0) A2 c2 l2) (out : (List Int)) (hn0 : ∀ (A9_q : Option Addr) (c9_q : Nat) (w : World), Sat w (rf w0) [osl 22 (r0 (.int .u64)) 1 A9_q c9_q out] → At Q (.exit 2) 91 [(9, .slice A9_q out.length c9_q)] w) :
    ∀ (k : Nat) (x9_l5 : List Int) (x10_l5 : Int) (A9_l5 : Option Addr) (c9_l5 : Nat) (w : World), Sat w (rf w0) [osl 22 (r0 (.int .u64)) 1 A9_l5 c9_l5 x9_l5] → colophonref01_List.l5 a0 a1 l2 k x9_l5 x10_l5 = some out → WL Try.prog (cbody (cbody (cr (cl (cr (cr (cr (cr C17)))))))) Q 91 [(0, .int .i64 a0), (1, .int .i64 a1), (2, .slice A2 l2.length c2), (9, .slice A9_l5 x9_l5.length c9_l5), (10, .int .i64 x10_l5)] w := by
  intro k
  induction k with
  | zero => intro x9_l5 x10_l5 A9_l5 c9_l5 w hS H; exact absurd (show none = some out from H) (by simp)
  | succ k ih =>
    intro x9_l5 x10_l5 A9_l5 c9_l5 w hS H
    unfold colophonref01_List.l5 at H
    refine WL.round ?_
    refine WC.seq (by kernel_rfl) ?_
    refine WC.seq (by kernel_rfl) ?_
    refine WC.reg [0, 1, 2] (by kernel_rfl) (by kernel_rfl) ?_
    refine WR.runk [0, 1, 2] [] [0, 1, 2, 9, 10, 59] (L' := [(0, .int .i64 a0), (1, .int .i64 a1), (2, .slice A2 l2.length c2), (9, .slice A9_l5 x9_l5.length c9_l5), (10, .int .i64 x10_l5), (59, .bool (decide (x10_l5 < a1)))]) (w' := w) (by kernel_rfl) ?_
    refine WR.nil ?_
    refine At.go ?_
    refine WC.cond (by kernel_rfl) (decide (x10_l5 < a1)) (by kernel_rfl) (by kernel_rfl) (fun hb53 => ?_) (fun hb53 => ?_)
    · replace H := ite_t H hb53
      refine WC.skip (by kernel_rfl) ?_
      refine At.go ?_
      refine WC.seq (by kernel_rfl) ?_
      refine WC.block (by kernel_rfl) ?_
      refine WC.seq (by kernel_rfl) ?_
      refine WC.reg [0] (by kernel_rfl) (by kernel_rfl) ?_
      refine WR.runk [0] [] [0, 1, 2, 9, 10, 11] (L' := [(0, .int .i64 a0), (1, .int .i64 a1), (2, .slice A2 l2.length c2), (9, .slice A9_l5 x9_l5.length c9_l5), (10, .int .i64 x10_l5), (11, .int .u64 0)]) (w' := w) (by kernel_rfl) ?_
      refine WR.nil ?_
      refine At.go ?_
      refine WC.seq (by kernel_rfl) ?_
      refine WC.seq (by kernel_rfl) ?_
      refine WC.reg [0, 1, 2] (by kernel_rfl) (by kernel_rfl) ?_
      refine WR.runk [0, 1, 2] [] [0, 1, 2, 9, 10, 11, 12] (L' := [(0, .int .i64 a0), (1, .int .i64 a1), (2, .slice A2 l2.length c2), (9, .slice A9_l5 x9_l5.length c9_l5), (10, .int .i64 x10_l5), (11, .int .u64 0), (12, .int .i64 (wi (a0 - 1)))]) (w' := w) (by kernel_rfl) ?_
      refine WR.nil ?_
      refine At.go ?_
      refine WC.block (by kernel_rfl) ?_
      have hS : Sat w (rf w0) [osl 22 (r0 (.int .u64)) 1 A9_l5 c9_l5 x9_l5] := hS.sel [0] (by kernel_rfl)
      obtain ⟨o57, e58, H⟩ := bind_ex H
      refine WC.loop (by kernel_rfl) ?_
      refine WL.weaken [0, 1, 2, 9, 10, 11, 12] (L' := [(0, .int .i64 a0), (1, .int .i64 a1), (2, .slice A2 l2.length c2), (9, .slice A9_l5 x9_l5.length c9_l5), (10, .int .i64 x10_l5), (11, .int .u64 0), (12, .int .i64 (wi (a0 - 1)))]) (by kernel_rfl) ?_
      refine colophonref01_List.l6_ok w0 a0 a1 A2 c2 l2 A9_l5 c9_l5 x9_l5 x10_l5 R2 o57 (fun w60 hS => ?_) FU 0 (wi (a0 - 1)) _ hS e58
      refine At.hit ?_
      refine At.go ?_
      refine WC.reg [0, 1, 2, 3, 4] (by kernel_rfl) (by kernel_rfl) ?_
      refine WR.runk [0, 1] [2, 3, 4] [0, 1, 2, 9, 10, 86, 87] (L' := [(0, .int .i64 a0), (1, .int .i64 a1), (2, .slice A2 l2.length c2), (9, .slice A9_l5 x9_l5.length c9_l5), (10, .int .i64 x10_l5), (86, .slice A9_l5 x9_l5.length c9_l5), (87, .int .u64 o57)]) (w' := w60) (by kernel_rfl) ?_
      refine WR.st (St.box hS (by kernel_rfl) (.cells #[.int .u64 o57] 22) (fun b62 => .slice (some ⟨b62, 0, none⟩) 1 1) (fun _ => by kernel_rfl) (fun b62 w63 hS => ?_))
      refine WR.runk [] [3, 4] [0, 1, 2, 9, 10, 86, 88] (L' := [(0, .int .i64 a0), (1, .int .i64 a1), (2, .slice A2 l2.length c2), (9, .slice A9_l5 x9_l5.length c9_l5), (10, .int .i64 x10_l5), (86, .slice A9_l5 x9_l5.length c9_l5), (88, .slice (some ⟨b62, 0, none⟩) 1 1)]) (w' := w63) (by kernel_rfl) ?_
      have hS : Sat w63 (rf w0) [osl 22 (r0 (.int .u64)) 1 A9_l5 c9_l5 x9_l5, pts b62 (.cells #[.int .u64 o57] 22 (0, 0))] := hS.sel [1, 0] (by kernel_rfl)
      obtain ⟨y65, e64, H⟩ := bind_ex H
      refine WR.st (St.append' (.tmp 86) (.tmp 88) (by kernel_rfl) (by kernel_rfl) E32 (r0_one _) hS (by kernel_rfl) (by kernel_rfl) (Sat.ptsAt 1 (r0 (.int .u64)) 1 ([o57] : List Int) hS rfl rfl (rdL.cons1 rfl (rdL.nil _ _))) 17592186044416 (by kernel_rfl) (by kernel_rfl) e64 (fun A66 c67 w68 hS => ?_))
      refine WR.runk [4] [] [0, 1, 2, 9, 10] (L' := [(0, .int .i64 a0), (1, .int .i64 a1), (2, .slice A2 l2.length c2), (9, .slice A66 y65.length c67), (10, .int .i64 x10_l5)]) (w' := w68) (by kernel_rfl) ?_
      refine WR.nil ?_
      refine At.blockNormal ?_
      refine At.go ?_
      refine WC.reg [0, 1, 2] (by kernel_rfl) (by kernel_rfl) ?_
      refine WR.runk [0, 1, 2] [] [0, 1, 2, 9, 10] (L' := [(0, .int .i64 a0), (1, .int .i64 a1), (2, .slice A2 l2.length c2), (9, .slice A66 y65.length c67), (10, .int .i64 (wi (x10_l5 + 1)))]) (w' := w68) (by kernel_rfl) ?_
      refine WR.nil ?_
      have hS : Sat w68 (rf w0) [osl 22 (r0 (.int .u64)) 1 A66 c67 y65] := hS.sel [0] (by kernel_rfl)
      refine At.again ?_
      refine WL.weaken [0, 1, 2, 9, 10] (L' := [(0, .int .i64 a0), (1, .int .i64 a1), (2, .slice A2 l2.length c2), (9, .slice A66 y65.length c67), (10, .int .i64 (wi (x10_l5 + 1)))]) (by kernel_rfl) ?_
      exact ih y65 (wi (x10_l5 + 1)) A66 c67 _ hS H
    · replace H := ite_f H hb53
      refine WC.exit (by kernel_rfl) ?_
      refine At.thenExit ?_
      refine At.thenExit ?_
      obtain rfl := Option.some.inj H
      have hS : Sat w (rf w0) [osl 22 (r0 (.int .u64)) 1 A9_l5 c9_l5 x9_l5] := hS.sel [0] (by kernel_rfl)
      refine At.weaken [9] (L' := [(9, .slice A9_l5 x9_l5.length c9_l5)]) (by kernel_rfl) ?_
      exact hn0 A9_l5 c9_l5 _ hS
theorem colophonref01_List.calls (w0 : World) (a0 : Int) (a1 : Int) (A2 : Option Addr) (c2 : Nat) (l2 : List Int) (R2 : rdS (r0 (.int .u64)) 1 (hp w0) A2 c2 l2) (r : (List Int) × Bool) (H : colophonref01_List.f a0 a1 l2 = some r) :
    Calls Try.prog 17 #[.int .i64 a0, .int .i64 a1, .slice A2 l2.length c2] w0 (fun e w' => ∃ v, e = .returned v ∧ colophonref01_List.post w0 r v w') := by
  have hS : Sat w0 (rf w0) [] := Sat.start w0
  unfold colophonref01_List.f at H
  refine calls_of_WC (vs := [.int .i64 a0, .int .i64 a1, .slice A2 l2.length c2]) Try.func17 (c := C17) (n := 91) (by kernel_rfl) (by kernel_rfl) (by kernel_rfl) ?_
  refine WC.seq (by kernel_rfl) ?_
  refine WC.reg [0, 1] (by kernel_rfl) (by kernel_rfl) ?_
  refine WR.runk [0, 1] [] [0, 1, 2] (L' := [(0, .int .i64 a0), (1, .int .i64 a1), (2, .slice A2 l2.length c2)]) (w' := w0) (by kernel_rfl) ?_
  refine WR.nil ?_
  refine At.go ?_
  refine WC.seq (by kernel_rfl) ?_
  refine WC.seq (by kernel_rfl) ?_
  refine WC.reg [0, 1, 2, 3, 4, 5, 6, 7, 8, 9, 10, 11, 12, 13, 14, 15, 16, 17, 18, 19, 20, 21] (by kernel_rfl) (by kernel_rfl) ?_
  refine WR.runk [0, 1, 2, 3, 4, 5, 6, 7] [8, 9, 10, 11, 12, 13, 14, 15, 16, 17, 18, 19, 20, 21] [0, 1, 2, 21] (L' := [(0, .int .i64 a0), (1, .int .i64 a1), (2, .slice A2 l2.length c2), (21, .bool (decide (wi ((l2.length : Int) * 64) < wi (a0 * a1))))]) (w' := w0) (by kernel_rfl) ?_
  refine WR.split 21 (b := decide (wi ((l2.length : Int) * 64) < wi (a0 * a1))) (by kernel_rfl) (fun hb1 => ?_) (fun hb1 => ?_)
  · replace H := ite_t H hb1
    refine WR.runk [8, 9, 10, 11, 12, 13, 14, 15, 16, 17, 18, 19, 20, 21] [] [0, 1, 2, 35] (L' := [(0, .int .i64 a0), (1, .int .i64 a1), (2, .slice A2 l2.length c2), (35, .bool true)]) (w' := w0) (by kernel_rfl) ?_
    refine WR.nil ?_
    refine At.go ?_
    refine WC.condT (by kernel_rfl) (by kernel_rfl) (by kernel_rfl) ?_
    refine WC.seq (by kernel_rfl) ?_
    refine WC.reg [0, 1] (by kernel_rfl) (by kernel_rfl) ?_
    refine WR.runk [0, 1] [] [6, 7] (L' := [(6, .slice none 0 0), (7, .bool false)]) (w' := w0) (by kernel_rfl) ?_
    refine WR.nil ?_
    refine At.go ?_
    refine WC.ret (by kernel_rfl) ?_
    refine At.thenRet ?_
    obtain rfl := Option.some.inj H
    have hS := hS.addNil (α := Int) 22 (r0 (.int .u64)) 1
    have hS : Sat w0 (rf w0) [osl 22 (r0 (.int .u64)) 1 none 0 ([] : List Int)] := hS.sel [0] (by kernel_rfl)
    exact At.body [.slice none 0 0, .bool false] (by kernel_rfl) ⟨_, rfl, _, _, rfl, hS⟩
  · replace H := ite_f H hb1
    refine WR.runk [8, 9, 10, 11] [12, 13, 14, 15, 16, 17, 18, 19, 20, 21] [0, 1, 2, 21, 25] (L' := [(0, .int .i64 a0), (1, .int .i64 a1), (2, .slice A2 l2.length c2), (21, .bool false), (25, .bool (decide ((l2.length : Int) > 0)))]) (w' := w0) (by kernel_rfl) ?_
    refine WR.split 25 (b := decide ((l2.length : Int) > 0)) (by kernel_rfl) (fun hb2 => ?_) (fun hb2 => ?_)
    · replace H := ite_t H hb2
      refine WR.runk [12, 13, 14, 15, 16, 17, 18, 19, 20, 21] [] [0, 1, 2, 35] (L' := [(0, .int .i64 a0), (1, .int .i64 a1), (2, .slice A2 l2.length c2), (35, .bool (decide (wi ((wi ((l2.length : Int) - 1)) * 64) ≥ wi (a0 * a1))))]) (w' := w0) (by kernel_rfl) ?_
      refine WR.nil ?_
      refine At.go ?_
      refine WC.cond (by kernel_rfl) (decide (wi ((wi ((l2.length : Int) - 1)) * 64) ≥ wi (a0 * a1))) (by kernel_rfl) (by kernel_rfl) (fun hb3 => ?_) (fun hb3 => ?_)
      · replace H := ite_t H hb3
        refine WC.seq (by kernel_rfl) ?_
        refine WC.reg [0, 1] (by kernel_rfl) (by kernel_rfl) ?_
        refine WR.runk [0, 1] [] [6, 7] (L' := [(6, .slice none 0 0), (7, .bool false)]) (w' := w0) (by kernel_rfl) ?_
        refine WR.nil ?_
        refine At.go ?_
        refine WC.ret (by kernel_rfl) ?_
        refine At.thenRet ?_
        obtain rfl := Option.some.inj H
        have hS := hS.addNil (α := Int) 22 (r0 (.int .u64)) 1
        have hS : Sat w0 (rf w0) [osl 22 (r0 (.int .u64)) 1 none 0 ([] : List Int)] := hS.sel [0] (by kernel_rfl)
        exact At.body [.slice none 0 0, .bool false] (by kernel_rfl) ⟨_, rfl, _, _, rfl, hS⟩
      · replace H := ite_f H hb3
        refine WC.skip (by kernel_rfl) ?_
        refine At.go ?_
        refine WC.seq (by kernel_rfl) ?_
        refine WC.seq (by kernel_rfl) ?_
        refine WC.reg [0, 1, 2, 3] (by kernel_rfl) (by kernel_rfl) ?_
        refine WR.runk [0, 1, 2, 3] [] [0, 1, 2, 8] (L' := [(0, .int .i64 a0), (1, .int .i64 a1), (2, .slice A2 l2.length c2), (8, .int .i64 (wi (a0 * a1)))]) (w' := w0) (by kernel_rfl) ?_
        refine WR.nil ?_
        refine At.go ?_
        refine WC.block (by kernel_rfl) ?_
        have hS : Sat w0 (rf w0) [] := hS.sel [] (by kernel_rfl)
        obtain ⟨o8, e9, H⟩ := bind_ex H
        refine WC.loop (by kernel_rfl) ?_
        refine WL.weaken [0, 1, 2, 8] (L' := [(0, .int .i64 a0), (1, .int .i64 a1), (2, .slice A2 l2.length c2), (8, .int .i64 (wi (a0 * a1)))]) (by kernel_rfl) ?_
        refine colophonref01_List.l1_ok w0 a0 a1 A2 c2 l2 R2 o8 (fun o10 A6_q11 c6_q11 w12 ho13 hS => ?_) (fun o14 w16 ho17 hS => ?_) FU (wi (a0 * a1)) _ hS e9
        · subst ho13
          dsimp only at H
          refine At.blockRet ?_
          refine At.thenRet ?_
          obtain rfl := Option.some.inj H
          have hS : Sat w12 (rf w0) [osl 22 (r0 (.int .u64)) 1 A6_q11 c6_q11 o10.1] := hS.sel [0] (by kernel_rfl)
          exact At.body [.slice A6_q11 o10.1.length c6_q11, .bool o10.2] (by kernel_rfl) ⟨_, rfl, _, _, rfl, hS⟩
        · subst ho17
          dsimp only at H
          refine At.hit ?_
          refine At.go ?_
          refine WC.seq (by kernel_rfl) ?_
          refine WC.reg [0] (by kernel_rfl) (by kernel_rfl) ?_
          refine WR.runk [0] [] [0, 1, 2, 9] (L' := [(0, .int .i64 a0), (1, .int .i64 a1), (2, .slice A2 l2.length c2), (9, .slice none 0 0)]) (w' := w16) (by kernel_rfl) ?_
          refine WR.nil ?_
          refine At.go ?_
          refine WC.seq (by kernel_rfl) ?_
          refine WC.seq (by kernel_rfl) ?_
          refine WC.reg [0] (by kernel_rfl) (by kernel_rfl) ?_
          refine WR.runk [0] [] [0, 1, 2, 9, 10] (L' := [(0, .int .i64 a0), (1, .int .i64 a1), (2, .slice A2 l2.length c2), (9, .slice none 0 0), (10, .int .i64 0)]) (w' := w16) (by kernel_rfl) ?_
          refine WR.nil ?_
          refine At.go ?_
          refine WC.block (by kernel_rfl) ?_
          have hS := hS.addNil (α := Int) 22 (r0 (.int .u64)) 1
          have hS : Sat w16 (rf w0) [osl 22 (r0 (.int .u64)) 1 none 0 ([] : List Int)] := hS.sel [0] (by kernel_rfl)
          obtain ⟨o34, e35, H⟩ := bind_ex H
          refine WC.loop (by kernel_rfl) ?_
          refine WL.weaken [0, 1, 2, 9, 10] (L' := [(0, .int .i64 a0), (1, .int .i64 a1), (2, .slice A2 l2.length c2), (9, .slice none 0 0), (10, .int .i64 0)]) (by kernel_rfl) ?_
          refine colophonref01_List.l2_ok w0 a0 a1 A2 c2 l2 R2 o34 (fun A9_q36 c9_q36 w37 hS => ?_) FU ([] : List Int) 0 none 0 _ hS e35
          refine At.hit ?_
          refine At.go ?_
          refine WC.seq (by kernel_rfl) ?_
          refine WC.reg [0, 1, 2] (by kernel_rfl) (by kernel_rfl) ?_
          refine WR.runk [0, 1, 2] [] [6, 7] (L' := [(6, .slice A9_q36 o34.length c9_q36), (7, .bool true)]) (w' := w37) (by kernel_rfl) ?_
          refine WR.nil ?_
          refine At.go ?_
          refine WC.ret (by kernel_rfl) ?_
          obtain rfl := Option.some.inj H
          have hS : Sat w37 (rf w0) [osl 22 (r0 (.int .u64)) 1 A9_q36 c9_q36 o34] := hS.sel [0] (by kernel_rfl)
          exact At.body [.slice A9_q36 o34.length c9_q36, .bool true] (by kernel_rfl) ⟨_, rfl, _, _, rfl, hS⟩
    · replace H := ite_f H hb2
      refine WR.runk [12, 13, 14, 15, 16, 17, 18, 19, 20, 21] [] [0, 1, 2, 35] (L' := [(0, .int .i64 a0), (1, .int .i64 a1), (2, .slice A2 l2.length c2), (35, .bool false)]) (w' := w0) (by kernel_rfl) ?_
      refine WR.nil ?_
      refine At.go ?_
      refine WC.condF (by kernel_rfl) (by kernel_rfl) (by kernel_rfl) ?_
      refine WC.skip (by kernel_rfl) ?_
      refine At.go ?_
      refine WC.seq (by kernel_rfl) ?_
      refine WC.seq (by kernel_rfl) ?_
      refine WC.reg [0, 1, 2, 3] (by kernel_rfl) (by kernel_rfl) ?_
      refine WR.runk [0, 1, 2, 3] [] [0, 1, 2, 8] (L' := [(0, .int .i64 a0), (1, .int .i64 a1), (2, .slice A2 l2.length c2), (8, .int .i64 (wi (a0 * a1)))]) (w' := w0) (by kernel_rfl) ?_
      refine WR.nil ?_
      refine At.go ?_
      refine WC.block (by kernel_rfl) ?_
      have hS : Sat w0 (rf w0) [] := hS.sel [] (by kernel_rfl)
      obtain ⟨o43, e44, H⟩ := bind_ex H
      refine WC.loop (by kernel_rfl) ?_
      refine WL.weaken [0, 1, 2, 8] (L' := [(0, .int .i64 a0), (1, .int .i64 a1), (2, .slice A2 l2.length c2), (8, .int .i64 (wi (a0 * a1)))]) (by kernel_rfl) ?_
      refine colophonref01_List.l4_ok w0 a0 a1 A2 c2 l2 R2 o43 (fun o45 A6_q46 c6_q46 w47 ho48 hS => ?_) (fun o49 w51 ho52 hS => ?_) FU (wi (a0 * a1)) _ hS e44
      · subst ho48
        dsimp only at H
        refine At.blockRet ?_
        refine At.thenRet ?_
        obtain rfl := Option.some.inj H
        have hS : Sat w47 (rf w0) [osl 22 (r0 (.int .u64)) 1 A6_q46 c6_q46 o45.1] := hS.sel [0] (by kernel_rfl)
        exact At.body [.slice A6_q46 o45.1.length c6_q46, .bool o45.2] (by kernel_rfl) ⟨_, rfl, _, _, rfl, hS⟩
      · subst ho52
        dsimp only at H
        refine At.hit ?_
        refine At.go ?_
        refine WC.seq (by kernel_rfl) ?_
        refine WC.reg [0] (by kernel_rfl) (by kernel_rfl) ?_
        refine WR.runk [0] [] [0, 1, 2, 9] (L' := [(0, .int .i64 a0), (1, .int .i64 a1), (2, .slice A2 l2.length c2), (9, .slice none 0 0)]) (w' := w51) (by kernel_rfl) ?_
        refine WR.nil ?_
        refine At.go ?_
        refine WC.seq (by kernel_rfl) ?_
        refine WC.seq (by kernel_rfl) ?_
        refine WC.reg [0] (by kernel_rfl) (by kernel_rfl) ?_
        refine WR.runk [0] [] [0, 1, 2, 9, 10] (L' := [(0, .int .i64 a0), (1, .int .i64 a1), (2, .slice A2 l2.length c2), (9, .slice none 0 0), (10, .int .i64 0)]) (w' := w51) (by kernel_rfl) ?_
        refine WR.nil ?_
        refine At.go ?_
        refine WC.block (by kernel_rfl) ?_
        have hS := hS.addNil (α := Int) 22 (r0 (.int .u64)) 1
        have hS : Sat w51 (rf w0) [osl 22 (r0 (.int .u64)) 1 none 0 ([] : List Int)] := hS.sel [0] (by kernel_rfl)
        obtain ⟨o69, e70, H⟩ := bind_ex H
        refine WC.loop (by kernel_rfl) ?_
        refine WL.weaken [0, 1, 2, 9, 10] (L' := [(0, .int .i64 a0), (1, .int .i64 a1), (2, .slice A2 l2.length c2), (9, .slice none 0 0), (10, .int .i64 0)]) (by kernel_rfl) ?_
        refine colophonref01_List.l5_ok w0 a0 a1 A2 c2 l2 R2 o69 (fun A9_q71 c9_q71 w72 hS => ?_) FU ([] : List Int) 0 none 0 _ hS e70
        refine At.hit ?_
        refine At.go ?_
        refine WC.seq (by kernel_rfl) ?_
        refine WC.reg [0, 1, 2] (by kernel_rfl) (by kernel_rfl) ?_
        refine WR.runk [0, 1, 2] [] [6, 7] (L' := [(6, .slice A9_q71 o69.length c9_q71), (7, .bool true)]) (w' := w72) (by kernel_rfl) ?_
        refine WR.nil ?_
        refine At.go ?_
        refine WC.ret (by kernel_rfl) ?_
        obtain rfl := Option.some.inj H
        have hS : Sat w72 (rf w0) [osl 22 (r0 (.int .u64)) 1 A9_q71 c9_q71 o69] := hS.sel [0] (by kernel_rfl)
        exact At.body [.slice A9_q71 o69.length c9_q71, .bool true] (by kernel_rfl) ⟨_, rfl, _, _, rfl, hS⟩
/-! ### 18 (*colophon/pack.Ints).Len -/
def pack_Ints_Len.f (p0 : Option (Int × Int × (List Int))) : Option Int := (match p0 with | none => some 0 | some y3 => some y3.2.1)
def pack_Ints_Len.post (w : World) (r : Int) (v : Value) (w' : World) : Prop := v = (.int .i64 r : Value) ∧ Sat w' (rf w) []
theorem pack_Ints_Len.calls (w0 : World) (v0 : Value) (p0 : Option (Int × Int × (List Int))) (R0 : rd (hp w0) (.ptr 55 (.pair (.int .i64) (.pair (.int .i64) (.slice 22 (.int .u64))))) [v0] p0) (r : Int) (H : pack_Ints_Len.f p0 = some r) :
    Calls Try.prog 18 #[v0] w0 (fun e w' => ∃ v, e = .returned v ∧ pack_Ints_Len.post w0 r v w') := by
  have hS : Sat w0 (rf w0) [] := Sat.start w0
  unfold pack_Ints_Len.f at H
  refine calls_of_WC (vs := [v0]) Try.func18 (c := C18) (n := 9) (by kernel_rfl) (by kernel_rfl) (by kernel_rfl) ?_
  refine WC.seq (by kernel_rfl) ?_
  refine WC.reg [0] (by kernel_rfl) (by kernel_rfl) ?_
  refine WR.runk [0] [] [0] (L' := [(0, v0)]) (w' := w0) (by kernel_rfl) ?_
  refine WR.nil ?_
  refine At.go ?_
  refine WC.seq (by kernel_rfl) ?_
  refine WC.seq (by kernel_rfl) ?_
  refine WC.reg [0, 1] (by kernel_rfl) (by kernel_rfl) ?_
  refine WR.runk [0] [1] [0, 3] (L' := [(0, v0), (3, v0)]) (w' := w0) (by kernel_rfl) ?_
  rcases opt_cases p0 with hr1 | ⟨y3, hr1⟩
  · rw [hr1] at H
    dsimp only at H
    have hx2 := rd_ptr_none R0 hr1
    try subst hx2
    refine WR.runk [1] [] [0, 4] (L' := [(0, .pointer none), (4, .bool true)]) (w' := w0) (by kernel_rfl) ?_
    refine WR.nil ?_
    refine At.go ?_
    refine WC.condT (by kernel_rfl) (by kernel_rfl) (by kernel_rfl) ?_
    refine WC.seq (by kernel_rfl) ?_
    refine WC.reg [0] (by kernel_rfl) (by kernel_rfl) ?_
    refine WR.runk [0] [] [2] (L' := [(2, .int .i64 0)]) (w' := w0) (by kernel_rfl) ?_
    refine WR.nil ?_
    refine At.go ?_
    refine WC.ret (by kernel_rfl) ?_
    refine At.thenRet ?_
    obtain rfl := Option.some.inj H
    have hS : Sat w0 (rf w0) [] := hS.sel [] (by kernel_rfl)
    exact At.body [.int .i64 0] (by kernel_rfl) ⟨_, rfl, rfl, hS⟩
  · rw [hr1] at H
    dsimp only at H
    obtain ⟨b4, fr5, A9, c10, hv6, hb7, R11⟩ := P55.open R0 hr1
    have R8 := R0
    rw [hv6, hr1] at R8
    try subst hv6
    replace R11 : rdS (r0 (.int .u64)) 1 (hp w0) A9 c10 y3.2.2 := R11
    refine WR.runk [1] [] [0, 4] (L' := [(0, .pointer (some ⟨b4, 0, none⟩)), (4, .bool false)]) (w' := w0) (by kernel_rfl) ?_
    refine WR.nil ?_
    refine At.go ?_
    refine WC.condF (by kernel_rfl) (by kernel_rfl) (by kernel_rfl) ?_
    refine WC.skip (by kernel_rfl) ?_
    refine At.go ?_
    refine WC.seq (by kernel_rfl) ?_
    refine WC.reg [0, 1, 2, 3, 4] (by kernel_rfl) (by kernel_rfl) ?_
    refine WR.runk [0, 1, 2] [3, 4] [7] (L' := [(7, .pointer (some ⟨b4, 1, none⟩))]) (w' := w0) (by kernel_rfl) ?_
    refine WR.st (St.ofR (RSt.loadRo (t := 3) (k := 1) (v := .int .i64 y3.2.1) (.tmp 7) (by kernel_rfl) (by kernel_rfl) (by kernel_rfl) hS.sub0 hb7 (by kernel_rfl) rfl ?_))
    refine WR.runk [4] [] [2] (L' := [(2, .int .i64 y3.2.1)]) (w' := w0) (by kernel_rfl) ?_
    refine WR.nil ?_
    refine At.go ?_
    refine WC.ret (by kernel_rfl) ?_
    obtain rfl := Option.some.inj H
    have hS : Sat w0 (rf w0) [] := hS.sel [] (by kernel_rfl)
    exact At.body [.int .i64 y3.2.1] (by kernel_rfl) ⟨_, rfl, rfl, hS⟩
/-! ### 19 colophon/colophonref01.Same -/
def colophonref01_Same.l1 (l0 : List Int) (l1 : List Int) : Nat → Int → Option (Sum Bool Unit)
  | 0, _ => none
  | k + 1, x13_l1 => (if decide (x13_l1 < (l0.length : Int)) then ((at? l0 x13_l1).bind fun v5 => ((at? l1 x13_l1).bind fun v7 => (if (v5 != v7) then some (.inl false) else colophonref01_Same.l1 l0 l1 k (wi (x13_l1 + 1))))) else some (.inr ()))
def colophonref01_Same.f (l0 : List Int) (l1 : List Int) : Option Bool := (if ((l0.length : Int) != (l1.length : Int)) then some false else ((colophonref01_Same.l1 l0 l1 FU 0).bind fun o10 => (match o10 with | .inl o12 => some o12 | .inr o16 => some true)))
def colophonref01_Same.post (w : World) (r : Bool) (v : Value) (w' : World) : Prop := v = (.bool r : Value) ∧ Sat w' (rf w) []
theorem colophonref01_Same.l1_ok {Q} (w0 : World) (A0 : Option Addr) (c0 : Nat) (l0 : List Int) (A1 : Option Addr) (c1 : Nat) (l1 : List Int) (R0 : rdS (r0 (.int .u64)) 1 (hp w0) A0 c0 l0) (R1 : rdS (r0 (.int .u64)) 1 (hp w0) A1 c1 l1) (out : Sum Bool Unit) (hn0 : ∀ (o0 : Bool) (w : World), out = (.inl o0) → Sat w (rf w0) [] → At Q .ret 26 [(4, .bool o0)] w) (hn1 : ∀ (o1 : Unit) (w : World), out = (.inr o1) → Sat w (rf w0) [] → At Q (.exit 0) 26 [] w) :
    ∀ (k : Nat) (x13_l1 : Int) (w : World), Sat w (rf w0) [] → colophonref01_Same.l1 l0 l1 k x13_l1 = some out → WL Try.prog (cbody (cbody (cr (cl (cr (cr C19)))))) Q 26 [(0, .slice A0 l0.length c0), (1, .slice A1 l1.length c1), (12, .int .i64 (l0.length : Int)), (13, .int .i64 x13_l1)] w := by
  intro k
  induction k with
  | zero => intro x13_l1 w hS H; exact absurd (show none = some out from H) (by simp)
  | succ k ih =>
    intro x13_l1 w hS H
    unfold colophonref01_Same.l1 at H
    refine WL.round ?_
    refine WC.seq (by kernel_rfl) ?_
    refine WC.reg [0] (by kernel_rfl) (by kernel_rfl) ?_
    refine WR.runk [0] [] [0, 1, 12, 13, 14] (L' := [(0, .slice A0 l0.length c0), (1, .slice A1 l1.length c1), (12, .int .i64 (l0.length : Int)), (13, .int .i64 x13_l1), (14, .bool (decide (x13_l1 < (l0.length : Int))))]) (w' := w) (by kernel_rfl) ?_
    refine WR.nil ?_
    refine At.go ?_
    refine WC.seq (by kernel_rfl) ?_
    refine WC.cond (by kernel_rfl) (decide (x13_l1 < (l0.length : Int))) (by kernel_rfl) (by kernel_rfl) (fun hb2 => ?_) (fun hb2 => ?_)
    · replace H := ite_t H hb2
      refine WC.skip (by kernel_rfl) ?_
      refine At.go ?_
      refine WC.seq (by kernel_rfl) ?_
      refine WC.block (by kernel_rfl) ?_
      refine WC.seq (by kernel_rfl) ?_
      refine WC.reg [0, 1] (by kernel_rfl) (by kernel_rfl) ?_
      refine WR.runk [0, 1] [] [0, 1, 5, 12, 13] (L' := [(0, .slice A0 l0.length c0), (1, .slice A1 l1.length c1), (5, .int .i64 x13_l1), (12, .int .i64 (l0.length : Int)), (13, .int .i64 x13_l1)]) (w' := w) (by kernel_rfl) ?_
      refine WR.nil ?_
      refine At.go ?_
      refine WC.seq (by kernel_rfl) ?_
      refine WC.drawn (by kernel_rfl) (by kernel_rfl) 9 (by kernel_rfl) (fun w3 hw4 => ?_)
      have hS := hS.heap hw4.1 hw4.2
      refine WD.weaken [0, 1, 5, 12, 13] (L' := [(0, .slice A0 l0.length c0), (1, .slice A1 l1.length c1), (5, .int .i64 x13_l1), (12, .int .i64 (l0.length : Int)), (13, .int .i64 x13_l1)]) (by kernel_rfl) ?_
      refine WD.pure (i := 0) (v := .slice A0 l0.length c0) (by kernel_rfl) (by kernel_rfl) (fun _ => by kernel_rfl) ?_
      refine WD.weaken [0, 1, 5, 12, 13, 16] (L' := [(0, .slice A0 l0.length c0), (1, .slice A1 l1.length c1), (5, .int .i64 x13_l1), (12, .int .i64 (l0.length : Int)), (13, .int .i64 x13_l1), (16, .slice A0 l0.length c0)]) (by kernel_rfl) ?_
      refine WD.pure (i := 1) (v := .int .i64 x13_l1) (by kernel_rfl) (by kernel_rfl) (fun _ => by kernel_rfl) ?_
      refine WD.weaken [0, 1, 5, 12, 13, 16, 17] (L' := [(0, .slice A0 l0.length c0), (1, .slice A1 l1.length c1), (5, .int .i64 x13_l1), (12, .int .i64 (l0.length : Int)), (13, .int .i64 x13_l1), (16, .slice A0 l0.length c0), (17, .int .i64 x13_l1)]) (by kernel_rfl) ?_
      obtain ⟨v5, e6, H⟩ := bind_ex H
      refine WD.ofP (i := 2) (by kernel_rfl) (PSt.idx (k := .i64) (.tmp 16) (.tmp 17) (by kernel_rfl) (by kernel_rfl) E32 (by kernel_rfl) (by kernel_rfl) (rdS.up R0 hS.sub0) e6 ?_)
      refine WD.weaken [0, 1, 5, 12, 13, 18] (L' := [(0, .slice A0 l0.length c0), (1, .slice A1 l1.length c1), (5, .int .i64 x13_l1), (12, .int .i64 (l0.length : Int)), (13, .int .i64 x13_l1), (18, .pointer (some (adr A0 x13_l1.toNat 1)))]) (by kernel_rfl) ?_
      refine WD.ofR (i := 3) (by kernel_rfl) (RSt.loadInt (t := 22) (.tmp 18) (by kernel_rfl) (by kernel_rfl) (by kernel_rfl) (by kernel_rfl) (rdS.up R0 hS.sub0) e6 ?_)
      refine WD.weaken [0, 1, 5, 12, 13, 19] (L' := [(0, .slice A0 l0.length c0), (1, .slice A1 l1.length c1), (5, .int .i64 x13_l1), (12, .int .i64 (l0.length : Int)), (13, .int .i64 x13_l1), (19, .int .u64 v5)]) (by kernel_rfl) ?_
      refine WD.pure (i := 4) (v := .slice A1 l1.length c1) (by kernel_rfl) (by kernel_rfl) (fun _ => by kernel_rfl) ?_
      refine WD.weaken [0, 1, 5, 12, 13, 19, 20] (L' := [(0, .slice A0 l0.length c0), (1, .slice A1 l1.length c1), (5, .int .i64 x13_l1), (12, .int .i64 (l0.length : Int)), (13, .int .i64 x13_l1), (19, .int .u64 v5), (20, .slice A1 l1.length c1)]) (by kernel_rfl) ?_
      refine WD.pure (i := 5) (v := .int .i64 x13_l1) (by kernel_rfl) (by kernel_rfl) (fun _ => by kernel_rfl) ?_
      refine WD.weaken [0, 1, 12, 13, 19, 20, 21] (L' := [(0, .slice A0 l0.length c0), (1, .slice A1 l1.length c1), (12, .int .i64 (l0.length : Int)), (13, .int .i64 x13_l1), (19, .int .u64 v5), (20, .slice A1 l1.length c1), (21, .int .i64 x13_l1)]) (by kernel_rfl) ?_
      obtain ⟨v7, e8, H⟩ := bind_ex H
      refine WD.ofP (i := 6) (by kernel_rfl) (PSt.idx (k := .i64) (.tmp 20) (.tmp 21) (by kernel_rfl) (by kernel_rfl) E32 (by kernel_rfl) (by kernel_rfl) (rdS.up R1 hS.sub0) e8 ?_)
      refine WD.weaken [0, 1, 12, 13, 19, 22] (L' := [(0, .slice A0 l0.length c0), (1, .slice A1 l1.length c1), (12, .int .i64 (l0.length : Int)), (13, .int .i64 x13_l1), (19, .int .u64 v5), (22, .pointer (some (adr A1 x13_l1.toNat 1)))]) (by kernel_rfl) ?_
      refine WD.ofR (i := 7) (by kernel_rfl) (RSt.loadInt (t := 22) (.tmp 22) (by kernel_rfl) (by kernel_rfl) (by kernel_rfl) (by kernel_rfl) (rdS.up R1 hS.sub0) e8 ?_)
      refine WD.weaken [0, 1, 12, 13, 19, 23] (L' := [(0, .slice A0 l0.length c0), (1, .slice A1 l1.length c1), (12, .int .i64 (l0.length : Int)), (13, .int .i64 x13_l1), (19, .int .u64 v5), (23, .int .u64 v7)]) (by kernel_rfl) ?_
      refine WD.pure (i := 8) (v := .bool (v5 != v7)) (by kernel_rfl) (by kernel_rfl) (fun _ => by kernel_rfl) ?_
      refine WD.weaken [0, 1, 12, 13, 24] (L' := [(0, .slice A0 l0.length c0), (1, .slice A1 l1.length c1), (12, .int .i64 (l0.length : Int)), (13, .int .i64 x13_l1), (24, .bool (v5 != v7))]) (by kernel_rfl) ?_
      refine WD.nil (by kernel_rfl) ?_
      refine At.go ?_
      refine WC.cond (by kernel_rfl) (v5 != v7) (by kernel_rfl) (by kernel_rfl) (fun hb9 => ?_) (fun hb9 => ?_)
      · replace H := ite_t H hb9
        refine WC.seq (by kernel_rfl) ?_
        refine WC.reg [0] (by kernel_rfl) (by kernel_rfl) ?_
        refine WR.runk [0] [] [4] (L' := [(4, .bool false)]) (w' := w3) (by kernel_rfl) ?_
        refine WR.nil ?_
        refine At.go ?_
        refine WC.ret (by kernel_rfl) ?_
        refine At.blockRet ?_
        refine At.thenRet ?_
        refine At.thenRet ?_
        obtain rfl := Option.some.inj H
        have hS : Sat w3 (rf w0) [] := hS.sel [] (by kernel_rfl)
        refine At.weaken [4] (L' := [(4, .bool false)]) (by kernel_rfl) ?_
        exact hn0 false _ rfl hS
      · replace H := ite_f H hb9
        refine WC.skip (by kernel_rfl) ?_
        refine At.blockNormal ?_
        refine At.go ?_
        refine WC.reg [0, 1] (by kernel_rfl) (by kernel_rfl) ?_
        refine WR.runk [0, 1] [] [0, 1, 12, 13] (L' := [(0, .slice A0 l0.length c0), (1, .slice A1 l1.length c1), (12, .int .i64 (l0.length : Int)), (13, .int .i64 (wi (x13_l1 + 1)))]) (w' := w3) (by kernel_rfl) ?_
        refine WR.nil ?_
        have hS : Sat w3 (rf w0) [] := hS.sel [] (by kernel_rfl)
        refine At.again ?_
        refine WL.weaken [0, 1, 12, 13] (L' := [(0, .slice A0 l0.length c0), (1, .slice A1 l1.length c1), (12, .int .i64 (l0.length : Int)), (13, .int .i64 (wi (x13_l1 + 1)))]) (by kernel_rfl) ?_
        exact ih (wi (x13_l1 + 1)) _ hS H
    · replace H := ite_f H hb2
      refine WC.exit (by kernel_rfl) ?_
      refine At.thenExit ?_
      refine At.thenExit ?_
      obtain rfl := Option.some.inj H
      have hS : Sat w (rf w0) [] := hS.sel [] (by kernel_rfl)
      refine At.weaken [] (L' := []) (by kernel_rfl) ?_
      exact hn1 () _ rfl hS
theorem colophonref01_Same.calls (w0 : World) (A0 : Option Addr) (c0 : Nat) (l0 : List Int) (R0 : rdS (r0 (.int .u64)) 1 (hp w0) A0 c0 l0) (A1 : Option Addr) (c1 : Nat) (l1 : List Int) (R1 : rdS (r0 (.int .u64)) 1 (hp w0) A1 c1 l1) (r : Bool) (H : colophonref01_Same.f l0 l1 = some r) :
    Calls Try.prog 19 #[.slice A0 l0.length c0, .slice A1 l1.length c1] w0 (fun e w' => ∃ v, e = .returned v ∧ colophonref01_Same.post w0 r v w') := by
  have hS : Sat w0 (rf w0) [] := Sat.start w0
  unfold colophonref01_Same.f at H
  refine calls_of_WC (vs := [.slice A0 l0.length c0, .slice A1 l1.length c1]) Try.func19 (c := C19) (n := 26) (by kernel_rfl) (by kernel_rfl) (by kernel_rfl) ?_
  refine WC.seq (by kernel_rfl) ?_
  refine WC.reg [0] (by kernel_rfl) (by kernel_rfl) ?_
  refine WR.runk [0] [] [0, 1] (L' := [(0, .slice A0 l0.length c0), (1, .slice A1 l1.length c1)]) (w' := w0) (by kernel_rfl) ?_
  refine WR.nil ?_
  refine At.go ?_
  refine WC.seq (by kernel_rfl) ?_
  refine WC.seq (by kernel_rfl) ?_
  refine WC.reg [0, 1, 2, 3, 4] (by kernel_rfl) (by kernel_rfl) ?_
  refine WR.runk [0, 1, 2, 3, 4] [] [0, 1, 10] (L' := [(0, .slice A0 l0.length c0), (1, .slice A1 l1.length c1), (10, .bool ((l0.length : Int) != (l1.length : Int)))]) (w' := w0) (by kernel_rfl) ?_
  refine WR.nil ?_
  refine At.go ?_
  refine WC.cond (by kernel_rfl) ((l0.length : Int) != (l1.length : Int)) (by kernel_rfl) (by kernel_rfl) (fun hb1 => ?_) (fun hb1 => ?_)
  · replace H := ite_t H hb1
    refine WC.seq (by kernel_rfl) ?_
    refine WC.reg [0] (by kernel_rfl) (by kernel_rfl) ?_
    refine WR.runk [0] [] [4] (L' := [(4, .bool false)]) (w' := w0) (by kernel_rfl) ?_
    refine WR.nil ?_
    refine At.go ?_
    refine WC.ret (by kernel_rfl) ?_
    refine At.thenRet ?_
    obtain rfl := Option.some.inj H
    have hS : Sat w0 (rf w0) [] := hS.sel [] (by kernel_rfl)
    exact At.body [.bool false] (by kernel_rfl) ⟨_, rfl, rfl, hS⟩
  · replace H := ite_f H hb1
    refine WC.skip (by kernel_rfl) ?_
    refine At.go ?_
    refine WC.seq (by kernel_rfl) ?_
    refine WC.seq (by kernel_rfl) ?_
    refine WC.reg [0, 1, 2] (by kernel_rfl) (by kernel_rfl) ?_
    refine WR.runk [0, 1, 2] [] [0, 1, 12, 13] (L' := [(0, .slice A0 l0.length c0), (1, .slice A1 l1.length c1), (12, .int .i64 (l0.length : Int)), (13, .int .i64 0)]) (w' := w0) (by kernel_rfl) ?_
    refine WR.nil ?_
    refine At.go ?_
    refine WC.block (by kernel_rfl) ?_
    have hS : Sat w0 (rf w0) [] := hS.sel [] (by kernel_rfl)
    obtain ⟨o10, e11, H⟩ := bind_ex H
    refine WC.loop (by kernel_rfl) ?_
    refine WL.weaken [0, 1, 12, 13] (L' := [(0, .slice A0 l0.length c0), (1, .slice A1 l1.length c1), (12, .int .i64 (l0.length : Int)), (13, .int .i64 0)]) (by kernel_rfl) ?_
    refine colophonref01_Same.l1_ok w0 A0 c0 l0 A1 c1 l1 R0 R1 o10 (fun o12 w14 ho15 hS => ?_) (fun o16 w18 ho19 hS => ?_) FU 0 _ hS e11
    · subst ho15
      dsimp only at H
      refine At.blockRet ?_
      refine At.thenRet ?_
      obtain rfl := Option.some.inj H
      have hS : Sat w14 (rf w0) [] := hS.sel [] (by kernel_rfl)
      exact At.body [.bool o12] (by kernel_rfl) ⟨_, rfl, rfl, hS⟩
    · subst ho19
      dsimp only at H
      refine At.hit ?_
      refine At.go ?_
      refine WC.seq (by kernel_rfl) ?_
      refine WC.reg [0] (by kernel_rfl) (by kernel_rfl) ?_
      refine WR.runk [0] [] [4] (L' := [(4, .bool true)]) (w' := w18) (by kernel_rfl) ?_
      refine WR.nil ?_
      refine At.go ?_
      refine WC.ret (by kernel_rfl) ?_
      obtain rfl := Option.some.inj H
      have hS : Sat w18 (rf w0) [] := hS.sel [] (by kernel_rfl)
      exact At.body [.bool true] (by kernel_rfl) ⟨_, rfl, rfl, hS⟩
/-! ### 20 (*colophon/pack.Ints).Width -/
def pack_Ints_Width.f (p0 : Option (Int × Int × (List Int))) : Option Int := (match p0 with | none => some 0 | some y3 => some y3.1)
def pack_Ints_Width.post (w : World) (r : Int) (v : Value) (w' : World) : Prop := v = (.int .i64 r : Value) ∧ Sat w' (rf w) []
theorem pack_Ints_Width.calls (w0 : World) (v0 : Value) (p0 : Option (Int × Int × (List Int))) (R0 : rd (hp w0) (.ptr 55 (.pair (.int .i64) (.pair (.int .i64) (.slice 22 (.int .u64))))) [v0] p0) (r : Int) (H : pack_Ints_Width.f p0 = some r) :
    Calls Try.prog 20 #[v0] w0 (fun e w' => ∃ v, e = .returned v ∧ pack_Ints_Width.post w0 r v w') := by
  have hS : Sat w0 (rf w0) [] := Sat.start w0
  unfold pack_Ints_Width.f at H
  refine calls_of_WC (vs := [v0]) Try.func20 (c := C20) (n := 9) (by kernel_rfl) (by kernel_rfl) (by kernel_rfl) ?_
  refine WC.seq (by kernel_rfl) ?_
  refine WC.reg [0] (by kernel_rfl) (by kernel_rfl) ?_
  refine WR.runk [0] [] [0] (L' := [(0, v0)]) (w' := w0) (by kernel_rfl) ?_
  refine WR.nil ?_
  refine At.go ?_
  refine WC.seq (by kernel_rfl) ?_
  refine WC.seq (by kernel_rfl) ?_
  refine WC.reg [0, 1] (by kernel_rfl) (by kernel_rfl) ?_
  refine WR.runk [0] [1] [0, 3] (L' := [(0, v0), (3, v0)]) (w' := w0) (by kernel_rfl) ?_
  rcases opt_cases p0 with hr1 | ⟨y3, hr1⟩
  · rw [hr1] at H
    dsimp only at H
    have hx2 := rd_ptr_none R0 hr1
    try subst hx2
    refine WR.runk [1] [] [0, 4] (L' := [(0, .pointer none), (4, .bool true)]) (w' := w0) (by kernel_rfl) ?_
    refine WR.nil ?_
    refine At.go ?_
    refine WC.condT (by kernel_rfl) (by kernel_rfl) (by kernel_rfl) ?_
    refine WC.seq (by kernel_rfl) ?_
    refine WC.reg [0] (by kernel_rfl) (by kernel_rfl) ?_
    refine WR.runk [0] [] [2] (L' := [(2, .int .i64 0)]) (w' := w0) (by kernel_rfl) ?_
    refine WR.nil ?_
    refine At.go ?_
    refine WC.ret (by kernel_rfl) ?_
    refine At.thenRet ?_
    obtain rfl := Option.some.inj H
    have hS : Sat w0 (rf w0) [] := hS.sel [] (by kernel_rfl)
    exact At.body [.int .i64 0] (by kernel_rfl) ⟨_, rfl, rfl, hS⟩
  · rw [hr1] at H
    dsimp only at H
    obtain ⟨b4, fr5, A9, c10, hv6, hb7, R11⟩ := P55.open R0 hr1
    have R8 := R0
    rw [hv6, hr1] at R8
    try subst hv6
    replace R11 : rdS (r0 (.int .u64)) 1 (hp w0) A9 c10 y3.2.2 := R11
    refine WR.runk [1] [] [0, 4] (L' := [(0, .pointer (some ⟨b4, 0, none⟩)), (4, .bool false)]) (w' := w0) (by kernel_rfl) ?_
    refine WR.nil ?_
    refine At.go ?_
    refine WC.condF (by kernel_rfl) (by kernel_rfl) (by kernel_rfl) ?_
    refine WC.skip (by kernel_rfl) ?_
    refine At.go ?_
    refine WC.seq (by kernel_rfl) ?_
    refine WC.reg [0, 1, 2, 3, 4] (by kernel_rfl) (by kernel_rfl) ?_
    refine WR.runk [0, 1, 2] [3, 4] [7] (L' := [(7, .pointer (some ⟨b4, 0, none⟩))]) (w' := w0) (by kernel_rfl) ?_
    refine WR.st (St.ofR (RSt.loadRo (t := 3) (k := 0) (v := .int .i64 y3.1) (.tmp 7) (by kernel_rfl) (by kernel_rfl) (by kernel_rfl) hS.sub0 hb7 (by kernel_rfl) rfl ?_))
    refine WR.runk [4] [] [2] (L' := [(2, .int .i64 y3.1)]) (w' := w0) (by kernel_rfl) ?_
    refine WR.nil ?_
    refine At.go ?_
    refine WC.ret (by kernel_rfl) ?_
    obtain rfl := Option.some.inj H
    have hS : Sat w0 (rf w0) [] := hS.sel [] (by kernel_rfl)
    exact At.body [.int .i64 y3.1] (by kernel_rfl) ⟨_, rfl, rfl, hS⟩
/-! ### 21 colophon/colophonref01.Fits -/
def colophonref01_Fits.f (a0 : Int) (a1 : Int) : Option Bool := (if (a0 == 64) then some true else some ((ishr .u64 a1 (IntKind.wrap .u64 a0)) == 0))
def colophonref01_Fits.post (w : World) (r : Bool) (v : Value) (w' : World) : Prop := v = (.bool r : Value) ∧ Sat w' (rf w) []
theorem colophonref01_Fits.calls (w0 : World) (a0 : Int) (a1 : Int) (r : Bool) (H : colophonref01_Fits.f a0 a1 = some r) :
    Calls Try.prog 21 #[.int .i64 a0, .int .u64 a1] w0 (fun e w' => ∃ v, e = .returned v ∧ colophonref01_Fits.post w0 r v w') := by
  have hS : Sat w0 (rf w0) [] := Sat.start w0
  unfold colophonref01_Fits.f at H
  refine calls_of_WC (vs := [.int .i64 a0, .int .u64 a1]) Try.func21 (c := C21) (n := 14) (by kernel_rfl) (by kernel_rfl) (by kernel_rfl) ?_
  refine WC.seq (by kernel_rfl) ?_
  refine WC.reg [0] (by kernel_rfl) (by kernel_rfl) ?_
  refine WR.runk [0] [] [0, 1] (L' := [(0, .int .i64 a0), (1, .int .u64 a1)]) (w' := w0) (by kernel_rfl) ?_
  refine WR.nil ?_
  refine At.go ?_
  refine WC.seq (by kernel_rfl) ?_
  refine WC.reg [0, 1, 2, 3, 4, 5, 6, 7, 8, 9] (by kernel_rfl) (by kernel_rfl) ?_
  refine WR.runk [0, 1, 2] [3, 4, 5, 6, 7, 8, 9] [0, 1, 7] (L' := [(0, .int .i64 a0), (1, .int .u64 a1), (7, .bool (a0 == 64))]) (w' := w0) (by kernel_rfl) ?_
  refine WR.split 7 (b := (a0 == 64)) (by kernel_rfl) (fun hb1 => ?_) (fun hb1 => ?_)
  · replace H := ite_t H hb1
    refine WR.runk [3, 4, 5, 6, 7, 8, 9] [] [4] (L' := [(4, .bool true)]) (w' := w0) (by kernel_rfl) ?_
    refine WR.nil ?_
    refine At.go ?_
    refine WC.ret (by kernel_rfl) ?_
    obtain rfl := Option.some.inj H
    have hS : Sat w0 (rf w0) [] := hS.sel [] (by kernel_rfl)
    exact At.body [.bool true] (by kernel_rfl) ⟨_, rfl, rfl, hS⟩
  · replace H := ite_f H hb1
    refine WR.runk [3, 4, 5] [6, 7, 8, 9] [7, 8, 10] (L' := [(7, .bool false), (8, .int .u64 a1), (10, .int .u64 (IntKind.wrap .u64 a0))]) (w' := w0) (by kernel_rfl) ?_
    refine WR.st (St.ofP (PSt.shift (k := .u64) (k2 := .u64) (t := 22) (t2 := 33) (a := a1) (b := (IntKind.wrap .u64 a0)) .shr (by decide) (.tmp 8) (.tmp 10) (by kernel_rfl) (by kernel_rfl) (by kernel_rfl) (by kernel_rfl) (wrap_u64_nonneg _) ?_))
    refine WR.runk [7, 8, 9] [] [4] (L' := [(4, .bool ((ishr .u64 a1 (IntKind.wrap .u64 a0)) == 0))]) (w' := w0) (by kernel_rfl) ?_
    refine WR.nil ?_
    refine At.go ?_
    refine WC.ret (by kernel_rfl) ?_
    obtain rfl := Option.some.inj H
    have hS : Sat w0 (rf w0) [] := hS.sel [] (by kernel_rfl)
    exact At.body [.bool ((ishr .u64 a1 (IntKind.wrap .u64 a0)) == 0)] (by kernel_rfl) ⟨_, rfl, rfl, hS⟩
end Go.Proofs.Ytamlfkfdpgchiaa
