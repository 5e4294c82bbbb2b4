/-
  Printed by gen.py (my own tool): for each Go function a plain Lean function and the proof that a call of it does what that function says.
-/
import Derived.Test.YtlkgejhnjbbogaaProg
import Derived.Test.YtlkgejhnjbbogaaGL
set_option linter.unusedVariables false
set_option linter.unusedSimpArgs false
set_option maxRecDepth 100000
namespace Go.Proofs.Ytlkgejhnjbbogaa
open Go Go.Gol
theorem E22 : ElemInfo Try.prog 22 5 1 1 := ElemInfo.mk' (.int .u8 0) (by kernel_rfl) (by kernel_rfl) rfl
theorem E44 : ElemInfo Try.prog 44 40 1 8 := ElemInfo.mk' (.int .u64 0) (by kernel_rfl) (by kernel_rfl) rfl
theorem E45 : ElemInfo Try.prog 45 3 1 8 := ElemInfo.mk' (.int .i64 0) (by kernel_rfl) (by kernel_rfl) rfl
noncomputable abbrev C26 : Code := Try.f26.body.getD .skip
noncomputable abbrev C20 : Code := Try.f20.body.getD .skip
noncomputable abbrev C27 : Code := Try.f27.body.getD .skip
noncomputable abbrev C21 : Code := Try.f21.body.getD .skip
noncomputable abbrev C28 : Code := Try.f28.body.getD .skip
noncomputable abbrev C29 : Code := Try.f29.body.getD .skip
noncomputable abbrev C33 : Code := Try.f33.body.getD .skip
noncomputable abbrev C30 : Code := Try.f30.body.getD .skip
noncomputable abbrev C24 : Code := Try.f24.body.getD .skip
noncomputable abbrev C22 : Code := Try.f22.body.getD .skip
noncomputable abbrev C10 : Code := Try.f10.body.getD .skip
noncomputable abbrev C11 : Code := Try.f11.body.getD .skip
noncomputable abbrev C16 : Code := Try.f16.body.getD .skip
noncomputable abbrev C12 : Code := Try.f12.body.getD .skip
noncomputable abbrev C15 : Code := Try.f15.body.getD .skip
noncomputable abbrev C25 : Code := Try.f25.body.getD .skip
noncomputable abbrev C31 : Code := Try.f31.body.getD .skip
noncomputable abbrev C32 : Code := Try.f32.body.getD .skip
noncomputable abbrev C13 : Code := Try.f13.body.getD .skip
noncomputable abbrev C14 : Code := Try.f14.body.getD .skip
noncomputable abbrev C9 : Code := Try.f9.body.getD .skip
noncomputable abbrev C3 : Code := Try.f3.body.getD .skip
noncomputable abbrev C4 : Code := Try.f4.body.getD .skip
noncomputable abbrev C17 : Code := Try.f17.body.getD .skip
noncomputable abbrev C18 : Code := Try.f18.body.getD .skip
noncomputable abbrev C19 : Code := Try.f19.body.getD .skip
noncomputable abbrev C5 : Code := Try.f5.body.getD .skip
noncomputable abbrev C6 : Code := Try.f6.body.getD .skip
noncomputable abbrev C7 : Code := Try.f7.body.getD .skip
noncomputable abbrev C23 : Code := Try.f23.body.getD .skip
noncomputable abbrev C8 : Code := Try.f8.body.getD .skip
def O47 (b : Nat) (x : Int × (List Int) × (List Int) × Int) : HP := fun H => ∃ a : (Option Addr × Nat) × (Option Addr × Nat), SepL [pts b (.cells #[.int .i64 x.1, .slice a.1.1 x.2.1.length a.1.2, .slice a.2.1 x.2.2.1.length a.2.2, .int .i64 x.2.2.2] 47 (0, 0)), osl 40 (r0 (.int .u64)) 1 a.1.1 a.1.2 x.2.1, osl 3 (r0 (.int .i64)) 1 a.2.1 a.2.2 x.2.2.1] H
theorem O47.open {w : World} {B : Rf} {cs : List HP} {b : Nat} {x : Int × (List Int) × (List Int) × Int} (h : Sat w B (O47 b x :: cs)) : ∃ (A0 : Option Addr) (c0 : Nat) (A1 : Option Addr) (c1 : Nat), Sat w B ([pts b (.cells #[.int .i64 x.1, .slice A0 x.2.1.length c0, .slice A1 x.2.2.1.length c1, .int .i64 x.2.2.2] 47 (0, 0)), osl 40 (r0 (.int .u64)) 1 A0 c0 x.2.1, osl 3 (r0 (.int .i64)) 1 A1 c1 x.2.2.1] ++ cs) := by
  obtain ⟨a, h⟩ := Sat.ex h
  exact ⟨a.1.1, a.1.2, a.2.1, a.2.2, Sat.op h⟩
theorem O47.close {w : World} {B : Rf} {cs : List HP} {b : Nat} (x : Int × (List Int) × (List Int) × Int) (A0 : Option Addr) (c0 : Nat) (A1 : Option Addr) (c1 : Nat) (h : Sat w B ([pts b (.cells #[.int .i64 x.1, .slice A0 x.2.1.length c0, .slice A1 x.2.2.1.length c1, .int .i64 x.2.2.2] 47 (0, 0)), osl 40 (r0 (.int .u64)) 1 A0 c0 x.2.1, osl 3 (r0 (.int .i64)) 1 A1 c1 x.2.2.1] ++ cs)) : Sat w B (O47 b x :: cs) := Sat.mono1 (c := SepL [pts b (.cells #[.int .i64 x.1, .slice A0 x.2.1.length c0, .slice A1 x.2.2.1.length c1, .int .i64 x.2.2.2] 47 (0, 0)), osl 40 (r0 (.int .u64)) 1 A0 c0 x.2.1, osl 3 (r0 (.int .i64)) 1 A1 c1 x.2.2.1]) (fun H h => ⟨((A0, c0), (A1, c1)), h⟩) (Sat.cl _ h)
theorem P47.open {H : Heap} {v : Value} {o : Option (Int × (List Int) × (List Int) × Int)} (h : Gol.rd H (.ptr 47 (.pair (.int .i64) (.pair (.slice 40 (.int .u64)) (.pair (.slice 3 (.int .i64)) (.int .i64))))) [v] o) {y : Int × (List Int) × (List Int) × Int} (e : o = some y) : ∃ (b : Nat) (fr : Nat × Nat) (A0 : Option Addr) (c0 : Nat) (A1 : Option Addr) (c1 : Nat), v = .pointer (some ⟨b, 0, none⟩) ∧ H b = some (.cells #[.int .i64 y.1, .slice A0 y.2.1.length c0, .slice A1 y.2.2.1.length c1, .int .i64 y.2.2.2] 47 fr) ∧ rdS (r0 (.int .u64)) 1 H A0 c0 y.2.1 ∧ rdS (r0 (.int .i64)) 1 H A1 c1 y.2.2.1 := by
  obtain ⟨b, cells, fr, hv, hb, hr⟩ := rd_ptr_some h e
  obtain ⟨_, _, e0, g0, z0, ⟨_, _, e1, g1, ⟨A0, c0, z1, R0⟩, ⟨_, _, e2, g2, ⟨A1, c1, z2, R1⟩, z3⟩⟩⟩ := hr
  have z0' := z0; replace z0' : _ = ([.int .i64 y.1] : List Value) := z0'
  have z1' := z1; replace z1' : _ = ([.slice A0 y.2.1.length c0] : List Value) := z1'
  have z2' := z2; replace z2' : _ = ([.slice A1 y.2.2.1.length c1] : List Value) := z2'
  have z3' := z3; replace z3' : _ = ([.int .i64 y.2.2.2] : List Value) := z3'
  have hc : cells = #[.int .i64 y.1, .slice A0 y.2.1.length c0, .slice A1 y.2.2.1.length c1, .int .i64 y.2.2.2] := by apply Array.ext'; rw [e0, z0', e1, z1', e2, z2', z3']; rfl
  subst hc
  exact ⟨b, fr, A0, c0, A1, c1, hv, hb, R0, R1⟩
theorem P47.mk {H : Heap} {b : Nat} {fr : Nat × Nat} {y : Int × (List Int) × (List Int) × Int} {A0 : Option Addr} {c0 : Nat} {A1 : Option Addr} {c1 : Nat} (hb : H b = some (.cells #[.int .i64 y.1, .slice A0 y.2.1.length c0, .slice A1 y.2.2.1.length c1, .int .i64 y.2.2.2] 47 fr)) (R0 : rdS (r0 (.int .u64)) 1 H A0 c0 y.2.1) (R1 : rdS (r0 (.int .i64)) 1 H A1 c1 y.2.2.1) : Gol.rd H (.ptr 47 (.pair (.int .i64) (.pair (.slice 40 (.int .u64)) (.pair (.slice 3 (.int .i64)) (.int .i64))))) [.pointer (some ⟨b, 0, none⟩)] (some y) := ⟨b, _, fr, rfl, hb, ⟨[.int .i64 y.1], [.slice A0 y.2.1.length c0, .slice A1 y.2.2.1.length c1, .int .i64 y.2.2.2], rfl, rfl, rfl, ⟨[.slice A0 y.2.1.length c0], [.slice A1 y.2.2.1.length c1, .int .i64 y.2.2.2], rfl, rfl, ⟨A0, c0, rfl, (rdS.r0up R0)⟩, ⟨[.slice A1 y.2.2.1.length c1], [.int .i64 y.2.2.2], rfl, rfl, ⟨A1, c1, rfl, (rdS.r0up R1)⟩, rfl⟩⟩⟩⟩
theorem O47.rd (b : Nat) (x : Int × (List Int) × (List Int) × Int) (H : Heap) (h : O47 b x H) : Gol.rd H (.ptr 47 (.pair (.int .i64) (.pair (.slice 40 (.int .u64)) (.pair (.slice 3 (.int .i64)) (.int .i64))))) [.pointer (some ⟨b, 0, none⟩)] (some x) := by
  obtain ⟨a, h⟩ := h
  exact P47.mk (SepL.blockAt 0 h rfl) (SepL.rdAt 1 h rfl) (SepL.rdAt 2 h rfl)
def O52 (b : Nat) (x : Int × Int × (List Int)) : HP := fun H => ∃ a : (Option Addr × Nat), SepL [pts b (.cells #[.int .i64 x.1, .int .i64 x.2.1, .slice a.1 x.2.2.length a.2] 52 (0, 0)), osl 40 (r0 (.int .u64)) 1 a.1 a.2 x.2.2] H
theorem O52.open {w : World} {B : Rf} {cs : List HP} {b : Nat} {x : Int × Int × (List Int)} (h : Sat w B (O52 b x :: cs)) : ∃ (A0 : Option Addr) (c0 : Nat), Sat w B ([pts b (.cells #[.int .i64 x.1, .int .i64 x.2.1, .slice A0 x.2.2.length c0] 52 (0, 0)), osl 40 (r0 (.int .u64)) 1 A0 c0 x.2.2] ++ cs) := by
  obtain ⟨a, h⟩ := Sat.ex h
  exact ⟨a.1, a.2, Sat.op h⟩
theorem O52.close {w : World} {B : Rf} {cs : List HP} {b : Nat} (x : Int × Int × (List Int)) (A0 : Option Addr) (c0 : Nat) (h : Sat w B ([pts b (.cells #[.int .i64 x.1, .int .i64 x.2.1, .slice A0 x.2.2.length c0] 52 (0, 0)), osl 40 (r0 (.int .u64)) 1 A0 c0 x.2.2] ++ cs)) : Sat w B (O52 b x :: cs) := Sat.mono1 (c := SepL [pts b (.cells #[.int .i64 x.1, .int .i64 x.2.1, .slice A0 x.2.2.length c0] 52 (0, 0)), osl 40 (r0 (.int .u64)) 1 A0 c0 x.2.2]) (fun H h => ⟨(A0, c0), h⟩) (Sat.cl _ h)
theorem P52.open {H : Heap} {v : Value} {o : Option (Int × Int × (List Int))} (h : Gol.rd H (.ptr 52 (.pair (.int .i64) (.pair (.int .i64) (.slice 40 (.int .u64))))) [v] o) {y : Int × Int × (List Int)} (e : o = some y) : ∃ (b : Nat) (fr : Nat × Nat) (A0 : Option Addr) (c0 : Nat), v = .pointer (some ⟨b, 0, none⟩) ∧ H b = some (.cells #[.int .i64 y.1, .int .i64 y.2.1, .slice A0 y.2.2.length c0] 52 fr) ∧ rdS (r0 (.int .u64)) 1 H A0 c0 y.2.2 := by
  obtain ⟨b, cells, fr, hv, hb, hr⟩ := rd_ptr_some h e
  obtain ⟨_, _, e0, g0, z0, ⟨_, _, e1, g1, z1, ⟨A0, c0, z2, R0⟩⟩⟩ := hr
  have z0' := z0; replace z0' : _ = ([.int .i64 y.1] : List Value) := z0'
  have z1' := z1; replace z1' : _ = ([.int .i64 y.2.1] : List Value) := z1'
  have z2' := z2; replace z2' : _ = ([.slice A0 y.2.2.length c0] : List Value) := z2'
  have hc : cells = #[.int .i64 y.1, .int .i64 y.2.1, .slice A0 y.2.2.length c0] := by apply Array.ext'; rw [e0, z0', e1, z1', z2']; rfl
  subst hc
  exact ⟨b, fr, A0, c0, hv, hb, R0⟩
theorem P52.mk {H : Heap} {b : Nat} {fr : Nat × Nat} {y : Int × Int × (List Int)} {A0 : Option Addr} {c0 : Nat} (hb : H b = some (.cells #[.int .i64 y.1, .int .i64 y.2.1, .slice A0 y.2.2.length c0] 52 fr)) (R0 : rdS (r0 (.int .u64)) 1 H A0 c0 y.2.2) : Gol.rd H (.ptr 52 (.pair (.int .i64) (.pair (.int .i64) (.slice 40 (.int .u64))))) [.pointer (some ⟨b, 0, none⟩)] (some y) := ⟨b, _, fr, rfl, hb, ⟨[.int .i64 y.1], [.int .i64 y.2.1, .slice A0 y.2.2.length c0], rfl, rfl, rfl, ⟨[.int .i64 y.2.1], [.slice A0 y.2.2.length c0], rfl, rfl, rfl, ⟨A0, c0, rfl, (rdS.r0up R0)⟩⟩⟩⟩
theorem O52.rd (b : Nat) (x : Int × Int × (List Int)) (H : Heap) (h : O52 b x H) : Gol.rd H (.ptr 52 (.pair (.int .i64) (.pair (.int .i64) (.slice 40 (.int .u64))))) [.pointer (some ⟨b, 0, none⟩)] (some x) := by
  obtain ⟨a, h⟩ := h
  exact P52.mk (SepL.blockAt 0 h rfl) (SepL.rdAt 1 h rfl)
/-! ### 26 colophon/pack.need -/
def pack_need.f (a0 : Int) (a1 : Int) : Option Int := some (wi (Int.tdiv (wi ((wi (a0 * a1)) + 63)) 64))
def pack_need.post (w : World) (r : Int) (v : Value) (w' : World) : Prop := v = (.int .i64 r : Value) ∧ Sat w' (rf w) []
theorem pack_need.calls (w0 : World) (a0 : Int) (a1 : Int) (r : Int) (H : pack_need.f a0 a1 = some r) :
    Calls Try.prog 26 #[.int .i64 a0, .int .i64 a1] w0 (fun e w' => ∃ v, e = .returned v ∧ pack_need.post w0 r v w') := by
  have hS : Sat w0 (rf w0) [] := Sat.start w0
  unfold pack_need.f at H
  refine calls_of_WC (vs := [.int .i64 a0, .int .i64 a1]) Try.func26 (c := C26) (n := 10) (by kernel_rfl) (by kernel_rfl) (by kernel_rfl) ?_
  refine WC.seq (by kernel_rfl) ?_
  refine WC.reg [0] (by kernel_rfl) (by kernel_rfl) ?_
  refine WR.runk [0] [] [0, 1] (L' := [(0, .int .i64 a0), (1, .int .i64 a1)]) (w' := w0) (by kernel_rfl) ?_
  refine WR.nil ?_
  refine At.go ?_
  refine WC.seq (by kernel_rfl) ?_
  refine WC.reg [0, 1, 2, 3, 4, 5] (by kernel_rfl) (by kernel_rfl) ?_
  refine WR.runk [0, 1, 2, 3, 4, 5] [] [4] (L' := [(4, .int .i64 (wi (Int.tdiv (wi ((wi (a0 * a1)) + 63)) 64)))]) (w' := w0) (by kernel_rfl) ?_
  refine WR.nil ?_
  refine At.go ?_
  refine WC.ret (by kernel_rfl) ?_
  obtain rfl := Option.some.inj H
  have hS : Sat w0 (rf w0) [] := hS.sel [] (by kernel_rfl)
  exact At.body [.int .i64 (wi (Int.tdiv (wi ((wi (a0 * a1)) + 63)) 64))] (by kernel_rfl) ⟨_, rfl, rfl, hS⟩
/-! ### 20 colophon/pack.New -/
def pack_New.f (a0 : Int) (a1 : Int) : Option ((Option (Int × Int × (List Int))) × Int) := (if decide (a0 < 1) then some (none, 2) else (if decide (a0 > 64) then some (none, 2) else (if decide (a1 < 0) then some (none, 2) else (if decide (a1 > 4194304) then some (none, 2) else ((pack_need.f a0 a1).bind fun r5 => ((make? 17592186044416 0 r5).bind fun y14 => some (some (a0, a1, y14), 0)))))))
def pack_New.post (w : World) (r : (Option (Int × Int × (List Int))) × Int) (v : Value) (w' : World) : Prop := ∃ (v0 : Value), v = .tuple #[v0, .int .i64 r.2] ∧ Sat w' (rf w) [optP O52 v0 r.1]
theorem pack_New.calls (w0 : World) (a0 : Int) (a1 : Int) (r : (Option (Int × Int × (List Int))) × Int) (H : pack_New.f a0 a1 = some r) :
    Calls Try.prog 20 #[.int .i64 a0, .int .i64 a1] w0 (fun e w' => ∃ v, e = .returned v ∧ pack_New.post w0 r v w') := by
  have hS : Sat w0 (rf w0) [] := Sat.start w0
  unfold pack_New.f at H
  refine calls_of_WC (vs := [.int .i64 a0, .int .i64 a1]) Try.func20 (c := C20) (n := 28) (by kernel_rfl) (by kernel_rfl) (by kernel_rfl) ?_
  refine WC.seq (by kernel_rfl) ?_
  refine WC.reg [0, 1] (by kernel_rfl) (by kernel_rfl) ?_
  refine WR.runk [0, 1] [] [0, 1] (L' := [(0, .int .i64 a0), (1, .int .i64 a1)]) (w' := w0) (by kernel_rfl) ?_
  refine WR.nil ?_
  refine At.go ?_
  refine WC.seq (by kernel_rfl) ?_
  refine WC.seq (by kernel_rfl) ?_
  refine WC.reg [0, 1, 2, 3, 4, 5, 6, 7, 8, 9, 10, 11, 12, 13] (by kernel_rfl) (by kernel_rfl) ?_
  refine WR.runk [0, 1, 2] [3, 4, 5, 6, 7, 8, 9, 10, 11, 12, 13] [0, 1, 8] (L' := [(0, .int .i64 a0), (1, .int .i64 a1), (8, .bool (decide (a0 < 1)))]) (w' := w0) (by kernel_rfl) ?_
  refine WR.split 8 (b := decide (a0 < 1)) (by kernel_rfl) (fun hb1 => ?_) (fun hb1 => ?_)
  · replace H := ite_t H hb1
    refine WR.runk [3, 4, 5, 6, 7, 8, 9, 10, 11, 12, 13] [] [0, 1, 19] (L' := [(0, .int .i64 a0), (1, .int .i64 a1), (19, .bool true)]) (w' := w0) (by kernel_rfl) ?_
    refine WR.nil ?_
    refine At.go ?_
    refine WC.condT (by kernel_rfl) (by kernel_rfl) (by kernel_rfl) ?_
    refine WC.seq (by kernel_rfl) ?_
    refine WC.reg [0, 1] (by kernel_rfl) (by kernel_rfl) ?_
    refine WR.runk [0, 1] [] [4, 5] (L' := [(4, .pointer none), (5, .int .i64 2)]) (w' := w0) (by kernel_rfl) ?_
    refine WR.nil ?_
    refine At.go ?_
    refine WC.ret (by kernel_rfl) ?_
    refine At.thenRet ?_
    obtain rfl := Option.some.inj H
    have hS := optP.nil (O := O52) hS
    have hS : Sat w0 (rf w0) [optP O52 (.pointer none) none] := hS.sel [0] (by kernel_rfl)
    exact At.body [.pointer none, .int .i64 2] (by kernel_rfl) ⟨_, rfl, _, rfl, hS⟩
  · replace H := ite_f H hb1
    refine WR.runk [3, 4, 5, 6] [7, 8, 9, 10, 11, 12, 13] [0, 1, 12] (L' := [(0, .int .i64 a0), (1, .int .i64 a1), (12, .bool (decide (a0 > 64)))]) (w' := w0) (by kernel_rfl) ?_
    refine WR.split 12 (b := decide (a0 > 64)) (by kernel_rfl) (fun hb2 => ?_) (fun hb2 => ?_)
    · replace H := ite_t H hb2
      refine WR.runk [7, 8, 9, 10, 11, 12, 13] [] [0, 1, 19] (L' := [(0, .int .i64 a0), (1, .int .i64 a1), (19, .bool true)]) (w' := w0) (by kernel_rfl) ?_
      refine WR.nil ?_
      refine At.go ?_
      refine WC.condT (by kernel_rfl) (by kernel_rfl) (by kernel_rfl) ?_
      refine WC.seq (by kernel_rfl) ?_
      refine WC.reg [0, 1] (by kernel_rfl) (by kernel_rfl) ?_
      refine WR.runk [0, 1] [] [4, 5] (L' := [(4, .pointer none), (5, .int .i64 2)]) (w' := w0) (by kernel_rfl) ?_
      refine WR.nil ?_
      refine At.go ?_
      refine WC.ret (by kernel_rfl) ?_
      refine At.thenRet ?_
      obtain rfl := Option.some.inj H
      have hS := optP.nil (O := O52) hS
      have hS : Sat w0 (rf w0) [optP O52 (.pointer none) none] := hS.sel [0] (by kernel_rfl)
      exact At.body [.pointer none, .int .i64 2] (by kernel_rfl) ⟨_, rfl, _, rfl, hS⟩
    · replace H := ite_f H hb2
      refine WR.runk [7, 8, 9, 10] [11, 12, 13] [0, 1, 16] (L' := [(0, .int .i64 a0), (1, .int .i64 a1), (16, .bool (decide (a1 < 0)))]) (w' := w0) (by kernel_rfl) ?_
      refine WR.split 16 (b := decide (a1 < 0)) (by kernel_rfl) (fun hb3 => ?_) (fun hb3 => ?_)
      · replace H := ite_t H hb3
        refine WR.runk [11, 12, 13] [] [0, 1, 19] (L' := [(0, .int .i64 a0), (1, .int .i64 a1), (19, .bool true)]) (w' := w0) (by kernel_rfl) ?_
        refine WR.nil ?_
        refine At.go ?_
        refine WC.condT (by kernel_rfl) (by kernel_rfl) (by kernel_rfl) ?_
        refine WC.seq (by kernel_rfl) ?_
        refine WC.reg [0, 1] (by kernel_rfl) (by kernel_rfl) ?_
        refine WR.runk [0, 1] [] [4, 5] (L' := [(4, .pointer none), (5, .int .i64 2)]) (w' := w0) (by kernel_rfl) ?_
        refine WR.nil ?_
        refine At.go ?_
        refine WC.ret (by kernel_rfl) ?_
        refine At.thenRet ?_
        obtain rfl := Option.some.inj H
        have hS := optP.nil (O := O52) hS
        have hS : Sat w0 (rf w0) [optP O52 (.pointer none) none] := hS.sel [0] (by kernel_rfl)
        exact At.body [.pointer none, .int .i64 2] (by kernel_rfl) ⟨_, rfl, _, rfl, hS⟩
      · replace H := ite_f H hb3
        refine WR.runk [11, 12, 13] [] [0, 1, 19] (L' := [(0, .int .i64 a0), (1, .int .i64 a1), (19, .bool (decide (a1 > 4194304)))]) (w' := w0) (by kernel_rfl) ?_
        refine WR.nil ?_
        refine At.go ?_
        refine WC.cond (by kernel_rfl) (decide (a1 > 4194304)) (by kernel_rfl) (by kernel_rfl) (fun hb4 => ?_) (fun hb4 => ?_)
        · replace H := ite_t H hb4
          refine WC.seq (by kernel_rfl) ?_
          refine WC.reg [0, 1] (by kernel_rfl) (by kernel_rfl) ?_
          refine WR.runk [0, 1] [] [4, 5] (L' := [(4, .pointer none), (5, .int .i64 2)]) (w' := w0) (by kernel_rfl) ?_
          refine WR.nil ?_
          refine At.go ?_
          refine WC.ret (by kernel_rfl) ?_
          refine At.thenRet ?_
          obtain rfl := Option.some.inj H
          have hS := optP.nil (O := O52) hS
          have hS : Sat w0 (rf w0) [optP O52 (.pointer none) none] := hS.sel [0] (by kernel_rfl)
          exact At.body [.pointer none, .int .i64 2] (by kernel_rfl) ⟨_, rfl, _, rfl, hS⟩
        · replace H := ite_f H hb4
          refine WC.skip (by kernel_rfl) ?_
          refine At.go ?_
          refine WC.seq (by kernel_rfl) ?_
          refine WC.reg [0, 1, 2, 3, 4, 5, 6, 7, 8, 9] (by kernel_rfl) (by kernel_rfl) ?_
          refine WR.runk [0, 1, 2, 3] [4, 5, 6, 7, 8, 9] [20, 21, 22, 23] (L' := [(20, .int .i64 a0), (21, .int .i64 a1), (22, .int .i64 a0), (23, .int .i64 a1)]) (w' := w0) (by kernel_rfl) ?_
          obtain ⟨r5, e6, H⟩ := bind_ex H
          refine WR.st (St.call (by kernel_rfl) (f := 26) (args := #[.int .i64 a0, .int .i64 a1]) (by kernel_rfl) (pack_need.calls w0 a0 a1 r5 e6) ?_)
          rintro _ w12 ⟨rfl, hS13⟩
          have hS : Sat w12 (rf w0) [] := hS.ext hS13
          refine WR.runk [] [5, 6, 7, 8, 9] [20, 21, 24] (L' := [(20, .int .i64 a0), (21, .int .i64 a1), (24, .int .i64 r5)]) (w' := w12) (by kernel_rfl) ?_
          obtain ⟨y14, e15, H⟩ := bind_ex H
          refine WR.st (St.make' (t := 44) (e := 40) (sz := 1) (bytes := 8) (k1 := .i64) (k2 := .i64) (R := (r0 (.int .u64))) (.tmp 24) (.tmp 24) (by kernel_rfl) (by kernel_rfl) (.int .u64 0) (by kernel_rfl) (by kernel_rfl) rfl (by kernel_rfl) hS (by kernel_rfl) (by kernel_rfl) 17592186044416 (by kernel_rfl) (by kernel_rfl) e15 (fun A16 c17 w18 hS => ?_))
          refine WR.runk [6] [7, 8, 9] [26] (L' := [(26, .agg #[.int .i64 a0, .int .i64 a1, .slice A16 y14.length c17])]) (w' := w18) (by kernel_rfl) ?_
          refine WR.st (St.box hS (by kernel_rfl) (.cells #[.int .i64 a0, .int .i64 a1, .slice A16 y14.length c17] 52) (fun b19 => .pointer (some ⟨b19, 0, none⟩)) (fun _ => by kernel_rfl) (fun b19 w20 hS => ?_))
          refine WR.runk [8, 9] [] [4, 5] (L' := [(4, .pointer (some ⟨b19, 0, none⟩)), (5, .int .i64 0)]) (w' := w20) (by kernel_rfl) ?_
          refine WR.nil ?_
          refine At.go ?_
          refine WC.ret (by kernel_rfl) ?_
          obtain rfl := Option.some.inj H
          have hS : Sat w20 (rf w0) [pts b19 (.cells #[.int .i64 a0, .int .i64 a1, .slice A16 y14.length c17] 52 (0, 0)), osl 40 (r0 (.int .u64)) 1 A16 c17 y14] := hS.sel [0, 1] (by kernel_rfl)
          have hS : Sat w20 (rf w0) [O52 b19 (a0, a1, y14)] := O52.close (a0, a1, y14) A16 c17 hS
          have hS : Sat w20 (rf w0) [optP O52 (.pointer (some ⟨b19, 0, none⟩)) (some (a0, a1, y14))] := optP.mk hS
          have hS : Sat w20 (rf w0) [optP O52 (.pointer (some ⟨b19, 0, none⟩)) (some (a0, a1, y14))] := hS.sel [0] (by kernel_rfl)
          exact At.body [.pointer (some ⟨b19, 0, none⟩), .int .i64 0] (by kernel_rfl) ⟨_, rfl, _, rfl, hS⟩
/-! ### 27 colophon/pack.mask -/
def pack_mask.f (a0 : Int) : Option Int := ((chk? (decide (0 ≤ (wi (64 - a0))))).bind fun _ => some (ishr .u64 18446744073709551615 (wi (64 - a0))))
def pack_mask.post (w : World) (r : Int) (v : Value) (w' : World) : Prop := v = (.int .u64 r : Value) ∧ Sat w' (rf w) []
theorem pack_mask.calls (w0 : World) (a0 : Int) (r : Int) (H : pack_mask.f a0 = some r) :
    Calls Try.prog 27 #[.int .i64 a0] w0 (fun e w' => ∃ v, e = .returned v ∧ pack_mask.post w0 r v w') := by
  have hS : Sat w0 (rf w0) [] := Sat.start w0
  unfold pack_mask.f at H
  refine calls_of_WC (vs := [.int .i64 a0]) Try.func27 (c := C27) (n := 6) (by kernel_rfl) (by kernel_rfl) (by kernel_rfl) ?_
  refine WC.seq (by kernel_rfl) ?_
  refine WC.reg [0] (by kernel_rfl) (by kernel_rfl) ?_
  refine WR.runk [0] [] [0] (L' := [(0, .int .i64 a0)]) (w' := w0) (by kernel_rfl) ?_
  refine WR.nil ?_
  refine At.go ?_
  refine WC.seq (by kernel_rfl) ?_
  refine WC.reg [0, 1, 2, 3] (by kernel_rfl) (by kernel_rfl) ?_
  refine WR.runk [0, 1] [2, 3] [4] (L' := [(4, .int .i64 (wi (64 - a0)))]) (w' := w0) (by kernel_rfl) ?_
  obtain ⟨_, e1, H⟩ := bind_ex H
  refine WR.st (St.ofP (PSt.shift (k := .u64) (k2 := .i64) (t := 40) (t2 := 3) (a := 18446744073709551615) (b := (wi (64 - a0))) .shr (by decide) (.const (.int .u64 18446744073709551615)) (.tmp 4) (by kernel_rfl) (by kernel_rfl) (by kernel_rfl) (by kernel_rfl) (of_decide_eq_true (chk?_some e1)) ?_))
  refine WR.runk [3] [] [2] (L' := [(2, .int .u64 (ishr .u64 18446744073709551615 (wi (64 - a0))))]) (w' := w0) (by kernel_rfl) ?_
  refine WR.nil ?_
  refine At.go ?_
  refine WC.ret (by kernel_rfl) ?_
  obtain rfl := Option.some.inj H
  have hS : Sat w0 (rf w0) [] := hS.sel [] (by kernel_rfl)
  exact At.body [.int .u64 (ishr .u64 18446744073709551615 (wi (64 - a0)))] (by kernel_rfl) ⟨_, rfl, rfl, hS⟩
/-! ### 21 (*colophon/pack.Ints).Set -/
def pack_Ints_Set.f (p0 : Int × Int × (List Int)) (a1 : Int) (a2 : Int) : Option (Bool × (Int × Int × (List Int))) := (if decide (a1 < 0) then some (false, p0) else (if decide (a1 ≥ p0.2.1) then some (false, p0) else ((pack_mask.f p0.1).bind fun r5 => (if decide (a2 > r5) then some (false, p0) else ((pack_mask.f p0.1).bind fun r15 => ((at? p0.2.2 (wi (Int.tdiv (wi (a1 * p0.1)) 64))).bind fun v26 => ((chk? (decide (0 ≤ (Int.tmod (wi (a1 * p0.1)) 64)))).bind fun _ => ((chk? (decide (0 ≤ (Int.tmod (wi (a1 * p0.1)) 64)))).bind fun _ => ((set? p0.2.2 (wi (Int.tdiv (wi (a1 * p0.1)) 64)) (ior .u64 (iandn .u64 v26 (ishl .u64 r15 (Int.tmod (wi (a1 * p0.1)) 64))) (ishl .u64 a2 (Int.tmod (wi (a1 * p0.1)) 64)))).bind fun y30 => (if decide (wi ((Int.tmod (wi (a1 * p0.1)) 64) + p0.1) > 64) then ((at? y30 (wi ((wi (Int.tdiv (wi (a1 * p0.1)) 64)) + 1))).bind fun v37 => ((chk? (decide (0 ≤ (wi (64 - (Int.tmod (wi (a1 * p0.1)) 64)))))).bind fun _ => ((chk? (decide (0 ≤ (wi (64 - (Int.tmod (wi (a1 * p0.1)) 64)))))).bind fun _ => ((set? y30 (wi ((wi (Int.tdiv (wi (a1 * p0.1)) 64)) + 1)) (ior .u64 (iandn .u64 v37 (ishr .u64 r15 (wi (64 - (Int.tmod (wi (a1 * p0.1)) 64))))) (ishr .u64 a2 (wi (64 - (Int.tmod (wi (a1 * p0.1)) 64)))))).bind fun y41 => some (true, (p0.1, p0.2.1, y41)))))) else some (true, (p0.1, p0.2.1, y30))))))))))))
def pack_Ints_Set.post (B : Rf) (b0 : Nat) (p0 : Int × Int × (List Int)) (w : World) (r : Bool × (Int × Int × (List Int))) (v : Value) (w' : World) : Prop := v = (.bool r.1 : Value) ∧ Sat w' B [O52 b0 r.2]
theorem pack_Ints_Set.calls (B : Rf) (w0 : World) (b0 : Nat) (p0 : Int × Int × (List Int)) (hS : Sat w0 B [O52 b0 p0]) (a1 : Int) (a2 : Int) (r : Bool × (Int × Int × (List Int))) (H : pack_Ints_Set.f p0 a1 a2 = some r) :
    Calls Try.prog 21 #[.pointer (some ⟨b0, 0, none⟩), .int .i64 a1, .int .u64 a2] w0 (fun e w' => ∃ v, e = .returned v ∧ pack_Ints_Set.post B b0 p0 w0 r v w') := by
  unfold pack_Ints_Set.f at H
  refine calls_of_WC (vs := [.pointer (some ⟨b0, 0, none⟩), .int .i64 a1, .int .u64 a2]) Try.func21 (c := C21) (n := 102) (by kernel_rfl) (by kernel_rfl) (by kernel_rfl) ?_
  refine WC.seq (by kernel_rfl) ?_
  refine WC.reg [0] (by kernel_rfl) (by kernel_rfl) ?_
  refine WR.runk [0] [] [0, 1, 2] (L' := [(0, .pointer (some ⟨b0, 0, none⟩)), (1, .int .i64 a1), (2, .int .u64 a2)]) (w' := w0) (by kernel_rfl) ?_
  refine WR.nil ?_
  refine At.go ?_
  refine WC.seq (by kernel_rfl) ?_
  refine WC.seq (by kernel_rfl) ?_
  refine WC.reg [0, 1, 2, 3, 4, 5, 6, 7, 8, 9, 10, 11, 12, 13, 14, 15, 16, 17, 18, 19, 20, 21, 22] (by kernel_rfl) (by kernel_rfl) ?_
  refine WR.runk [0, 1, 2, 3, 4, 5, 6] [7, 8, 9, 10, 11, 12, 13, 14, 15, 16, 17, 18, 19, 20, 21, 22] [0, 1, 2, 17] (L' := [(0, .pointer (some ⟨b0, 0, none⟩)), (1, .int .i64 a1), (2, .int .u64 a2), (17, .bool (decide (a1 < 0)))]) (w' := w0) (by kernel_rfl) ?_
  refine WR.split 17 (b := decide (a1 < 0)) (by kernel_rfl) (fun hb1 => ?_) (fun hb1 => ?_)
  · replace H := ite_t H hb1
    refine WR.runk [7, 8, 9, 10, 11, 12, 13, 14, 15, 16, 17, 18, 19, 20, 21, 22] [] [0, 1, 2, 33] (L' := [(0, .pointer (some ⟨b0, 0, none⟩)), (1, .int .i64 a1), (2, .int .u64 a2), (33, .bool true)]) (w' := w0) (by kernel_rfl) ?_
    refine WR.nil ?_
    refine At.go ?_
    refine WC.condT (by kernel_rfl) (by kernel_rfl) (by kernel_rfl) ?_
    refine WC.seq (by kernel_rfl) ?_
    refine WC.reg [0] (by kernel_rfl) (by kernel_rfl) ?_
    refine WR.runk [0] [] [6] (L' := [(6, .bool false)]) (w' := w0) (by kernel_rfl) ?_
    refine WR.nil ?_
    refine At.go ?_
    refine WC.ret (by kernel_rfl) ?_
    refine At.thenRet ?_
    obtain rfl := Option.some.inj H
    have hS : Sat w0 B [O52 b0 p0] := hS.sel [0] (by kernel_rfl)
    exact At.body [.bool false] (by kernel_rfl) ⟨_, rfl, rfl, hS⟩
  · replace H := ite_f H hb1
    refine WR.runk [7, 8, 9, 10] [11, 12, 13, 14, 15, 16, 17, 18, 19, 20, 21, 22] [0, 1, 2, 17, 18, 21] (L' := [(0, .pointer (some ⟨b0, 0, none⟩)), (1, .int .i64 a1), (2, .int .u64 a2), (17, .bool false), (18, .int .i64 a1), (21, .pointer (some ⟨b0, 1, none⟩))]) (w' := w0) (by kernel_rfl) ?_
    obtain ⟨A2, c3, hS⟩ := O52.open hS
    have hS : Sat w0 B [pts b0 (.cells #[.int .i64 p0.1, .int .i64 p0.2.1, .slice A2 p0.2.2.length c3] 52 (0, 0)), osl 40 (r0 (.int .u64)) 1 A2 c3 p0.2.2] := hS
    refine WR.st (St.ofR (RSt.loadObj (t := 3) (k := 1) (v := .int .i64 p0.2.1) (.tmp 21) (by kernel_rfl) (by kernel_rfl) (by kernel_rfl) 0 hS rfl (by kernel_rfl) rfl ?_))
    refine WR.runk [12, 13, 14] [15, 16, 17, 18, 19, 20, 21, 22] [0, 1, 2, 25] (L' := [(0, .pointer (some ⟨b0, 0, none⟩)), (1, .int .i64 a1), (2, .int .u64 a2), (25, .bool (decide (a1 ≥ p0.2.1)))]) (w' := w0) (by kernel_rfl) ?_
    refine WR.split 25 (b := decide (a1 ≥ p0.2.1)) (by kernel_rfl) (fun hb4 => ?_) (fun hb4 => ?_)
    · replace H := ite_t H hb4
      refine WR.runk [15, 16, 17, 18, 19, 20, 21, 22] [] [0, 1, 2, 33] (L' := [(0, .pointer (some ⟨b0, 0, none⟩)), (1, .int .i64 a1), (2, .int .u64 a2), (33, .bool true)]) (w' := w0) (by kernel_rfl) ?_
      refine WR.nil ?_
      refine At.go ?_
      refine WC.condT (by kernel_rfl) (by kernel_rfl) (by kernel_rfl) ?_
      refine WC.seq (by kernel_rfl) ?_
      refine WC.reg [0] (by kernel_rfl) (by kernel_rfl) ?_
      refine WR.runk [0] [] [6] (L' := [(6, .bool false)]) (w' := w0) (by kernel_rfl) ?_
      refine WR.nil ?_
      refine At.go ?_
      refine WC.ret (by kernel_rfl) ?_
      refine At.thenRet ?_
      obtain rfl := Option.some.inj H
      have hS : Sat w0 B [pts b0 (.cells #[.int .i64 p0.1, .int .i64 p0.2.1, .slice A2 p0.2.2.length c3] 52 (0, 0)), osl 40 (r0 (.int .u64)) 1 A2 c3 p0.2.2] := hS.sel [0, 1] (by kernel_rfl)
      have hS : Sat w0 B [O52 b0 p0] := O52.close p0 A2 c3 hS
      have hS : Sat w0 B [O52 b0 p0] := hS.sel [0] (by kernel_rfl)
      exact At.body [.bool false] (by kernel_rfl) ⟨_, rfl, rfl, hS⟩
    · replace H := ite_f H hb4
      refine WR.runk [15, 16, 17, 18] [19, 20, 21, 22] [0, 1, 2, 25, 26, 29] (L' := [(0, .pointer (some ⟨b0, 0, none⟩)), (1, .int .i64 a1), (2, .int .u64 a2), (25, .bool false), (26, .int .u64 a2), (29, .pointer (some ⟨b0, 0, none⟩))]) (w' := w0) (by kernel_rfl) ?_
      refine WR.st (St.ofR (RSt.loadObj (t := 3) (k := 0) (v := .int .i64 p0.1) (.tmp 29) (by kernel_rfl) (by kernel_rfl) (by kernel_rfl) 0 hS rfl (by kernel_rfl) rfl ?_))
      refine WR.runk [] [20, 21, 22] [0, 1, 2, 25, 26, 30] (L' := [(0, .pointer (some ⟨b0, 0, none⟩)), (1, .int .i64 a1), (2, .int .u64 a2), (25, .bool false), (26, .int .u64 a2), (30, .int .i64 p0.1)]) (w' := w0) (by kernel_rfl) ?_
      obtain ⟨r5, e6, H⟩ := bind_ex H
      refine WR.st (St.call (by kernel_rfl) (f := 27) (args := #[.int .i64 p0.1]) (by kernel_rfl) (pack_mask.calls w0 p0.1 r5 e6) ?_)
      rintro _ w12 ⟨rfl, hS13⟩
      have hS : Sat w12 B [pts b0 (.cells #[.int .i64 p0.1, .int .i64 p0.2.1, .slice A2 p0.2.2.length c3] 52 (0, 0)), osl 40 (r0 (.int .u64)) 1 A2 c3 p0.2.2] := hS.ext hS13
      refine WR.runk [21, 22] [] [0, 1, 2, 33] (L' := [(0, .pointer (some ⟨b0, 0, none⟩)), (1, .int .i64 a1), (2, .int .u64 a2), (33, .bool (decide (a2 > r5)))]) (w' := w12) (by kernel_rfl) ?_
      refine WR.nil ?_
      refine At.go ?_
      refine WC.cond (by kernel_rfl) (decide (a2 > r5)) (by kernel_rfl) (by kernel_rfl) (fun hb14 => ?_) (fun hb14 => ?_)
      · replace H := ite_t H hb14
        refine WC.seq (by kernel_rfl) ?_
        refine WC.reg [0] (by kernel_rfl) (by kernel_rfl) ?_
        refine WR.runk [0] [] [6] (L' := [(6, .bool false)]) (w' := w12) (by kernel_rfl) ?_
        refine WR.nil ?_
        refine At.go ?_
        refine WC.ret (by kernel_rfl) ?_
        refine At.thenRet ?_
        obtain rfl := Option.some.inj H
        have hS : Sat w12 B [pts b0 (.cells #[.int .i64 p0.1, .int .i64 p0.2.1, .slice A2 p0.2.2.length c3] 52 (0, 0)), osl 40 (r0 (.int .u64)) 1 A2 c3 p0.2.2] := hS.sel [0, 1] (by kernel_rfl)
        have hS : Sat w12 B [O52 b0 p0] := O52.close p0 A2 c3 hS
        have hS : Sat w12 B [O52 b0 p0] := hS.sel [0] (by kernel_rfl)
        exact At.body [.bool false] (by kernel_rfl) ⟨_, rfl, rfl, hS⟩
      · replace H := ite_f H hb14
        refine WC.skip (by kernel_rfl) ?_
        refine At.go ?_
        refine WC.seq (by kernel_rfl) ?_
        refine WC.reg [0, 1, 2, 3, 4, 5, 6] (by kernel_rfl) (by kernel_rfl) ?_
        refine WR.runk [0, 1, 2, 3] [4, 5, 6] [0, 2, 34, 37] (L' := [(0, .pointer (some ⟨b0, 0, none⟩)), (2, .int .u64 a2), (34, .int .i64 a1), (37, .pointer (some ⟨b0, 0, none⟩))]) (w' := w12) (by kernel_rfl) ?_
        refine WR.st (St.ofR (RSt.loadObj (t := 3) (k := 0) (v := .int .i64 p0.1) (.tmp 37) (by kernel_rfl) (by kernel_rfl) (by kernel_rfl) 0 hS rfl (by kernel_rfl) rfl ?_))
        refine WR.runk [5, 6] [] [0, 2, 7] (L' := [(0, .pointer (some ⟨b0, 0, none⟩)), (2, .int .u64 a2), (7, .int .i64 (wi (a1 * p0.1)))]) (w' := w12) (by kernel_rfl) ?_
        refine WR.nil ?_
        refine At.go ?_
        refine WC.seq (by kernel_rfl) ?_
        refine WC.reg [0, 1, 2, 3, 4, 5] (by kernel_rfl) (by kernel_rfl) ?_
        refine WR.runk [0, 1, 2, 3, 4, 5] [] [0, 2, 8, 9] (L' := [(0, .pointer (some ⟨b0, 0, none⟩)), (2, .int .u64 a2), (8, .int .i64 (wi (Int.tdiv (wi (a1 * p0.1)) 64))), (9, .int .i64 (Int.tmod (wi (a1 * p0.1)) 64))]) (w' := w12) (by kernel_rfl) ?_
        refine WR.nil ?_
        refine At.go ?_
        refine WC.seq (by kernel_rfl) ?_
        refine WC.reg [0, 1, 2, 3, 4, 5] (by kernel_rfl) (by kernel_rfl) ?_
        refine WR.runk [0, 1, 2] [3, 4, 5] [0, 2, 8, 9, 46] (L' := [(0, .pointer (some ⟨b0, 0, none⟩)), (2, .int .u64 a2), (8, .int .i64 (wi (Int.tdiv (wi (a1 * p0.1)) 64))), (9, .int .i64 (Int.tmod (wi (a1 * p0.1)) 64)), (46, .pointer (some ⟨b0, 0, none⟩))]) (w' := w12) (by kernel_rfl) ?_
        refine WR.st (St.ofR (RSt.loadObj (t := 3) (k := 0) (v := .int .i64 p0.1) (.tmp 46) (by kernel_rfl) (by kernel_rfl) (by kernel_rfl) 0 hS rfl (by kernel_rfl) rfl ?_))
        refine WR.runk [] [4, 5] [0, 2, 8, 9, 47] (L' := [(0, .pointer (some ⟨b0, 0, none⟩)), (2, .int .u64 a2), (8, .int .i64 (wi (Int.tdiv (wi (a1 * p0.1)) 64))), (9, .int .i64 (Int.tmod (wi (a1 * p0.1)) 64)), (47, .int .i64 p0.1)]) (w' := w12) (by kernel_rfl) ?_
        obtain ⟨r15, e16, H⟩ := bind_ex H
        refine WR.st (St.call (by kernel_rfl) (f := 27) (args := #[.int .i64 p0.1]) (by kernel_rfl) (pack_mask.calls w12 p0.1 r15 e16) ?_)
        rintro _ w22 ⟨rfl, hS23⟩
        have hS : Sat w22 B [pts b0 (.cells #[.int .i64 p0.1, .int .i64 p0.2.1, .slice A2 p0.2.2.length c3] 52 (0, 0)), osl 40 (r0 (.int .u64)) 1 A2 c3 p0.2.2] := hS.ext hS23
        refine WR.runk [5] [] [0, 2, 8, 9, 10] (L' := [(0, .pointer (some ⟨b0, 0, none⟩)), (2, .int .u64 a2), (8, .int .i64 (wi (Int.tdiv (wi (a1 * p0.1)) 64))), (9, .int .i64 (Int.tmod (wi (a1 * p0.1)) 64)), (10, .int .u64 r15)]) (w' := w22) (by kernel_rfl) ?_
        refine WR.nil ?_
        refine At.go ?_
        refine WC.seq (by kernel_rfl) ?_
        refine WC.drawn (by kernel_rfl) (by kernel_rfl) 22 (by kernel_rfl) (fun w24 hw25 => ?_)
        have hS := hS.heap hw25.1 hw25.2
        refine WD.weaken [0, 2, 8, 9, 10] (L' := [(0, .pointer (some ⟨b0, 0, none⟩)), (2, .int .u64 a2), (8, .int .i64 (wi (Int.tdiv (wi (a1 * p0.1)) 64))), (9, .int .i64 (Int.tmod (wi (a1 * p0.1)) 64)), (10, .int .u64 r15)]) (by kernel_rfl) ?_
        refine WD.pure (i := 0) (v := .pointer (some ⟨b0, 0, none⟩)) (by kernel_rfl) (by kernel_rfl) (fun _ => by kernel_rfl) ?_
        refine WD.weaken [0, 2, 8, 9, 10, 49] (L' := [(0, .pointer (some ⟨b0, 0, none⟩)), (2, .int .u64 a2), (8, .int .i64 (wi (Int.tdiv (wi (a1 * p0.1)) 64))), (9, .int .i64 (Int.tmod (wi (a1 * p0.1)) 64)), (10, .int .u64 r15), (49, .pointer (some ⟨b0, 0, none⟩))]) (by kernel_rfl) ?_
        refine WD.pure (i := 1) (v := .pointer (some ⟨b0, 0, none⟩)) (by kernel_rfl) (by kernel_rfl) (fun _ => by kernel_rfl) ?_
        refine WD.weaken [0, 2, 8, 9, 10, 50] (L' := [(0, .pointer (some ⟨b0, 0, none⟩)), (2, .int .u64 a2), (8, .int .i64 (wi (Int.tdiv (wi (a1 * p0.1)) 64))), (9, .int .i64 (Int.tmod (wi (a1 * p0.1)) 64)), (10, .int .u64 r15), (50, .pointer (some ⟨b0, 0, none⟩))]) (by kernel_rfl) ?_
        refine WD.pure (i := 2) (v := .pointer (some ⟨b0, 2, none⟩)) (by kernel_rfl) (by kernel_rfl) (fun _ => by kernel_rfl) ?_
        refine WD.weaken [0, 2, 8, 9, 10, 51] (L' := [(0, .pointer (some ⟨b0, 0, none⟩)), (2, .int .u64 a2), (8, .int .i64 (wi (Int.tdiv (wi (a1 * p0.1)) 64))), (9, .int .i64 (Int.tmod (wi (a1 * p0.1)) 64)), (10, .int .u64 r15), (51, .pointer (some ⟨b0, 2, none⟩))]) (by kernel_rfl) ?_
        refine WD.ofR (i := 3) (by kernel_rfl) (RSt.loadObj (t := 44) (k := 2) (v := .slice A2 p0.2.2.length c3) (.tmp 51) (by kernel_rfl) (by kernel_rfl) (by kernel_rfl) 0 hS rfl (by kernel_rfl) rfl ?_)
        refine WD.weaken [0, 2, 8, 9, 10, 52] (L' := [(0, .pointer (some ⟨b0, 0, none⟩)), (2, .int .u64 a2), (8, .int .i64 (wi (Int.tdiv (wi (a1 * p0.1)) 64))), (9, .int .i64 (Int.tmod (wi (a1 * p0.1)) 64)), (10, .int .u64 r15), (52, .slice A2 p0.2.2.length c3)]) (by kernel_rfl) ?_
        refine WD.pure (i := 4) (v := .int .i64 (wi (Int.tdiv (wi (a1 * p0.1)) 64))) (by kernel_rfl) (by kernel_rfl) (fun _ => by kernel_rfl) ?_
        refine WD.weaken [0, 2, 8, 9, 10, 52, 53] (L' := [(0, .pointer (some ⟨b0, 0, none⟩)), (2, .int .u64 a2), (8, .int .i64 (wi (Int.tdiv (wi (a1 * p0.1)) 64))), (9, .int .i64 (Int.tmod (wi (a1 * p0.1)) 64)), (10, .int .u64 r15), (52, .slice A2 p0.2.2.length c3), (53, .int .i64 (wi (Int.tdiv (wi (a1 * p0.1)) 64)))]) (by kernel_rfl) ?_
        refine WD.pure (i := 5) (v := .pointer (some ⟨b0, 0, none⟩)) (by kernel_rfl) (by kernel_rfl) (fun _ => by kernel_rfl) ?_
        refine WD.weaken [0, 2, 8, 9, 10, 52, 53, 54] (L' := [(0, .pointer (some ⟨b0, 0, none⟩)), (2, .int .u64 a2), (8, .int .i64 (wi (Int.tdiv (wi (a1 * p0.1)) 64))), (9, .int .i64 (Int.tmod (wi (a1 * p0.1)) 64)), (10, .int .u64 r15), (52, .slice A2 p0.2.2.length c3), (53, .int .i64 (wi (Int.tdiv (wi (a1 * p0.1)) 64))), (54, .pointer (some ⟨b0, 0, none⟩))]) (by kernel_rfl) ?_
        refine WD.pure (i := 6) (v := .pointer (some ⟨b0, 0, none⟩)) (by kernel_rfl) (by kernel_rfl) (fun _ => by kernel_rfl) ?_
        refine WD.weaken [0, 2, 8, 9, 10, 52, 53, 55] (L' := [(0, .pointer (some ⟨b0, 0, none⟩)), (2, .int .u64 a2), (8, .int .i64 (wi (Int.tdiv (wi (a1 * p0.1)) 64))), (9, .int .i64 (Int.tmod (wi (a1 * p0.1)) 64)), (10, .int .u64 r15), (52, .slice A2 p0.2.2.length c3), (53, .int .i64 (wi (Int.tdiv (wi (a1 * p0.1)) 64))), (55, .pointer (some ⟨b0, 0, none⟩))]) (by kernel_rfl) ?_
        refine WD.pure (i := 7) (v := .pointer (some ⟨b0, 2, none⟩)) (by kernel_rfl) (by kernel_rfl) (fun _ => by kernel_rfl) ?_
        refine WD.weaken [0, 2, 8, 9, 10, 52, 53, 56] (L' := [(0, .pointer (some ⟨b0, 0, none⟩)), (2, .int .u64 a2), (8, .int .i64 (wi (Int.tdiv (wi (a1 * p0.1)) 64))), (9, .int .i64 (Int.tmod (wi (a1 * p0.1)) 64)), (10, .int .u64 r15), (52, .slice A2 p0.2.2.length c3), (53, .int .i64 (wi (Int.tdiv (wi (a1 * p0.1)) 64))), (56, .pointer (some ⟨b0, 2, none⟩))]) (by kernel_rfl) ?_
        refine WD.ofR (i := 8) (by kernel_rfl) (RSt.loadObj (t := 44) (k := 2) (v := .slice A2 p0.2.2.length c3) (.tmp 56) (by kernel_rfl) (by kernel_rfl) (by kernel_rfl) 0 hS rfl (by kernel_rfl) rfl ?_)
        refine WD.weaken [0, 2, 8, 9, 10, 52, 53, 57] (L' := [(0, .pointer (some ⟨b0, 0, none⟩)), (2, .int .u64 a2), (8, .int .i64 (wi (Int.tdiv (wi (a1 * p0.1)) 64))), (9, .int .i64 (Int.tmod (wi (a1 * p0.1)) 64)), (10, .int .u64 r15), (52, .slice A2 p0.2.2.length c3), (53, .int .i64 (wi (Int.tdiv (wi (a1 * p0.1)) 64))), (57, .slice A2 p0.2.2.length c3)]) (by kernel_rfl) ?_
        refine WD.pure (i := 9) (v := .int .i64 (wi (Int.tdiv (wi (a1 * p0.1)) 64))) (by kernel_rfl) (by kernel_rfl) (fun _ => by kernel_rfl) ?_
        refine WD.weaken [0, 2, 8, 9, 10, 52, 53, 57, 58] (L' := [(0, .pointer (some ⟨b0, 0, none⟩)), (2, .int .u64 a2), (8, .int .i64 (wi (Int.tdiv (wi (a1 * p0.1)) 64))), (9, .int .i64 (Int.tmod (wi (a1 * p0.1)) 64)), (10, .int .u64 r15), (52, .slice A2 p0.2.2.length c3), (53, .int .i64 (wi (Int.tdiv (wi (a1 * p0.1)) 64))), (57, .slice A2 p0.2.2.length c3), (58, .int .i64 (wi (Int.tdiv (wi (a1 * p0.1)) 64)))]) (by kernel_rfl) ?_
        obtain ⟨v26, e27, H⟩ := bind_ex H
        refine WD.ofP (i := 10) (by kernel_rfl) (PSt.idx (k := .i64) (.tmp 57) (.tmp 58) (by kernel_rfl) (by kernel_rfl) E44 (by kernel_rfl) (by kernel_rfl) (Sat.rdAt 1 hS rfl) e27 ?_)
        refine WD.weaken [0, 2, 8, 9, 10, 52, 53, 59] (L' := [(0, .pointer (some ⟨b0, 0, none⟩)), (2, .int .u64 a2), (8, .int .i64 (wi (Int.tdiv (wi (a1 * p0.1)) 64))), (9, .int .i64 (Int.tmod (wi (a1 * p0.1)) 64)), (10, .int .u64 r15), (52, .slice A2 p0.2.2.length c3), (53, .int .i64 (wi (Int.tdiv (wi (a1 * p0.1)) 64))), (59, .pointer (some (adr A2 (wi (Int.tdiv (wi (a1 * p0.1)) 64)).toNat 1)))]) (by kernel_rfl) ?_
        refine WD.ofR (i := 11) (by kernel_rfl) (RSt.loadInt (t := 40) (.tmp 59) (by kernel_rfl) (by kernel_rfl) (by kernel_rfl) (by kernel_rfl) (Sat.rdAt 1 hS rfl) e27 ?_)
        refine WD.weaken [0, 2, 8, 9, 10, 52, 53, 60] (L' := [(0, .pointer (some ⟨b0, 0, none⟩)), (2, .int .u64 a2), (8, .int .i64 (wi (Int.tdiv (wi (a1 * p0.1)) 64))), (9, .int .i64 (Int.tmod (wi (a1 * p0.1)) 64)), (10, .int .u64 r15), (52, .slice A2 p0.2.2.length c3), (53, .int .i64 (wi (Int.tdiv (wi (a1 * p0.1)) 64))), (60, .int .u64 v26)]) (by kernel_rfl) ?_
        refine WD.pure (i := 12) (v := .int .u64 r15) (by kernel_rfl) (by kernel_rfl) (fun _ => by kernel_rfl) ?_
        refine WD.weaken [0, 2, 8, 9, 10, 52, 53, 60, 61] (L' := [(0, .pointer (some ⟨b0, 0, none⟩)), (2, .int .u64 a2), (8, .int .i64 (wi (Int.tdiv (wi (a1 * p0.1)) 64))), (9, .int .i64 (Int.tmod (wi (a1 * p0.1)) 64)), (10, .int .u64 r15), (52, .slice A2 p0.2.2.length c3), (53, .int .i64 (wi (Int.tdiv (wi (a1 * p0.1)) 64))), (60, .int .u64 v26), (61, .int .u64 r15)]) (by kernel_rfl) ?_
        refine WD.pure (i := 13) (v := .int .i64 (Int.tmod (wi (a1 * p0.1)) 64)) (by kernel_rfl) (by kernel_rfl) (fun _ => by kernel_rfl) ?_
        refine WD.weaken [0, 2, 8, 9, 10, 52, 53, 60, 61, 62] (L' := [(0, .pointer (some ⟨b0, 0, none⟩)), (2, .int .u64 a2), (8, .int .i64 (wi (Int.tdiv (wi (a1 * p0.1)) 64))), (9, .int .i64 (Int.tmod (wi (a1 * p0.1)) 64)), (10, .int .u64 r15), (52, .slice A2 p0.2.2.length c3), (53, .int .i64 (wi (Int.tdiv (wi (a1 * p0.1)) 64))), (60, .int .u64 v26), (61, .int .u64 r15), (62, .int .i64 (Int.tmod (wi (a1 * p0.1)) 64))]) (by kernel_rfl) ?_
        obtain ⟨_, e28, H⟩ := bind_ex H
        refine WD.ofP (i := 14) (by kernel_rfl) (PSt.shift (k := .u64) (k2 := .i64) (t := 40) (t2 := 3) (a := r15) (b := (Int.tmod (wi (a1 * p0.1)) 64)) .shl (by decide) (.tmp 61) (.tmp 62) (by kernel_rfl) (by kernel_rfl) (by kernel_rfl) (by kernel_rfl) (of_decide_eq_true (chk?_some e28)) ?_)
        refine WD.weaken [0, 2, 8, 9, 10, 52, 53, 60, 63] (L' := [(0, .pointer (some ⟨b0, 0, none⟩)), (2, .int .u64 a2), (8, .int .i64 (wi (Int.tdiv (wi (a1 * p0.1)) 64))), (9, .int .i64 (Int.tmod (wi (a1 * p0.1)) 64)), (10, .int .u64 r15), (52, .slice A2 p0.2.2.length c3), (53, .int .i64 (wi (Int.tdiv (wi (a1 * p0.1)) 64))), (60, .int .u64 v26), (63, .int .u64 (ishl .u64 r15 (Int.tmod (wi (a1 * p0.1)) 64)))]) (by kernel_rfl) ?_
        refine WD.pure (i := 15) (v := .int .u64 (iandn .u64 v26 (ishl .u64 r15 (Int.tmod (wi (a1 * p0.1)) 64)))) (by kernel_rfl) (by kernel_rfl) (fun _ => by kernel_rfl) ?_
        refine WD.weaken [0, 2, 8, 9, 10, 52, 53, 64] (L' := [(0, .pointer (some ⟨b0, 0, none⟩)), (2, .int .u64 a2), (8, .int .i64 (wi (Int.tdiv (wi (a1 * p0.1)) 64))), (9, .int .i64 (Int.tmod (wi (a1 * p0.1)) 64)), (10, .int .u64 r15), (52, .slice A2 p0.2.2.length c3), (53, .int .i64 (wi (Int.tdiv (wi (a1 * p0.1)) 64))), (64, .int .u64 (iandn .u64 v26 (ishl .u64 r15 (Int.tmod (wi (a1 * p0.1)) 64))))]) (by kernel_rfl) ?_
        refine WD.pure (i := 16) (v := .int .u64 a2) (by kernel_rfl) (by kernel_rfl) (fun _ => by kernel_rfl) ?_
        refine WD.weaken [0, 2, 8, 9, 10, 52, 53, 64, 65] (L' := [(0, .pointer (some ⟨b0, 0, none⟩)), (2, .int .u64 a2), (8, .int .i64 (wi (Int.tdiv (wi (a1 * p0.1)) 64))), (9, .int .i64 (Int.tmod (wi (a1 * p0.1)) 64)), (10, .int .u64 r15), (52, .slice A2 p0.2.2.length c3), (53, .int .i64 (wi (Int.tdiv (wi (a1 * p0.1)) 64))), (64, .int .u64 (iandn .u64 v26 (ishl .u64 r15 (Int.tmod (wi (a1 * p0.1)) 64)))), (65, .int .u64 a2)]) (by kernel_rfl) ?_
        refine WD.pure (i := 17) (v := .int .i64 (Int.tmod (wi (a1 * p0.1)) 64)) (by kernel_rfl) (by kernel_rfl) (fun _ => by kernel_rfl) ?_
        refine WD.weaken [0, 2, 8, 9, 10, 52, 53, 64, 65, 66] (L' := [(0, .pointer (some ⟨b0, 0, none⟩)), (2, .int .u64 a2), (8, .int .i64 (wi (Int.tdiv (wi (a1 * p0.1)) 64))), (9, .int .i64 (Int.tmod (wi (a1 * p0.1)) 64)), (10, .int .u64 r15), (52, .slice A2 p0.2.2.length c3), (53, .int .i64 (wi (Int.tdiv (wi (a1 * p0.1)) 64))), (64, .int .u64 (iandn .u64 v26 (ishl .u64 r15 (Int.tmod (wi (a1 * p0.1)) 64)))), (65, .int .u64 a2), (66, .int .i64 (Int.tmod (wi (a1 * p0.1)) 64))]) (by kernel_rfl) ?_
        obtain ⟨_, e29, H⟩ := bind_ex H
        refine WD.ofP (i := 18) (by kernel_rfl) (PSt.shift (k := .u64) (k2 := .i64) (t := 40) (t2 := 3) (a := a2) (b := (Int.tmod (wi (a1 * p0.1)) 64)) .shl (by decide) (.tmp 65) (.tmp 66) (by kernel_rfl) (by kernel_rfl) (by kernel_rfl) (by kernel_rfl) (of_decide_eq_true (chk?_some e29)) ?_)
        refine WD.weaken [0, 2, 8, 9, 10, 52, 53, 64, 67] (L' := [(0, .pointer (some ⟨b0, 0, none⟩)), (2, .int .u64 a2), (8, .int .i64 (wi (Int.tdiv (wi (a1 * p0.1)) 64))), (9, .int .i64 (Int.tmod (wi (a1 * p0.1)) 64)), (10, .int .u64 r15), (52, .slice A2 p0.2.2.length c3), (53, .int .i64 (wi (Int.tdiv (wi (a1 * p0.1)) 64))), (64, .int .u64 (iandn .u64 v26 (ishl .u64 r15 (Int.tmod (wi (a1 * p0.1)) 64)))), (67, .int .u64 (ishl .u64 a2 (Int.tmod (wi (a1 * p0.1)) 64)))]) (by kernel_rfl) ?_
        refine WD.pure (i := 19) (v := .int .u64 (ior .u64 (iandn .u64 v26 (ishl .u64 r15 (Int.tmod (wi (a1 * p0.1)) 64))) (ishl .u64 a2 (Int.tmod (wi (a1 * p0.1)) 64)))) (by kernel_rfl) (by kernel_rfl) (fun _ => by kernel_rfl) ?_
        refine WD.weaken [0, 2, 8, 9, 10, 52, 53, 68] (L' := [(0, .pointer (some ⟨b0, 0, none⟩)), (2, .int .u64 a2), (8, .int .i64 (wi (Int.tdiv (wi (a1 * p0.1)) 64))), (9, .int .i64 (Int.tmod (wi (a1 * p0.1)) 64)), (10, .int .u64 r15), (52, .slice A2 p0.2.2.length c3), (53, .int .i64 (wi (Int.tdiv (wi (a1 * p0.1)) 64))), (68, .int .u64 (ior .u64 (iandn .u64 v26 (ishl .u64 r15 (Int.tmod (wi (a1 * p0.1)) 64))) (ishl .u64 a2 (Int.tmod (wi (a1 * p0.1)) 64))))]) (by kernel_rfl) ?_
        refine WD.ofP (i := 20) (by kernel_rfl) (PSt.idx (k := .i64) (.tmp 52) (.tmp 53) (by kernel_rfl) (by kernel_rfl) E44 (by kernel_rfl) (by kernel_rfl) (Sat.rdAt 1 hS rfl) e27 ?_)
        refine WD.weaken [0, 2, 8, 9, 10, 68, 69] (L' := [(0, .pointer (some ⟨b0, 0, none⟩)), (2, .int .u64 a2), (8, .int .i64 (wi (Int.tdiv (wi (a1 * p0.1)) 64))), (9, .int .i64 (Int.tmod (wi (a1 * p0.1)) 64)), (10, .int .u64 r15), (68, .int .u64 (ior .u64 (iandn .u64 v26 (ishl .u64 r15 (Int.tmod (wi (a1 * p0.1)) 64))) (ishl .u64 a2 (Int.tmod (wi (a1 * p0.1)) 64)))), (69, .pointer (some (adr A2 (wi (Int.tdiv (wi (a1 * p0.1)) 64)).toNat 1)))]) (by kernel_rfl) ?_
        have hS : Sat w24 B [osl 40 (r0 (.int .u64)) 1 A2 c3 p0.2.2, pts b0 (.cells #[.int .i64 p0.1, .int .i64 p0.2.1, .slice A2 p0.2.2.length c3] 52 (0, 0))] := hS.sel [1, 0] (by kernel_rfl)
        obtain ⟨y30, e31, H⟩ := bind_ex H
        refine WD.act (i := 21) (by kernel_rfl) (St.storeElem' (t := 40) (.tmp 69) (.tmp 68) (by kernel_rfl) (by kernel_rfl) (by kernel_rfl) hS (by kernel_rfl) (by kernel_rfl) rfl e31 rfl (fun w32 hS => ?_))
        refine ⟨(asked.anc (by kernel_rfl) (asked.anc (by kernel_rfl) (asked.anc (by kernel_rfl) (asked.nil _ _)))), ?_⟩
        have hl33 := set?_len e31
        have hS : Sat w32 B [osl 40 (r0 (.int .u64)) 1 A2 c3 y30, pts b0 (.cells #[.int .i64 p0.1, .int .i64 p0.2.1, .slice A2 y30.length c3] 52 (0, 0))] := by simpa only [hl33] using hS
        refine WD.weaken [0, 2, 8, 9, 10] (L' := [(0, .pointer (some ⟨b0, 0, none⟩)), (2, .int .u64 a2), (8, .int .i64 (wi (Int.tdiv (wi (a1 * p0.1)) 64))), (9, .int .i64 (Int.tmod (wi (a1 * p0.1)) 64)), (10, .int .u64 r15)]) (by kernel_rfl) ?_
        refine WD.nil (by kernel_rfl) ?_
        refine At.go ?_
        refine WC.seq (by kernel_rfl) ?_
        refine WC.seq (by kernel_rfl) ?_
        refine WC.reg [0, 1, 2, 3, 4, 5, 6] (by kernel_rfl) (by kernel_rfl) ?_
        refine WR.runk [0, 1, 2, 3] [4, 5, 6] [0, 2, 8, 9, 10, 70, 73] (L' := [(0, .pointer (some ⟨b0, 0, none⟩)), (2, .int .u64 a2), (8, .int .i64 (wi (Int.tdiv (wi (a1 * p0.1)) 64))), (9, .int .i64 (Int.tmod (wi (a1 * p0.1)) 64)), (10, .int .u64 r15), (70, .int .i64 (Int.tmod (wi (a1 * p0.1)) 64)), (73, .pointer (some ⟨b0, 0, none⟩))]) (w' := w32) (by kernel_rfl) ?_
        refine WR.st (St.ofR (RSt.loadObj (t := 3) (k := 0) (v := .int .i64 p0.1) (.tmp 73) (by kernel_rfl) (by kernel_rfl) (by kernel_rfl) 1 hS rfl (by kernel_rfl) rfl ?_))
        refine WR.runk [5, 6] [] [0, 2, 8, 9, 10, 76] (L' := [(0, .pointer (some ⟨b0, 0, none⟩)), (2, .int .u64 a2), (8, .int .i64 (wi (Int.tdiv (wi (a1 * p0.1)) 64))), (9, .int .i64 (Int.tmod (wi (a1 * p0.1)) 64)), (10, .int .u64 r15), (76, .bool (decide (wi ((Int.tmod (wi (a1 * p0.1)) 64) + p0.1) > 64)))]) (w' := w32) (by kernel_rfl) ?_
        refine WR.nil ?_
        refine At.go ?_
        refine WC.cond (by kernel_rfl) (decide (wi ((Int.tmod (wi (a1 * p0.1)) 64) + p0.1) > 64)) (by kernel_rfl) (by kernel_rfl) (fun hb34 => ?_) (fun hb34 => ?_)
        · replace H := ite_t H hb34
          refine WC.drawn (by kernel_rfl) (by kernel_rfl) 26 (by kernel_rfl) (fun w35 hw36 => ?_)
          have hS := hS.heap hw36.1 hw36.2
          refine WD.weaken [0, 2, 8, 9, 10] (L' := [(0, .pointer (some ⟨b0, 0, none⟩)), (2, .int .u64 a2), (8, .int .i64 (wi (Int.tdiv (wi (a1 * p0.1)) 64))), (9, .int .i64 (Int.tmod (wi (a1 * p0.1)) 64)), (10, .int .u64 r15)]) (by kernel_rfl) ?_
          refine WD.pure (i := 0) (v := .pointer (some ⟨b0, 0, none⟩)) (by kernel_rfl) (by kernel_rfl) (fun _ => by kernel_rfl) ?_
          refine WD.weaken [0, 2, 8, 9, 10, 77] (L' := [(0, .pointer (some ⟨b0, 0, none⟩)), (2, .int .u64 a2), (8, .int .i64 (wi (Int.tdiv (wi (a1 * p0.1)) 64))), (9, .int .i64 (Int.tmod (wi (a1 * p0.1)) 64)), (10, .int .u64 r15), (77, .pointer (some ⟨b0, 0, none⟩))]) (by kernel_rfl) ?_
          refine WD.pure (i := 1) (v := .pointer (some ⟨b0, 0, none⟩)) (by kernel_rfl) (by kernel_rfl) (fun _ => by kernel_rfl) ?_
          refine WD.weaken [0, 2, 8, 9, 10, 78] (L' := [(0, .pointer (some ⟨b0, 0, none⟩)), (2, .int .u64 a2), (8, .int .i64 (wi (Int.tdiv (wi (a1 * p0.1)) 64))), (9, .int .i64 (Int.tmod (wi (a1 * p0.1)) 64)), (10, .int .u64 r15), (78, .pointer (some ⟨b0, 0, none⟩))]) (by kernel_rfl) ?_
          refine WD.pure (i := 2) (v := .pointer (some ⟨b0, 2, none⟩)) (by kernel_rfl) (by kernel_rfl) (fun _ => by kernel_rfl) ?_
          refine WD.weaken [0, 2, 8, 9, 10, 79] (L' := [(0, .pointer (some ⟨b0, 0, none⟩)), (2, .int .u64 a2), (8, .int .i64 (wi (Int.tdiv (wi (a1 * p0.1)) 64))), (9, .int .i64 (Int.tmod (wi (a1 * p0.1)) 64)), (10, .int .u64 r15), (79, .pointer (some ⟨b0, 2, none⟩))]) (by kernel_rfl) ?_
          refine WD.ofR (i := 3) (by kernel_rfl) (RSt.loadObj (t := 44) (k := 2) (v := .slice A2 y30.length c3) (.tmp 79) (by kernel_rfl) (by kernel_rfl) (by kernel_rfl) 1 hS rfl (by kernel_rfl) rfl ?_)
          refine WD.weaken [0, 2, 8, 9, 10, 80] (L' := [(0, .pointer (some ⟨b0, 0, none⟩)), (2, .int .u64 a2), (8, .int .i64 (wi (Int.tdiv (wi (a1 * p0.1)) 64))), (9, .int .i64 (Int.tmod (wi (a1 * p0.1)) 64)), (10, .int .u64 r15), (80, .slice A2 y30.length c3)]) (by kernel_rfl) ?_
          refine WD.pure (i := 4) (v := .int .i64 (wi (Int.tdiv (wi (a1 * p0.1)) 64))) (by kernel_rfl) (by kernel_rfl) (fun _ => by kernel_rfl) ?_
          refine WD.weaken [0, 2, 8, 9, 10, 80, 81] (L' := [(0, .pointer (some ⟨b0, 0, none⟩)), (2, .int .u64 a2), (8, .int .i64 (wi (Int.tdiv (wi (a1 * p0.1)) 64))), (9, .int .i64 (Int.tmod (wi (a1 * p0.1)) 64)), (10, .int .u64 r15), (80, .slice A2 y30.length c3), (81, .int .i64 (wi (Int.tdiv (wi (a1 * p0.1)) 64)))]) (by kernel_rfl) ?_
          refine WD.pure (i := 5) (v := .int .i64 (wi ((wi (Int.tdiv (wi (a1 * p0.1)) 64)) + 1))) (by kernel_rfl) (by kernel_rfl) (fun _ => by kernel_rfl) ?_
          refine WD.weaken [0, 2, 8, 9, 10, 80, 82] (L' := [(0, .pointer (some ⟨b0, 0, none⟩)), (2, .int .u64 a2), (8, .int .i64 (wi (Int.tdiv (wi (a1 * p0.1)) 64))), (9, .int .i64 (Int.tmod (wi (a1 * p0.1)) 64)), (10, .int .u64 r15), (80, .slice A2 y30.length c3), (82, .int .i64 (wi ((wi (Int.tdiv (wi (a1 * p0.1)) 64)) + 1)))]) (by kernel_rfl) ?_
          refine WD.pure (i := 6) (v := .pointer (some ⟨b0, 0, none⟩)) (by kernel_rfl) (by kernel_rfl) (fun _ => by kernel_rfl) ?_
          refine WD.weaken [2, 8, 9, 10, 80, 82, 83] (L' := [(2, .int .u64 a2), (8, .int .i64 (wi (Int.tdiv (wi (a1 * p0.1)) 64))), (9, .int .i64 (Int.tmod (wi (a1 * p0.1)) 64)), (10, .int .u64 r15), (80, .slice A2 y30.length c3), (82, .int .i64 (wi ((wi (Int.tdiv (wi (a1 * p0.1)) 64)) + 1))), (83, .pointer (some ⟨b0, 0, none⟩))]) (by kernel_rfl) ?_
          refine WD.pure (i := 7) (v := .pointer (some ⟨b0, 0, none⟩)) (by kernel_rfl) (by kernel_rfl) (fun _ => by kernel_rfl) ?_
          refine WD.weaken [2, 8, 9, 10, 80, 82, 84] (L' := [(2, .int .u64 a2), (8, .int .i64 (wi (Int.tdiv (wi (a1 * p0.1)) 64))), (9, .int .i64 (Int.tmod (wi (a1 * p0.1)) 64)), (10, .int .u64 r15), (80, .slice A2 y30.length c3), (82, .int .i64 (wi ((wi (Int.tdiv (wi (a1 * p0.1)) 64)) + 1))), (84, .pointer (some ⟨b0, 0, none⟩))]) (by kernel_rfl) ?_
          refine WD.pure (i := 8) (v := .pointer (some ⟨b0, 2, none⟩)) (by kernel_rfl) (by kernel_rfl) (fun _ => by kernel_rfl) ?_
          refine WD.weaken [2, 8, 9, 10, 80, 82, 85] (L' := [(2, .int .u64 a2), (8, .int .i64 (wi (Int.tdiv (wi (a1 * p0.1)) 64))), (9, .int .i64 (Int.tmod (wi (a1 * p0.1)) 64)), (10, .int .u64 r15), (80, .slice A2 y30.length c3), (82, .int .i64 (wi ((wi (Int.tdiv (wi (a1 * p0.1)) 64)) + 1))), (85, .pointer (some ⟨b0, 2, none⟩))]) (by kernel_rfl) ?_
          refine WD.ofR (i := 9) (by kernel_rfl) (RSt.loadObj (t := 44) (k := 2) (v := .slice A2 y30.length c3) (.tmp 85) (by kernel_rfl) (by kernel_rfl) (by kernel_rfl) 1 hS rfl (by kernel_rfl) rfl ?_)
          refine WD.weaken [2, 8, 9, 10, 80, 82, 86] (L' := [(2, .int .u64 a2), (8, .int .i64 (wi (Int.tdiv (wi (a1 * p0.1)) 64))), (9, .int .i64 (Int.tmod (wi (a1 * p0.1)) 64)), (10, .int .u64 r15), (80, .slice A2 y30.length c3), (82, .int .i64 (wi ((wi (Int.tdiv (wi (a1 * p0.1)) 64)) + 1))), (86, .slice A2 y30.length c3)]) (by kernel_rfl) ?_
          refine WD.pure (i := 10) (v := .int .i64 (wi (Int.tdiv (wi (a1 * p0.1)) 64))) (by kernel_rfl) (by kernel_rfl) (fun _ => by kernel_rfl) ?_
          refine WD.weaken [2, 9, 10, 80, 82, 86, 87] (L' := [(2, .int .u64 a2), (9, .int .i64 (Int.tmod (wi (a1 * p0.1)) 64)), (10, .int .u64 r15), (80, .slice A2 y30.length c3), (82, .int .i64 (wi ((wi (Int.tdiv (wi (a1 * p0.1)) 64)) + 1))), (86, .slice A2 y30.length c3), (87, .int .i64 (wi (Int.tdiv (wi (a1 * p0.1)) 64)))]) (by kernel_rfl) ?_
          refine WD.pure (i := 11) (v := .int .i64 (wi ((wi (Int.tdiv (wi (a1 * p0.1)) 64)) + 1))) (by kernel_rfl) (by kernel_rfl) (fun _ => by kernel_rfl) ?_
          refine WD.weaken [2, 9, 10, 80, 82, 86, 88] (L' := [(2, .int .u64 a2), (9, .int .i64 (Int.tmod (wi (a1 * p0.1)) 64)), (10, .int .u64 r15), (80, .slice A2 y30.length c3), (82, .int .i64 (wi ((wi (Int.tdiv (wi (a1 * p0.1)) 64)) + 1))), (86, .slice A2 y30.length c3), (88, .int .i64 (wi ((wi (Int.tdiv (wi (a1 * p0.1)) 64)) + 1)))]) (by kernel_rfl) ?_
          obtain ⟨v37, e38, H⟩ := bind_ex H
          refine WD.ofP (i := 12) (by kernel_rfl) (PSt.idx (k := .i64) (.tmp 86) (.tmp 88) (by kernel_rfl) (by kernel_rfl) E44 (by kernel_rfl) (by kernel_rfl) (Sat.rdAt 0 hS rfl) e38 ?_)
          refine WD.weaken [2, 9, 10, 80, 82, 89] (L' := [(2, .int .u64 a2), (9, .int .i64 (Int.tmod (wi (a1 * p0.1)) 64)), (10, .int .u64 r15), (80, .slice A2 y30.length c3), (82, .int .i64 (wi ((wi (Int.tdiv (wi (a1 * p0.1)) 64)) + 1))), (89, .pointer (some (adr A2 (wi ((wi (Int.tdiv (wi (a1 * p0.1)) 64)) + 1)).toNat 1)))]) (by kernel_rfl) ?_
          refine WD.ofR (i := 13) (by kernel_rfl) (RSt.loadInt (t := 40) (.tmp 89) (by kernel_rfl) (by kernel_rfl) (by kernel_rfl) (by kernel_rfl) (Sat.rdAt 0 hS rfl) e38 ?_)
          refine WD.weaken [2, 9, 10, 80, 82, 90] (L' := [(2, .int .u64 a2), (9, .int .i64 (Int.tmod (wi (a1 * p0.1)) 64)), (10, .int .u64 r15), (80, .slice A2 y30.length c3), (82, .int .i64 (wi ((wi (Int.tdiv (wi (a1 * p0.1)) 64)) + 1))), (90, .int .u64 v37)]) (by kernel_rfl) ?_
          refine WD.pure (i := 14) (v := .int .u64 r15) (by kernel_rfl) (by kernel_rfl) (fun _ => by kernel_rfl) ?_
          refine WD.weaken [2, 9, 80, 82, 90, 91] (L' := [(2, .int .u64 a2), (9, .int .i64 (Int.tmod (wi (a1 * p0.1)) 64)), (80, .slice A2 y30.length c3), (82, .int .i64 (wi ((wi (Int.tdiv (wi (a1 * p0.1)) 64)) + 1))), (90, .int .u64 v37), (91, .int .u64 r15)]) (by kernel_rfl) ?_
          refine WD.pure (i := 15) (v := .int .i64 (Int.tmod (wi (a1 * p0.1)) 64)) (by kernel_rfl) (by kernel_rfl) (fun _ => by kernel_rfl) ?_
          refine WD.weaken [2, 9, 80, 82, 90, 91, 92] (L' := [(2, .int .u64 a2), (9, .int .i64 (Int.tmod (wi (a1 * p0.1)) 64)), (80, .slice A2 y30.length c3), (82, .int .i64 (wi ((wi (Int.tdiv (wi (a1 * p0.1)) 64)) + 1))), (90, .int .u64 v37), (91, .int .u64 r15), (92, .int .i64 (Int.tmod (wi (a1 * p0.1)) 64))]) (by kernel_rfl) ?_
          refine WD.pure (i := 16) (v := .int .i64 (wi (64 - (Int.tmod (wi (a1 * p0.1)) 64)))) (by kernel_rfl) (by kernel_rfl) (fun _ => by kernel_rfl) ?_
          refine WD.weaken [2, 9, 80, 82, 90, 91, 93] (L' := [(2, .int .u64 a2), (9, .int .i64 (Int.tmod (wi (a1 * p0.1)) 64)), (80, .slice A2 y30.length c3), (82, .int .i64 (wi ((wi (Int.tdiv (wi (a1 * p0.1)) 64)) + 1))), (90, .int .u64 v37), (91, .int .u64 r15), (93, .int .i64 (wi (64 - (Int.tmod (wi (a1 * p0.1)) 64))))]) (by kernel_rfl) ?_
          obtain ⟨_, e39, H⟩ := bind_ex H
          refine WD.ofP (i := 17) (by kernel_rfl) (PSt.shift (k := .u64) (k2 := .i64) (t := 40) (t2 := 3) (a := r15) (b := (wi (64 - (Int.tmod (wi (a1 * p0.1)) 64)))) .shr (by decide) (.tmp 91) (.tmp 93) (by kernel_rfl) (by kernel_rfl) (by kernel_rfl) (by kernel_rfl) (of_decide_eq_true (chk?_some e39)) ?_)
          refine WD.weaken [2, 9, 80, 82, 90, 94] (L' := [(2, .int .u64 a2), (9, .int .i64 (Int.tmod (wi (a1 * p0.1)) 64)), (80, .slice A2 y30.length c3), (82, .int .i64 (wi ((wi (Int.tdiv (wi (a1 * p0.1)) 64)) + 1))), (90, .int .u64 v37), (94, .int .u64 (ishr .u64 r15 (wi (64 - (Int.tmod (wi (a1 * p0.1)) 64)))))]) (by kernel_rfl) ?_
          refine WD.pure (i := 18) (v := .int .u64 (iandn .u64 v37 (ishr .u64 r15 (wi (64 - (Int.tmod (wi (a1 * p0.1)) 64)))))) (by kernel_rfl) (by kernel_rfl) (fun _ => by kernel_rfl) ?_
          refine WD.weaken [2, 9, 80, 82, 95] (L' := [(2, .int .u64 a2), (9, .int .i64 (Int.tmod (wi (a1 * p0.1)) 64)), (80, .slice A2 y30.length c3), (82, .int .i64 (wi ((wi (Int.tdiv (wi (a1 * p0.1)) 64)) + 1))), (95, .int .u64 (iandn .u64 v37 (ishr .u64 r15 (wi (64 - (Int.tmod (wi (a1 * p0.1)) 64))))))]) (by kernel_rfl) ?_
          refine WD.pure (i := 19) (v := .int .u64 a2) (by kernel_rfl) (by kernel_rfl) (fun _ => by kernel_rfl) ?_
          refine WD.weaken [9, 80, 82, 95, 96] (L' := [(9, .int .i64 (Int.tmod (wi (a1 * p0.1)) 64)), (80, .slice A2 y30.length c3), (82, .int .i64 (wi ((wi (Int.tdiv (wi (a1 * p0.1)) 64)) + 1))), (95, .int .u64 (iandn .u64 v37 (ishr .u64 r15 (wi (64 - (Int.tmod (wi (a1 * p0.1)) 64)))))), (96, .int .u64 a2)]) (by kernel_rfl) ?_
          refine WD.pure (i := 20) (v := .int .i64 (Int.tmod (wi (a1 * p0.1)) 64)) (by kernel_rfl) (by kernel_rfl) (fun _ => by kernel_rfl) ?_
          refine WD.weaken [80, 82, 95, 96, 97] (L' := [(80, .slice A2 y30.length c3), (82, .int .i64 (wi ((wi (Int.tdiv (wi (a1 * p0.1)) 64)) + 1))), (95, .int .u64 (iandn .u64 v37 (ishr .u64 r15 (wi (64 - (Int.tmod (wi (a1 * p0.1)) 64)))))), (96, .int .u64 a2), (97, .int .i64 (Int.tmod (wi (a1 * p0.1)) 64))]) (by kernel_rfl) ?_
          refine WD.pure (i := 21) (v := .int .i64 (wi (64 - (Int.tmod (wi (a1 * p0.1)) 64)))) (by kernel_rfl) (by kernel_rfl) (fun _ => by kernel_rfl) ?_
          refine WD.weaken [80, 82, 95, 96, 98] (L' := [(80, .slice A2 y30.length c3), (82, .int .i64 (wi ((wi (Int.tdiv (wi (a1 * p0.1)) 64)) + 1))), (95, .int .u64 (iandn .u64 v37 (ishr .u64 r15 (wi (64 - (Int.tmod (wi (a1 * p0.1)) 64)))))), (96, .int .u64 a2), (98, .int .i64 (wi (64 - (Int.tmod (wi (a1 * p0.1)) 64))))]) (by kernel_rfl) ?_
          obtain ⟨_, e40, H⟩ := bind_ex H
          refine WD.ofP (i := 22) (by kernel_rfl) (PSt.shift (k := .u64) (k2 := .i64) (t := 40) (t2 := 3) (a := a2) (b := (wi (64 - (Int.tmod (wi (a1 * p0.1)) 64)))) .shr (by decide) (.tmp 96) (.tmp 98) (by kernel_rfl) (by kernel_rfl) (by kernel_rfl) (by kernel_rfl) (of_decide_eq_true (chk?_some e40)) ?_)
          refine WD.weaken [80, 82, 95, 99] (L' := [(80, .slice A2 y30.length c3), (82, .int .i64 (wi ((wi (Int.tdiv (wi (a1 * p0.1)) 64)) + 1))), (95, .int .u64 (iandn .u64 v37 (ishr .u64 r15 (wi (64 - (Int.tmod (wi (a1 * p0.1)) 64)))))), (99, .int .u64 (ishr .u64 a2 (wi (64 - (Int.tmod (wi (a1 * p0.1)) 64)))))]) (by kernel_rfl) ?_
          refine WD.pure (i := 23) (v := .int .u64 (ior .u64 (iandn .u64 v37 (ishr .u64 r15 (wi (64 - (Int.tmod (wi (a1 * p0.1)) 64))))) (ishr .u64 a2 (wi (64 - (Int.tmod (wi (a1 * p0.1)) 64)))))) (by kernel_rfl) (by kernel_rfl) (fun _ => by kernel_rfl) ?_
          refine WD.weaken [80, 82, 100] (L' := [(80, .slice A2 y30.length c3), (82, .int .i64 (wi ((wi (Int.tdiv (wi (a1 * p0.1)) 64)) + 1))), (100, .int .u64 (ior .u64 (iandn .u64 v37 (ishr .u64 r15 (wi (64 - (Int.tmod (wi (a1 * p0.1)) 64))))) (ishr .u64 a2 (wi (64 - (Int.tmod (wi (a1 * p0.1)) 64))))))]) (by kernel_rfl) ?_
          refine WD.ofP (i := 24) (by kernel_rfl) (PSt.idx (k := .i64) (.tmp 80) (.tmp 82) (by kernel_rfl) (by kernel_rfl) E44 (by kernel_rfl) (by kernel_rfl) (Sat.rdAt 0 hS rfl) e38 ?_)
          refine WD.weaken [100, 101] (L' := [(100, .int .u64 (ior .u64 (iandn .u64 v37 (ishr .u64 r15 (wi (64 - (Int.tmod (wi (a1 * p0.1)) 64))))) (ishr .u64 a2 (wi (64 - (Int.tmod (wi (a1 * p0.1)) 64)))))), (101, .pointer (some (adr A2 (wi ((wi (Int.tdiv (wi (a1 * p0.1)) 64)) + 1)).toNat 1)))]) (by kernel_rfl) ?_
          obtain ⟨y41, e42, H⟩ := bind_ex H
          refine WD.act (i := 25) (by kernel_rfl) (St.storeElem' (t := 40) (.tmp 101) (.tmp 100) (by kernel_rfl) (by kernel_rfl) (by kernel_rfl) hS (by kernel_rfl) (by kernel_rfl) rfl e42 rfl (fun w43 hS => ?_))
          refine ⟨(asked.anc (by kernel_rfl) (asked.anc (by kernel_rfl) (asked.anc (by kernel_rfl) (asked.nil _ _)))), ?_⟩
          have hl44 := set?_len e42
          have hS : Sat w43 B [osl 40 (r0 (.int .u64)) 1 A2 c3 y41, pts b0 (.cells #[.int .i64 p0.1, .int .i64 p0.2.1, .slice A2 y41.length c3] 52 (0, 0))] := by simpa only [hl44] using hS
          refine WD.weaken [] (L' := []) (by kernel_rfl) ?_
          refine WD.nil (by kernel_rfl) ?_
          refine At.go ?_
          refine WC.seq (by kernel_rfl) ?_
          refine WC.reg [0] (by kernel_rfl) (by kernel_rfl) ?_
          refine WR.runk [0] [] [6] (L' := [(6, .bool true)]) (w' := w43) (by kernel_rfl) ?_
          refine WR.nil ?_
          refine At.go ?_
          refine WC.ret (by kernel_rfl) ?_
          obtain rfl := Option.some.inj H
          have hS : Sat w43 B [pts b0 (.cells #[.int .i64 p0.1, .int .i64 p0.2.1, .slice A2 y41.length c3] 52 (0, 0)), osl 40 (r0 (.int .u64)) 1 A2 c3 y41] := hS.sel [1, 0] (by kernel_rfl)
          have hS : Sat w43 B [O52 b0 (p0.1, p0.2.1, y41)] := O52.close (p0.1, p0.2.1, y41) A2 c3 hS
          have hS : Sat w43 B [O52 b0 (p0.1, p0.2.1, y41)] := hS.sel [0] (by kernel_rfl)
          exact At.body [.bool true] (by kernel_rfl) ⟨_, rfl, rfl, hS⟩
        · replace H := ite_f H hb34
          refine WC.skip (by kernel_rfl) ?_
          refine At.go ?_
          refine WC.seq (by kernel_rfl) ?_
          refine WC.reg [0] (by kernel_rfl) (by kernel_rfl) ?_
          refine WR.runk [0] [] [6] (L' := [(6, .bool true)]) (w' := w32) (by kernel_rfl) ?_
          refine WR.nil ?_
          refine At.go ?_
          refine WC.ret (by kernel_rfl) ?_
          obtain rfl := Option.some.inj H
          have hS : Sat w32 B [pts b0 (.cells #[.int .i64 p0.1, .int .i64 p0.2.1, .slice A2 y30.length c3] 52 (0, 0)), osl 40 (r0 (.int .u64)) 1 A2 c3 y30] := hS.sel [1, 0] (by kernel_rfl)
          have hS : Sat w32 B [O52 b0 (p0.1, p0.2.1, y30)] := O52.close (p0.1, p0.2.1, y30) A2 c3 hS
          have hS : Sat w32 B [O52 b0 (p0.1, p0.2.1, y30)] := hS.sel [0] (by kernel_rfl)
          exact At.body [.bool true] (by kernel_rfl) ⟨_, rfl, rfl, hS⟩
/-! ### 28 (*colophon/pack.Ints).Width -/
def pack_Ints_Width.f (p0 : Option (Int × Int × (List Int))) : Option Int := (match p0 with | none => some 0 | some y3 => some y3.1)
def pack_Ints_Width.post (w : World) (r : Int) (v : Value) (w' : World) : Prop := v = (.int .i64 r : Value) ∧ Sat w' (rf w) []
theorem pack_Ints_Width.calls (w0 : World) (v0 : Value) (p0 : Option (Int × Int × (List Int))) (R0 : rd (hp w0) (.ptr 52 (.pair (.int .i64) (.pair (.int .i64) (.slice 40 (.int .u64))))) [v0] p0) (r : Int) (H : pack_Ints_Width.f p0 = some r) :
    Calls Try.prog 28 #[v0] w0 (fun e w' => ∃ v, e = .returned v ∧ pack_Ints_Width.post w0 r v w') := by
  have hS : Sat w0 (rf w0) [] := Sat.start w0
  unfold pack_Ints_Width.f at H
  refine calls_of_WC (vs := [v0]) Try.func28 (c := C28) (n := 9) (by kernel_rfl) (by kernel_rfl) (by kernel_rfl) ?_
  refine WC.seq (by kernel_rfl) ?_
  refine WC.reg [0] (by kernel_rfl) (by kernel_rfl) ?_
  refine WR.runk [0] [] [0] (L' := [(0, v0)]) (w' := w0) (by kernel_rfl) ?_
  refine WR.nil ?_
  refine At.go ?_
  refine WC.seq (by kernel_rfl) ?_
  refine WC.seq (by kernel_rfl) ?_
  refine WC.reg [0, 1] (by kernel_rfl) (by kernel_rfl) ?_
  refine WR.runk [0] [1] [0, 3] (L' := [(0, v0), (3, v0)]) (w' := w0) (by kernel_rfl) ?_
  rcases opt_cases p0 with hr1 | ⟨y3, hr1⟩
  · rw [hr1] at H
    dsimp only at H
    have hx2 := rd_ptr_none R0 hr1
    try subst hx2
    refine WR.runk [1] [] [0, 4] (L' := [(0, .pointer none), (4, .bool true)]) (w' := w0) (by kernel_rfl) ?_
    refine WR.nil ?_
    refine At.go ?_
    refine WC.condT (by kernel_rfl) (by kernel_rfl) (by kernel_rfl) ?_
    refine WC.seq (by kernel_rfl) ?_
    refine WC.reg [0] (by kernel_rfl) (by kernel_rfl) ?_
    refine WR.runk [0] [] [2] (L' := [(2, .int .i64 0)]) (w' := w0) (by kernel_rfl) ?_
    refine WR.nil ?_
    refine At.go ?_
    refine WC.ret (by kernel_rfl) ?_
    refine At.thenRet ?_
    obtain rfl := Option.some.inj H
    have hS : Sat w0 (rf w0) [] := hS.sel [] (by kernel_rfl)
    exact At.body [.int .i64 0] (by kernel_rfl) ⟨_, rfl, rfl, hS⟩
  · rw [hr1] at H
    dsimp only at H
    obtain ⟨b4, fr5, A9, c10, hv6, hb7, R11⟩ := P52.open R0 hr1
    have R8 := R0
    rw [hv6, hr1] at R8
    try subst hv6
    replace R11 : rdS (r0 (.int .u64)) 1 (hp w0) A9 c10 y3.2.2 := R11
    refine WR.runk [1] [] [0, 4] (L' := [(0, .pointer (some ⟨b4, 0, none⟩)), (4, .bool false)]) (w' := w0) (by kernel_rfl) ?_
    refine WR.nil ?_
    refine At.go ?_
    refine WC.condF (by kernel_rfl) (by kernel_rfl) (by kernel_rfl) ?_
    refine WC.skip (by kernel_rfl) ?_
    refine At.go ?_
    refine WC.seq (by kernel_rfl) ?_
    refine WC.reg [0, 1, 2, 3, 4] (by kernel_rfl) (by kernel_rfl) ?_
    refine WR.runk [0, 1, 2] [3, 4] [7] (L' := [(7, .pointer (some ⟨b4, 0, none⟩))]) (w' := w0) (by kernel_rfl) ?_
    refine WR.st (St.ofR (RSt.loadRo (t := 3) (k := 0) (v := .int .i64 y3.1) (.tmp 7) (by kernel_rfl) (by kernel_rfl) (by kernel_rfl) hS.sub0 hb7 (by kernel_rfl) rfl ?_))
    refine WR.runk [4] [] [2] (L' := [(2, .int .i64 y3.1)]) (w' := w0) (by kernel_rfl) ?_
    refine WR.nil ?_
    refine At.go ?_
    refine WC.ret (by kernel_rfl) ?_
    obtain rfl := Option.some.inj H
    have hS : Sat w0 (rf w0) [] := hS.sel [] (by kernel_rfl)
    exact At.body [.int .i64 y3.1] (by kernel_rfl) ⟨_, rfl, rfl, hS⟩
/-! ### 29 (*colophon/pack.Ints).Len -/
def pack_Ints_Len.f (p0 : Option (Int × Int × (List Int))) : Option Int := (match p0 with | none => some 0 | some y3 => some y3.2.1)
def pack_Ints_Len.post (w : World) (r : Int) (v : Value) (w' : World) : Prop := v = (.int .i64 r : Value) ∧ Sat w' (rf w) []
theorem pack_Ints_Len.calls (w0 : World) (v0 : Value) (p0 : Option (Int × Int × (List Int))) (R0 : rd (hp w0) (.ptr 52 (.pair (.int .i64) (.pair (.int .i64) (.slice 40 (.int .u64))))) [v0] p0) (r : Int) (H : pack_Ints_Len.f p0 = some r) :
    Calls Try.prog 29 #[v0] w0 (fun e w' => ∃ v, e = .returned v ∧ pack_Ints_Len.post w0 r v w') := by
  have hS : Sat w0 (rf w0) [] := Sat.start w0
  unfold pack_Ints_Len.f at H
  refine calls_of_WC (vs := [v0]) Try.func29 (c := C29) (n := 9) (by kernel_rfl) (by kernel_rfl) (by kernel_rfl) ?_
  refine WC.seq (by kernel_rfl) ?_
  refine WC.reg [0] (by kernel_rfl) (by kernel_rfl) ?_
  refine WR.runk [0] [] [0] (L' := [(0, v0)]) (w' := w0) (by kernel_rfl) ?_
  refine WR.nil ?_
  refine At.go ?_
  refine WC.seq (by kernel_rfl) ?_
  refine WC.seq (by kernel_rfl) ?_
  refine WC.reg [0, 1] (by kernel_rfl) (by kernel_rfl) ?_
  refine WR.runk [0] [1] [0, 3] (L' := [(0, v0), (3, v0)]) (w' := w0) (by kernel_rfl) ?_
  rcases opt_cases p0 with hr1 | ⟨y3, hr1⟩
  · rw [hr1] at H
    dsimp only at H
    have hx2 := rd_ptr_none R0 hr1
    try subst hx2
    refine WR.runk [1] [] [0, 4] (L' := [(0, .pointer none), (4, .bool true)]) (w' := w0) (by kernel_rfl) ?_
    refine WR.nil ?_
    refine At.go ?_
    refine WC.condT (by kernel_rfl) (by kernel_rfl) (by kernel_rfl) ?_
    refine WC.seq (by kernel_rfl) ?_
    refine WC.reg [0] (by kernel_rfl) (by kernel_rfl) ?_
    refine WR.runk [0] [] [2] (L' := [(2, .int .i64 0)]) (w' := w0) (by kernel_rfl) ?_
    refine WR.nil ?_
    refine At.go ?_
    refine WC.ret (by kernel_rfl) ?_
    refine At.thenRet ?_
    obtain rfl := Option.some.inj H
    have hS : Sat w0 (rf w0) [] := hS.sel [] (by kernel_rfl)
    exact At.body [.int .i64 0] (by kernel_rfl) ⟨_, rfl, rfl, hS⟩
  · rw [hr1] at H
    dsimp only at H
    obtain ⟨b4, fr5, A9, c10, hv6, hb7, R11⟩ := P52.open R0 hr1
    have R8 := R0
    rw [hv6, hr1] at R8
    try subst hv6
    replace R11 : rdS (r0 (.int .u64)) 1 (hp w0) A9 c10 y3.2.2 := R11
    refine WR.runk [1] [] [0, 4] (L' := [(0, .pointer (some ⟨b4, 0, none⟩)), (4, .bool false)]) (w' := w0) (by kernel_rfl) ?_
    refine WR.nil ?_
    refine At.go ?_
    refine WC.condF (by kernel_rfl) (by kernel_rfl) (by kernel_rfl) ?_
    refine WC.skip (by kernel_rfl) ?_
    refine At.go ?_
    refine WC.seq (by kernel_rfl) ?_
    refine WC.reg [0, 1, 2, 3, 4] (by kernel_rfl) (by kernel_rfl) ?_
    refine WR.runk [0, 1, 2] [3, 4] [7] (L' := [(7, .pointer (some ⟨b4, 1, none⟩))]) (w' := w0) (by kernel_rfl) ?_
    refine WR.st (St.ofR (RSt.loadRo (t := 3) (k := 1) (v := .int .i64 y3.2.1) (.tmp 7) (by kernel_rfl) (by kernel_rfl) (by kernel_rfl) hS.sub0 hb7 (by kernel_rfl) rfl ?_))
    refine WR.runk [4] [] [2] (L' := [(2, .int .i64 y3.2.1)]) (w' := w0) (by kernel_rfl) ?_
    refine WR.nil ?_
    refine At.go ?_
    refine WC.ret (by kernel_rfl) ?_
    obtain rfl := Option.some.inj H
    have hS : Sat w0 (rf w0) [] := hS.sel [] (by kernel_rfl)
    exact At.body [.int .i64 y3.2.1] (by kernel_rfl) ⟨_, rfl, rfl, hS⟩
/-! ### 33 slices.Clone[[]uint64,uint64] -/
def slices_Clone.f (l0 : List Int) : Option (List Int) := ((app? 17592186044416 (([] : List Int) : List Int) l0).bind fun y5 => some y5)
def slices_Clone.post (w : World) (r : (List Int)) (v : Value) (w' : World) : Prop := ∃ (A0' : Option Addr) (c0' : Nat), v = (.slice A0' r.length c0' : Value) ∧ Sat w' (rf w) [osl 40 (r0 (.int .u64)) 1 A0' c0' r]
theorem slices_Clone.calls (w0 : World) (A0 : Option Addr) (c0 : Nat) (l0 : List Int) (R0 : rdS (r0 (.int .u64)) 1 (hp w0) A0 c0 l0) (r : (List Int)) (H : slices_Clone.f l0 = some r) :
    Calls Try.prog 33 #[.slice A0 l0.length c0] w0 (fun e w' => ∃ v, e = .returned v ∧ slices_Clone.post w0 r v w') := by
  have hS : Sat w0 (rf w0) [] := Sat.start w0
  unfold slices_Clone.f at H
  refine calls_of_WC (vs := [.slice A0 l0.length c0]) Try.func33 (c := C33) (n := 8) (by kernel_rfl) (by kernel_rfl) (by kernel_rfl) ?_
  refine WC.seq (by kernel_rfl) ?_
  refine WC.reg [0] (by kernel_rfl) (by kernel_rfl) ?_
  refine WR.runk [0] [] [0] (L' := [(0, .slice A0 l0.length c0)]) (w' := w0) (by kernel_rfl) ?_
  refine WR.nil ?_
  refine At.go ?_
  refine WC.seq (by kernel_rfl) ?_
  refine WC.seq (by kernel_rfl) ?_
  refine WC.reg [0, 1] (by kernel_rfl) (by kernel_rfl) ?_
  refine WR.runk [0] [1] [0, 3] (L' := [(0, .slice A0 l0.length c0), (3, .slice A0 l0.length c0)]) (w' := w0) (by kernel_rfl) ?_
  refine WR.st (St.ofP (PSt.eqNil (t := 44) (t2 := 44) (e := 40) (A := A0) (m := l0.length) (c := c0) .eql (by decide) (.tmp 3) (by kernel_rfl) (by kernel_rfl) (by kernel_rfl) (by kernel_rfl) ?_))
  refine WR.runk [] [] [0, 4] (L' := [(0, .slice A0 l0.length c0), (4, .bool A0.isNone)]) (w' := w0) (by kernel_rfl) ?_
  refine WR.nil ?_
  refine At.go ?_
  refine WC.cond (by kernel_rfl) A0.isNone (by kernel_rfl) (by kernel_rfl) (fun hb1 => ?_) (fun hb1 => ?_)
  · have hnl := rdS.isNone (rdS.up R0 hS.sub0) (by simpa using hb1)
    rw [hnl] at H
    refine WC.seq (by kernel_rfl) ?_
    refine WC.reg [0] (by kernel_rfl) (by kernel_rfl) ?_
    refine WR.runk [0] [] [2] (L' := [(2, .slice none 0 0)]) (w' := w0) (by kernel_rfl) ?_
    refine WR.nil ?_
    refine At.go ?_
    refine WC.ret (by kernel_rfl) ?_
    refine At.thenRet ?_
    obtain rfl := Option.some.inj (show some ([] : List Int) = some r from H)
    have hS := hS.addNil (α := Int) 40 (r0 (.int .u64)) 1
    have hS : Sat w0 (rf w0) [osl 40 (r0 (.int .u64)) 1 none 0 ([] : List Int)] := hS.sel [0] (by kernel_rfl)
    exact At.body [.slice none 0 0] (by kernel_rfl) ⟨_, rfl, _, _, rfl, hS⟩
  · refine WC.skip (by kernel_rfl) ?_
    refine At.go ?_
    refine WC.seq (by kernel_rfl) ?_
    refine WC.reg [0, 1, 2, 3] (by kernel_rfl) (by kernel_rfl) ?_
    refine WR.runk [] [0, 1, 2, 3] [0] (L' := [(0, .slice A0 l0.length c0)]) (w' := w0) (by kernel_rfl) ?_
    refine WR.st (St.box hS (by kernel_rfl) (.cells #[] 40) (fun b2 => .slice (some ⟨b2, 0, none⟩) 0 0) (fun _ => by kernel_rfl) (fun b2 w3 hS => ?_))
    refine WR.runk [1] [2, 3] [5, 6] (L' := [(5, .slice (some ⟨b2, 0, none⟩) 0 0), (6, .slice A0 l0.length c0)]) (w' := w3) (by kernel_rfl) ?_
    have hS : Sat w3 (rf w0) [osl 40 (r0 (.int .u64)) 1 (some ⟨b2, 0, none⟩) (([] : List Int) : List Int).length (([] : List Int) : List Int)] := Sat.toOsl' (r0 (.int .u64)) 1 (([] : List Int) : List Int) hS rfl (rdL.nil _ _)
    obtain ⟨y5, e4, H⟩ := bind_ex H
    refine WR.st (St.append' (.tmp 5) (.tmp 6) (by kernel_rfl) (by kernel_rfl) E44 (r0_one _) hS (by kernel_rfl) (by kernel_rfl) (rdS.up R0 hS.sub0) 17592186044416 (by kernel_rfl) (by kernel_rfl) e4 (fun A6 c7 w8 hS => ?_))
    refine WR.runk [3] [] [2] (L' := [(2, .slice A6 y5.length c7)]) (w' := w8) (by kernel_rfl) ?_
    refine WR.nil ?_
    refine At.go ?_
    refine WC.ret (by kernel_rfl) ?_
    obtain rfl := Option.some.inj H
    have hS : Sat w8 (rf w0) [osl 40 (r0 (.int .u64)) 1 A6 c7 y5] := hS.sel [0] (by kernel_rfl)
    exact At.body [.slice A6 y5.length c7] (by kernel_rfl) ⟨_, rfl, _, _, rfl, hS⟩
/-! ### 30 (*colophon/pack.Ints).Words -/
def pack_Ints_Words.f (p0 : Option (Int × Int × (List Int))) : Option (List Int) := (match p0 with | none => some ([] : List Int) | some y3 => ((slices_Clone.f y3.2.2).bind fun r12 => some r12))
def pack_Ints_Words.post (w : World) (r : (List Int)) (v : Value) (w' : World) : Prop := ∃ (A0' : Option Addr) (c0' : Nat), v = (.slice A0' r.length c0' : Value) ∧ Sat w' (rf w) [osl 40 (r0 (.int .u64)) 1 A0' c0' r]
theorem pack_Ints_Words.calls (w0 : World) (v0 : Value) (p0 : Option (Int × Int × (List Int))) (R0 : rd (hp w0) (.ptr 52 (.pair (.int .i64) (.pair (.int .i64) (.slice 40 (.int .u64))))) [v0] p0) (r : (List Int)) (H : pack_Ints_Words.f p0 = some r) :
    Calls Try.prog 30 #[v0] w0 (fun e w' => ∃ v, e = .returned v ∧ pack_Ints_Words.post w0 r v w') := by
  have hS : Sat w0 (rf w0) [] := Sat.start w0
  unfold pack_Ints_Words.f at H
  refine calls_of_WC (vs := [v0]) Try.func30 (c := C30) (n := 10) (by kernel_rfl) (by kernel_rfl) (by kernel_rfl) ?_
  refine WC.seq (by kernel_rfl) ?_
  refine WC.reg [0] (by kernel_rfl) (by kernel_rfl) ?_
  refine WR.runk [0] [] [0] (L' := [(0, v0)]) (w' := w0) (by kernel_rfl) ?_
  refine WR.nil ?_
  refine At.go ?_
  refine WC.seq (by kernel_rfl) ?_
  refine WC.seq (by kernel_rfl) ?_
  refine WC.reg [0, 1] (by kernel_rfl) (by kernel_rfl) ?_
  refine WR.runk [0] [1] [0, 3] (L' := [(0, v0), (3, v0)]) (w' := w0) (by kernel_rfl) ?_
  rcases opt_cases p0 with hr1 | ⟨y3, hr1⟩
  · rw [hr1] at H
    dsimp only at H
    have hx2 := rd_ptr_none R0 hr1
    try subst hx2
    refine WR.runk [1] [] [0, 4] (L' := [(0, .pointer none), (4, .bool true)]) (w' := w0) (by kernel_rfl) ?_
    refine WR.nil ?_
    refine At.go ?_
    refine WC.condT (by kernel_rfl) (by kernel_rfl) (by kernel_rfl) ?_
    refine WC.seq (by kernel_rfl) ?_
    refine WC.reg [0] (by kernel_rfl) (by kernel_rfl) ?_
    refine WR.runk [0] [] [2] (L' := [(2, .slice none 0 0)]) (w' := w0) (by kernel_rfl) ?_
    refine WR.nil ?_
    refine At.go ?_
    refine WC.ret (by kernel_rfl) ?_
    refine At.thenRet ?_
    obtain rfl := Option.some.inj H
    have hS := hS.addNil (α := Int) 40 (r0 (.int .u64)) 1
    have hS : Sat w0 (rf w0) [osl 40 (r0 (.int .u64)) 1 none 0 ([] : List Int)] := hS.sel [0] (by kernel_rfl)
    exact At.body [.slice none 0 0] (by kernel_rfl) ⟨_, rfl, _, _, rfl, hS⟩
  · rw [hr1] at H
    dsimp only at H
    obtain ⟨b4, fr5, A9, c10, hv6, hb7, R11⟩ := P52.open R0 hr1
    have R8 := R0
    rw [hv6, hr1] at R8
    try subst hv6
    replace R11 : rdS (r0 (.int .u64)) 1 (hp w0) A9 c10 y3.2.2 := R11
    refine WR.runk [1] [] [0, 4] (L' := [(0, .pointer (some ⟨b4, 0, none⟩)), (4, .bool false)]) (w' := w0) (by kernel_rfl) ?_
    refine WR.nil ?_
    refine At.go ?_
    refine WC.condF (by kernel_rfl) (by kernel_rfl) (by kernel_rfl) ?_
    refine WC.skip (by kernel_rfl) ?_
    refine At.go ?_
    refine WC.seq (by kernel_rfl) ?_
    refine WC.reg [0, 1, 2, 3, 4, 5] (by kernel_rfl) (by kernel_rfl) ?_
    refine WR.runk [0, 1, 2] [3, 4, 5] [7] (L' := [(7, .pointer (some ⟨b4, 2, none⟩))]) (w' := w0) (by kernel_rfl) ?_
    refine WR.st (St.ofR (RSt.loadRo (t := 44) (k := 2) (v := .slice A9 y3.2.2.length c10) (.tmp 7) (by kernel_rfl) (by kernel_rfl) (by kernel_rfl) hS.sub0 hb7 (by kernel_rfl) rfl ?_))
    refine WR.runk [] [4, 5] [8] (L' := [(8, .slice A9 y3.2.2.length c10)]) (w' := w0) (by kernel_rfl) ?_
    obtain ⟨r12, e13, H⟩ := bind_ex H
    refine WR.st (St.call (by kernel_rfl) (f := 33) (args := #[.slice A9 y3.2.2.length c10]) (by kernel_rfl) (slices_Clone.calls w0 A9 c10 y3.2.2 (rdS.up R11 hS.sub0) r12 e13) ?_)
    rintro _ w19 ⟨A21, c22, rfl, hS20⟩
    have hS : Sat w19 (rf w0) [osl 40 (r0 (.int .u64)) 1 A21 c22 r12] := hS.ext hS20
    refine WR.runk [5] [] [2] (L' := [(2, .slice A21 r12.length c22)]) (w' := w19) (by kernel_rfl) ?_
    refine WR.nil ?_
    refine At.go ?_
    refine WC.ret (by kernel_rfl) ?_
    obtain rfl := Option.some.inj H
    have hS : Sat w19 (rf w0) [osl 40 (r0 (.int .u64)) 1 A21 c22 r12] := hS.sel [0] (by kernel_rfl)
    exact At.body [.slice A21 r12.length c22] (by kernel_rfl) ⟨_, rfl, _, _, rfl, hS⟩
/-! ### 24 math/bits.OnesCount64 -/
def bits_OnesCount64.f (a0 : Int) : Option Int := some (iand .i64 (wi (IntKind.wrap .u64 ((IntKind.wrap .u64 ((IntKind.wrap .u64 ((iand .u64 (IntKind.wrap .u64 ((ishr .u64 (IntKind.wrap .u64 ((iand .u64 (ishr .u64 (IntKind.wrap .u64 ((iand .u64 (ishr .u64 a0 1) 6148914691236517205) + (iand .u64 a0 6148914691236517205))) 2) 3689348814741910323) + (iand .u64 (IntKind.wrap .u64 ((iand .u64 (ishr .u64 a0 1) 6148914691236517205) + (iand .u64 a0 6148914691236517205))) 3689348814741910323))) 4) + (IntKind.wrap .u64 ((iand .u64 (ishr .u64 (IntKind.wrap .u64 ((iand .u64 (ishr .u64 a0 1) 6148914691236517205) + (iand .u64 a0 6148914691236517205))) 2) 3689348814741910323) + (iand .u64 (IntKind.wrap .u64 ((iand .u64 (ishr .u64 a0 1) 6148914691236517205) + (iand .u64 a0 6148914691236517205))) 3689348814741910323))))) 1085102592571150095) + (ishr .u64 (iand .u64 (IntKind.wrap .u64 ((ishr .u64 (IntKind.wrap .u64 ((iand .u64 (ishr .u64 (IntKind.wrap .u64 ((iand .u64 (ishr .u64 a0 1) 6148914691236517205) + (iand .u64 a0 6148914691236517205))) 2) 3689348814741910323) + (iand .u64 (IntKind.wrap .u64 ((iand .u64 (ishr .u64 a0 1) 6148914691236517205) + (iand .u64 a0 6148914691236517205))) 3689348814741910323))) 4) + (IntKind.wrap .u64 ((iand .u64 (ishr .u64 (IntKind.wrap .u64 ((iand .u64 (ishr .u64 a0 1) 6148914691236517205) + (iand .u64 a0 6148914691236517205))) 2) 3689348814741910323) + (iand .u64 (IntKind.wrap .u64 ((iand .u64 (ishr .u64 a0 1) 6148914691236517205) + (iand .u64 a0 6148914691236517205))) 3689348814741910323))))) 1085102592571150095) 8))) + (ishr .u64 (IntKind.wrap .u64 ((iand .u64 (IntKind.wrap .u64 ((ishr .u64 (IntKind.wrap .u64 ((iand .u64 (ishr .u64 (IntKind.wrap .u64 ((iand .u64 (ishr .u64 a0 1) 6148914691236517205) + (iand .u64 a0 6148914691236517205))) 2) 3689348814741910323) + (iand .u64 (IntKind.wrap .u64 ((iand .u64 (ishr .u64 a0 1) 6148914691236517205) + (iand .u64 a0 6148914691236517205))) 3689348814741910323))) 4) + (IntKind.wrap .u64 ((iand .u64 (ishr .u64 (IntKind.wrap .u64 ((iand .u64 (ishr .u64 a0 1) 6148914691236517205) + (iand .u64 a0 6148914691236517205))) 2) 3689348814741910323) + (iand .u64 (IntKind.wrap .u64 ((iand .u64 (ishr .u64 a0 1) 6148914691236517205) + (iand .u64 a0 6148914691236517205))) 3689348814741910323))))) 1085102592571150095) + (ishr .u64 (iand .u64 (IntKind.wrap .u64 ((ishr .u64 (IntKind.wrap .u64 ((iand .u64 (ishr .u64 (IntKind.wrap .u64 ((iand .u64 (ishr .u64 a0 1) 6148914691236517205) + (iand .u64 a0 6148914691236517205))) 2) 3689348814741910323) + (iand .u64 (IntKind.wrap .u64 ((iand .u64 (ishr .u64 a0 1) 6148914691236517205) + (iand .u64 a0 6148914691236517205))) 3689348814741910323))) 4) + (IntKind.wrap .u64 ((iand .u64 (ishr .u64 (IntKind.wrap .u64 ((iand .u64 (ishr .u64 a0 1) 6148914691236517205) + (iand .u64 a0 6148914691236517205))) 2) 3689348814741910323) + (iand .u64 (IntKind.wrap .u64 ((iand .u64 (ishr .u64 a0 1) 6148914691236517205) + (iand .u64 a0 6148914691236517205))) 3689348814741910323))))) 1085102592571150095) 8))) 16))) + (ishr .u64 (IntKind.wrap .u64 ((IntKind.wrap .u64 ((iand .u64 (IntKind.wrap .u64 ((ishr .u64 (IntKind.wrap .u64 ((iand .u64 (ishr .u64 (IntKind.wrap .u64 ((iand .u64 (ishr .u64 a0 1) 6148914691236517205) + (iand .u64 a0 6148914691236517205))) 2) 3689348814741910323) + (iand .u64 (IntKind.wrap .u64 ((iand .u64 (ishr .u64 a0 1) 6148914691236517205) + (iand .u64 a0 6148914691236517205))) 3689348814741910323))) 4) + (IntKind.wrap .u64 ((iand .u64 (ishr .u64 (IntKind.wrap .u64 ((iand .u64 (ishr .u64 a0 1) 6148914691236517205) + (iand .u64 a0 6148914691236517205))) 2) 3689348814741910323) + (iand .u64 (IntKind.wrap .u64 ((iand .u64 (ishr .u64 a0 1) 6148914691236517205) + (iand .u64 a0 6148914691236517205))) 3689348814741910323))))) 1085102592571150095) + (ishr .u64 (iand .u64 (IntKind.wrap .u64 ((ishr .u64 (IntKind.wrap .u64 ((iand .u64 (ishr .u64 (IntKind.wrap .u64 ((iand .u64 (ishr .u64 a0 1) 6148914691236517205) + (iand .u64 a0 6148914691236517205))) 2) 3689348814741910323) + (iand .u64 (IntKind.wrap .u64 ((iand .u64 (ishr .u64 a0 1) 6148914691236517205) + (iand .u64 a0 6148914691236517205))) 3689348814741910323))) 4) + (IntKind.wrap .u64 ((iand .u64 (ishr .u64 (IntKind.wrap .u64 ((iand .u64 (ishr .u64 a0 1) 6148914691236517205) + (iand .u64 a0 6148914691236517205))) 2) 3689348814741910323) + (iand .u64 (IntKind.wrap .u64 ((iand .u64 (ishr .u64 a0 1) 6148914691236517205) + (iand .u64 a0 6148914691236517205))) 3689348814741910323))))) 1085102592571150095) 8))) + (ishr .u64 (IntKind.wrap .u64 ((iand .u64 (IntKind.wrap .u64 ((ishr .u64 (IntKind.wrap .u64 ((iand .u64 (ishr .u64 (IntKind.wrap .u64 ((iand .u64 (ishr .u64 a0 1) 6148914691236517205) + (iand .u64 a0 6148914691236517205))) 2) 3689348814741910323) + (iand .u64 (IntKind.wrap .u64 ((iand .u64 (ishr .u64 a0 1) 6148914691236517205) + (iand .u64 a0 6148914691236517205))) 3689348814741910323))) 4) + (IntKind.wrap .u64 ((iand .u64 (ishr .u64 (IntKind.wrap .u64 ((iand .u64 (ishr .u64 a0 1) 6148914691236517205) + (iand .u64 a0 6148914691236517205))) 2) 3689348814741910323) + (iand .u64 (IntKind.wrap .u64 ((iand .u64 (ishr .u64 a0 1) 6148914691236517205) + (iand .u64 a0 6148914691236517205))) 3689348814741910323))))) 1085102592571150095) + (ishr .u64 (iand .u64 (IntKind.wrap .u64 ((ishr .u64 (IntKind.wrap .u64 ((iand .u64 (ishr .u64 (IntKind.wrap .u64 ((iand .u64 (ishr .u64 a0 1) 6148914691236517205) + (iand .u64 a0 6148914691236517205))) 2) 3689348814741910323) + (iand .u64 (IntKind.wrap .u64 ((iand .u64 (ishr .u64 a0 1) 6148914691236517205) + (iand .u64 a0 6148914691236517205))) 3689348814741910323))) 4) + (IntKind.wrap .u64 ((iand .u64 (ishr .u64 (IntKind.wrap .u64 ((iand .u64 (ishr .u64 a0 1) 6148914691236517205) + (iand .u64 a0 6148914691236517205))) 2) 3689348814741910323) + (iand .u64 (IntKind.wrap .u64 ((iand .u64 (ishr .u64 a0 1) 6148914691236517205) + (iand .u64 a0 6148914691236517205))) 3689348814741910323))))) 1085102592571150095) 8))) 16))) 32)))) 127)
def bits_OnesCount64.post (w : World) (r : Int) (v : Value) (w' : World) : Prop := v = (.int .i64 r : Value) ∧ Sat w' (rf w) []
theorem bits_OnesCount64.calls (w0 : World) (a0 : Int) (r : Int) (H : bits_OnesCount64.f a0 = some r) :
    Calls Try.prog 24 #[.int .u64 a0] w0 (fun e w' => ∃ v, e = .returned v ∧ bits_OnesCount64.post w0 r v w') := by
  have hS : Sat w0 (rf w0) [] := Sat.start w0
  unfold bits_OnesCount64.f at H
  refine calls_of_WC (vs := [.int .u64 a0]) Try.func24 (c := C24) (n := 35) (by kernel_rfl) (by kernel_rfl) (by kernel_rfl) ?_
  refine WC.seq (by kernel_rfl) ?_
  refine WC.reg [0] (by kernel_rfl) (by kernel_rfl) ?_
  refine WR.runk [0] [] [0] (L' := [(0, .int .u64 a0)]) (w' := w0) (by kernel_rfl) ?_
  refine WR.nil ?_
  refine At.go ?_
  refine WC.seq (by kernel_rfl) ?_
  refine WC.reg [0, 1, 2, 3, 4, 5, 6] (by kernel_rfl) (by kernel_rfl) ?_
  refine WR.runk [0, 1, 2, 3, 4, 5, 6] [] [0] (L' := [(0, .int .u64 (IntKind.wrap .u64 ((iand .u64 (ishr .u64 a0 1) 6148914691236517205) + (iand .u64 a0 6148914691236517205))))]) (w' := w0) (by kernel_rfl) ?_
  refine WR.nil ?_
  refine At.go ?_
  refine WC.seq (by kernel_rfl) ?_
  refine WC.reg [0, 1, 2, 3, 4, 5, 6] (by kernel_rfl) (by kernel_rfl) ?_
  refine WR.runk [0, 1, 2, 3, 4, 5, 6] [] [0] (L' := [(0, .int .u64 (IntKind.wrap .u64 ((iand .u64 (ishr .u64 (IntKind.wrap .u64 ((iand .u64 (ishr .u64 a0 1) 6148914691236517205) + (iand .u64 a0 6148914691236517205))) 2) 3689348814741910323) + (iand .u64 (IntKind.wrap .u64 ((iand .u64 (ishr .u64 a0 1) 6148914691236517205) + (iand .u64 a0 6148914691236517205))) 3689348814741910323))))]) (w' := w0) (by kernel_rfl) ?_
  refine WR.nil ?_
  refine At.go ?_
  refine WC.seq (by kernel_rfl) ?_
  refine WC.reg [0, 1, 2, 3, 4, 5] (by kernel_rfl) (by kernel_rfl) ?_
  refine WR.runk [0, 1, 2, 3, 4, 5] [] [0] (L' := [(0, .int .u64 (iand .u64 (IntKind.wrap .u64 ((ishr .u64 (IntKind.wrap .u64 ((iand .u64 (ishr .u64 (IntKind.wrap .u64 ((iand .u64 (ishr .u64 a0 1) 6148914691236517205) + (iand .u64 a0 6148914691236517205))) 2) 3689348814741910323) + (iand .u64 (IntKind.wrap .u64 ((iand .u64 (ishr .u64 a0 1) 6148914691236517205) + (iand .u64 a0 6148914691236517205))) 3689348814741910323))) 4) + (IntKind.wrap .u64 ((iand .u64 (ishr .u64 (IntKind.wrap .u64 ((iand .u64 (ishr .u64 a0 1) 6148914691236517205) + (iand .u64 a0 6148914691236517205))) 2) 3689348814741910323) + (iand .u64 (IntKind.wrap .u64 ((iand .u64 (ishr .u64 a0 1) 6148914691236517205) + (iand .u64 a0 6148914691236517205))) 3689348814741910323))))) 1085102592571150095))]) (w' := w0) (by kernel_rfl) ?_
  refine WR.nil ?_
  refine At.go ?_
  refine WC.seq (by kernel_rfl) ?_
  refine WC.reg [0, 1, 2, 3, 4] (by kernel_rfl) (by kernel_rfl) ?_
  refine WR.runk [0, 1, 2, 3, 4] [] [0] (L' := [(0, .int .u64 (IntKind.wrap .u64 ((iand .u64 (IntKind.wrap .u64 ((ishr .u64 (IntKind.wrap .u64 ((iand .u64 (ishr .u64 (IntKind.wrap .u64 ((iand .u64 (ishr .u64 a0 1) 6148914691236517205) + (iand .u64 a0 6148914691236517205))) 2) 3689348814741910323) + (iand .u64 (IntKind.wrap .u64 ((iand .u64 (ishr .u64 a0 1) 6148914691236517205) + (iand .u64 a0 6148914691236517205))) 3689348814741910323))) 4) + (IntKind.wrap .u64 ((iand .u64 (ishr .u64 (IntKind.wrap .u64 ((iand .u64 (ishr .u64 a0 1) 6148914691236517205) + (iand .u64 a0 6148914691236517205))) 2) 3689348814741910323) + (iand .u64 (IntKind.wrap .u64 ((iand .u64 (ishr .u64 a0 1) 6148914691236517205) + (iand .u64 a0 6148914691236517205))) 3689348814741910323))))) 1085102592571150095) + (ishr .u64 (iand .u64 (IntKind.wrap .u64 ((ishr .u64 (IntKind.wrap .u64 ((iand .u64 (ishr .u64 (IntKind.wrap .u64 ((iand .u64 (ishr .u64 a0 1) 6148914691236517205) + (iand .u64 a0 6148914691236517205))) 2) 3689348814741910323) + (iand .u64 (IntKind.wrap .u64 ((iand .u64 (ishr .u64 a0 1) 6148914691236517205) + (iand .u64 a0 6148914691236517205))) 3689348814741910323))) 4) + (IntKind.wrap .u64 ((iand .u64 (ishr .u64 (IntKind.wrap .u64 ((iand .u64 (ishr .u64 a0 1) 6148914691236517205) + (iand .u64 a0 6148914691236517205))) 2) 3689348814741910323) + (iand .u64 (IntKind.wrap .u64 ((iand .u64 (ishr .u64 a0 1) 6148914691236517205) + (iand .u64 a0 6148914691236517205))) 3689348814741910323))))) 1085102592571150095) 8))))]) (w' := w0) (by kernel_rfl) ?_
  refine WR.nil ?_
  refine At.go ?_
  refine WC.seq (by kernel_rfl) ?_
  refine WC.reg [0, 1, 2, 3, 4] (by kernel_rfl) (by kernel_rfl) ?_
  refine WR.runk [0, 1, 2, 3, 4] [] [0] (L' := [(0, .int .u64 (IntKind.wrap .u64 ((IntKind.wrap .u64 ((iand .u64 (IntKind.wrap .u64 ((ishr .u64 (IntKind.wrap .u64 ((iand .u64 (ishr .u64 (IntKind.wrap .u64 ((iand .u64 (ishr .u64 a0 1) 6148914691236517205) + (iand .u64 a0 6148914691236517205))) 2) 3689348814741910323) + (iand .u64 (IntKind.wrap .u64 ((iand .u64 (ishr .u64 a0 1) 6148914691236517205) + (iand .u64 a0 6148914691236517205))) 3689348814741910323))) 4) + (IntKind.wrap .u64 ((iand .u64 (ishr .u64 (IntKind.wrap .u64 ((iand .u64 (ishr .u64 a0 1) 6148914691236517205) + (iand .u64 a0 6148914691236517205))) 2) 3689348814741910323) + (iand .u64 (IntKind.wrap .u64 ((iand .u64 (ishr .u64 a0 1) 6148914691236517205) + (iand .u64 a0 6148914691236517205))) 3689348814741910323))))) 1085102592571150095) + (ishr .u64 (iand .u64 (IntKind.wrap .u64 ((ishr .u64 (IntKind.wrap .u64 ((iand .u64 (ishr .u64 (IntKind.wrap .u64 ((iand .u64 (ishr .u64 a0 1) 6148914691236517205) + (iand .u64 a0 6148914691236517205))) 2) 3689348814741910323) + (iand .u64 (IntKind.wrap .u64 ((iand .u64 (ishr .u64 a0 1) 6148914691236517205) + (iand .u64 a0 6148914691236517205))) 3689348814741910323))) 4) + (IntKind.wrap .u64 ((iand .u64 (ishr .u64 (IntKind.wrap .u64 ((iand .u64 (ishr .u64 a0 1) 6148914691236517205) + (iand .u64 a0 6148914691236517205))) 2) 3689348814741910323) + (iand .u64 (IntKind.wrap .u64 ((iand .u64 (ishr .u64 a0 1) 6148914691236517205) + (iand .u64 a0 6148914691236517205))) 3689348814741910323))))) 1085102592571150095) 8))) + (ishr .u64 (IntKind.wrap .u64 ((iand .u64 (IntKind.wrap .u64 ((ishr .u64 (IntKind.wrap .u64 ((iand .u64 (ishr .u64 (IntKind.wrap .u64 ((iand .u64 (ishr .u64 a0 1) 6148914691236517205) + (iand .u64 a0 6148914691236517205))) 2) 3689348814741910323) + (iand .u64 (IntKind.wrap .u64 ((iand .u64 (ishr .u64 a0 1) 6148914691236517205) + (iand .u64 a0 6148914691236517205))) 3689348814741910323))) 4) + (IntKind.wrap .u64 ((iand .u64 (ishr .u64 (IntKind.wrap .u64 ((iand .u64 (ishr .u64 a0 1) 6148914691236517205) + (iand .u64 a0 6148914691236517205))) 2) 3689348814741910323) + (iand .u64 (IntKind.wrap .u64 ((iand .u64 (ishr .u64 a0 1) 6148914691236517205) + (iand .u64 a0 6148914691236517205))) 3689348814741910323))))) 1085102592571150095) + (ishr .u64 (iand .u64 (IntKind.wrap .u64 ((ishr .u64 (IntKind.wrap .u64 ((iand .u64 (ishr .u64 (IntKind.wrap .u64 ((iand .u64 (ishr .u64 a0 1) 6148914691236517205) + (iand .u64 a0 6148914691236517205))) 2) 3689348814741910323) + (iand .u64 (IntKind.wrap .u64 ((iand .u64 (ishr .u64 a0 1) 6148914691236517205) + (iand .u64 a0 6148914691236517205))) 3689348814741910323))) 4) + (IntKind.wrap .u64 ((iand .u64 (ishr .u64 (IntKind.wrap .u64 ((iand .u64 (ishr .u64 a0 1) 6148914691236517205) + (iand .u64 a0 6148914691236517205))) 2) 3689348814741910323) + (iand .u64 (IntKind.wrap .u64 ((iand .u64 (ishr .u64 a0 1) 6148914691236517205) + (iand .u64 a0 6148914691236517205))) 3689348814741910323))))) 1085102592571150095) 8))) 16))))]) (w' := w0) (by kernel_rfl) ?_
  refine WR.nil ?_
  refine At.go ?_
  refine WC.seq (by kernel_rfl) ?_
  refine WC.reg [0, 1, 2, 3, 4] (by kernel_rfl) (by kernel_rfl) ?_
  refine WR.runk [0, 1, 2, 3, 4] [] [0] (L' := [(0, .int .u64 (IntKind.wrap .u64 ((IntKind.wrap .u64 ((IntKind.wrap .u64 ((iand .u64 (IntKind.wrap .u64 ((ishr .u64 (IntKind.wrap .u64 ((iand .u64 (ishr .u64 (IntKind.wrap .u64 ((iand .u64 (ishr .u64 a0 1) 6148914691236517205) + (iand .u64 a0 6148914691236517205))) 2) 3689348814741910323) + (iand .u64 (IntKind.wrap .u64 ((iand .u64 (ishr .u64 a0 1) 6148914691236517205) + (iand .u64 a0 6148914691236517205))) 3689348814741910323))) 4) + (IntKind.wrap .u64 ((iand .u64 (ishr .u64 (IntKind.wrap .u64 ((iand .u64 (ishr .u64 a0 1) 6148914691236517205) + (iand .u64 a0 6148914691236517205))) 2) 3689348814741910323) + (iand .u64 (IntKind.wrap .u64 ((iand .u64 (ishr .u64 a0 1) 6148914691236517205) + (iand .u64 a0 6148914691236517205))) 3689348814741910323))))) 1085102592571150095) + (ishr .u64 (iand .u64 (IntKind.wrap .u64 ((ishr .u64 (IntKind.wrap .u64 ((iand .u64 (ishr .u64 (IntKind.wrap .u64 ((iand .u64 (ishr .u64 a0 1) 6148914691236517205) + (iand .u64 a0 6148914691236517205))) 2) 3689348814741910323) + (iand .u64 (IntKind.wrap .u64 ((iand .u64 (ishr .u64 a0 1) 6148914691236517205) + (iand .u64 a0 6148914691236517205))) 3689348814741910323))) 4) + (IntKind.wrap .u64 ((iand .u64 (ishr .u64 (IntKind.wrap .u64 ((iand .u64 (ishr .u64 a0 1) 6148914691236517205) + (iand .u64 a0 6148914691236517205))) 2) 3689348814741910323) + (iand .u64 (IntKind.wrap .u64 ((iand .u64 (ishr .u64 a0 1) 6148914691236517205) + (iand .u64 a0 6148914691236517205))) 3689348814741910323))))) 1085102592571150095) 8))) + (ishr .u64 (IntKind.wrap .u64 ((iand .u64 (IntKind.wrap .u64 ((ishr .u64 (IntKind.wrap .u64 ((iand .u64 (ishr .u64 (IntKind.wrap .u64 ((iand .u64 (ishr .u64 a0 1) 6148914691236517205) + (iand .u64 a0 6148914691236517205))) 2) 3689348814741910323) + (iand .u64 (IntKind.wrap .u64 ((iand .u64 (ishr .u64 a0 1) 6148914691236517205) + (iand .u64 a0 6148914691236517205))) 3689348814741910323))) 4) + (IntKind.wrap .u64 ((iand .u64 (ishr .u64 (IntKind.wrap .u64 ((iand .u64 (ishr .u64 a0 1) 6148914691236517205) + (iand .u64 a0 6148914691236517205))) 2) 3689348814741910323) + (iand .u64 (IntKind.wrap .u64 ((iand .u64 (ishr .u64 a0 1) 6148914691236517205) + (iand .u64 a0 6148914691236517205))) 3689348814741910323))))) 1085102592571150095) + (ishr .u64 (iand .u64 (IntKind.wrap .u64 ((ishr .u64 (IntKind.wrap .u64 ((iand .u64 (ishr .u64 (IntKind.wrap .u64 ((iand .u64 (ishr .u64 a0 1) 6148914691236517205) + (iand .u64 a0 6148914691236517205))) 2) 3689348814741910323) + (iand .u64 (IntKind.wrap .u64 ((iand .u64 (ishr .u64 a0 1) 6148914691236517205) + (iand .u64 a0 6148914691236517205))) 3689348814741910323))) 4) + (IntKind.wrap .u64 ((iand .u64 (ishr .u64 (IntKind.wrap .u64 ((iand .u64 (ishr .u64 a0 1) 6148914691236517205) + (iand .u64 a0 6148914691236517205))) 2) 3689348814741910323) + (iand .u64 (IntKind.wrap .u64 ((iand .u64 (ishr .u64 a0 1) 6148914691236517205) + (iand .u64 a0 6148914691236517205))) 3689348814741910323))))) 1085102592571150095) 8))) 16))) + (ishr .u64 (IntKind.wrap .u64 ((IntKind.wrap .u64 ((iand .u64 (IntKind.wrap .u64 ((ishr .u64 (IntKind.wrap .u64 ((iand .u64 (ishr .u64 (IntKind.wrap .u64 ((iand .u64 (ishr .u64 a0 1) 6148914691236517205) + (iand .u64 a0 6148914691236517205))) 2) 3689348814741910323) + (iand .u64 (IntKind.wrap .u64 ((iand .u64 (ishr .u64 a0 1) 6148914691236517205) + (iand .u64 a0 6148914691236517205))) 3689348814741910323))) 4) + (IntKind.wrap .u64 ((iand .u64 (ishr .u64 (IntKind.wrap .u64 ((iand .u64 (ishr .u64 a0 1) 6148914691236517205) + (iand .u64 a0 6148914691236517205))) 2) 3689348814741910323) + (iand .u64 (IntKind.wrap .u64 ((iand .u64 (ishr .u64 a0 1) 6148914691236517205) + (iand .u64 a0 6148914691236517205))) 3689348814741910323))))) 1085102592571150095) + (ishr .u64 (iand .u64 (IntKind.wrap .u64 ((ishr .u64 (IntKind.wrap .u64 ((iand .u64 (ishr .u64 (IntKind.wrap .u64 ((iand .u64 (ishr .u64 a0 1) 6148914691236517205) + (iand .u64 a0 6148914691236517205))) 2) 3689348814741910323) + (iand .u64 (IntKind.wrap .u64 ((iand .u64 (ishr .u64 a0 1) 6148914691236517205) + (iand .u64 a0 6148914691236517205))) 3689348814741910323))) 4) + (IntKind.wrap .u64 ((iand .u64 (ishr .u64 (IntKind.wrap .u64 ((iand .u64 (ishr .u64 a0 1) 6148914691236517205) + (iand .u64 a0 6148914691236517205))) 2) 3689348814741910323) + (iand .u64 (IntKind.wrap .u64 ((iand .u64 (ishr .u64 a0 1) 6148914691236517205) + (iand .u64 a0 6148914691236517205))) 3689348814741910323))))) 1085102592571150095) 8))) + (ishr .u64 (IntKind.wrap .u64 ((iand .u64 (IntKind.wrap .u64 ((ishr .u64 (IntKind.wrap .u64 ((iand .u64 (ishr .u64 (IntKind.wrap .u64 ((iand .u64 (ishr .u64 a0 1) 6148914691236517205) + (iand .u64 a0 6148914691236517205))) 2) 3689348814741910323) + (iand .u64 (IntKind.wrap .u64 ((iand .u64 (ishr .u64 a0 1) 6148914691236517205) + (iand .u64 a0 6148914691236517205))) 3689348814741910323))) 4) + (IntKind.wrap .u64 ((iand .u64 (ishr .u64 (IntKind.wrap .u64 ((iand .u64 (ishr .u64 a0 1) 6148914691236517205) + (iand .u64 a0 6148914691236517205))) 2) 3689348814741910323) + (iand .u64 (IntKind.wrap .u64 ((iand .u64 (ishr .u64 a0 1) 6148914691236517205) + (iand .u64 a0 6148914691236517205))) 3689348814741910323))))) 1085102592571150095) + (ishr .u64 (iand .u64 (IntKind.wrap .u64 ((ishr .u64 (IntKind.wrap .u64 ((iand .u64 (ishr .u64 (IntKind.wrap .u64 ((iand .u64 (ishr .u64 a0 1) 6148914691236517205) + (iand .u64 a0 6148914691236517205))) 2) 3689348814741910323) + (iand .u64 (IntKind.wrap .u64 ((iand .u64 (ishr .u64 a0 1) 6148914691236517205) + (iand .u64 a0 6148914691236517205))) 3689348814741910323))) 4) + (IntKind.wrap .u64 ((iand .u64 (ishr .u64 (IntKind.wrap .u64 ((iand .u64 (ishr .u64 a0 1) 6148914691236517205) + (iand .u64 a0 6148914691236517205))) 2) 3689348814741910323) + (iand .u64 (IntKind.wrap .u64 ((iand .u64 (ishr .u64 a0 1) 6148914691236517205) + (iand .u64 a0 6148914691236517205))) 3689348814741910323))))) 1085102592571150095) 8))) 16))) 32))))]) (w' := w0) (by kernel_rfl) ?_
  refine WR.nil ?_
  refine At.go ?_
  refine WC.seq (by kernel_rfl) ?_
  refine WC.reg [0, 1, 2, 3] (by kernel_rfl) (by kernel_rfl) ?_
  refine WR.runk [0, 1, 2, 3] [] [2] (L' := [(2, .int .i64 (iand .i64 (wi (IntKind.wrap .u64 ((IntKind.wrap .u64 ((IntKind.wrap .u64 ((iand .u64 (IntKind.wrap .u64 ((ishr .u64 (IntKind.wrap .u64 ((iand .u64 (ishr .u64 (IntKind.wrap .u64 ((iand .u64 (ishr .u64 a0 1) 6148914691236517205) + (iand .u64 a0 6148914691236517205))) 2) 3689348814741910323) + (iand .u64 (IntKind.wrap .u64 ((iand .u64 (ishr .u64 a0 1) 6148914691236517205) + (iand .u64 a0 6148914691236517205))) 3689348814741910323))) 4) + (IntKind.wrap .u64 ((iand .u64 (ishr .u64 (IntKind.wrap .u64 ((iand .u64 (ishr .u64 a0 1) 6148914691236517205) + (iand .u64 a0 6148914691236517205))) 2) 3689348814741910323) + (iand .u64 (IntKind.wrap .u64 ((iand .u64 (ishr .u64 a0 1) 6148914691236517205) + (iand .u64 a0 6148914691236517205))) 3689348814741910323))))) 1085102592571150095) + (ishr .u64 (iand .u64 (IntKind.wrap .u64 ((ishr .u64 (IntKind.wrap .u64 ((iand .u64 (ishr .u64 (IntKind.wrap .u64 ((iand .u64 (ishr .u64 a0 1) 6148914691236517205) + (iand .u64 a0 6148914691236517205))) 2) 3689348814741910323) + (iand .u64 (IntKind.wrap .u64 ((iand .u64 (ishr .u64 a0 1) 6148914691236517205) + (iand .u64 a0 6148914691236517205))) 3689348814741910323))) 4) + (IntKind.wrap .u64 ((iand .u64 (ishr .u64 (IntKind.wrap .u64 ((iand .u64 (ishr .u64 a0 1) 6148914691236517205) + (iand .u64 a0 6148914691236517205))) 2) 3689348814741910323) + (iand .u64 (IntKind.wrap .u64 ((iand .u64 (ishr .u64 a0 1) 6148914691236517205) + (iand .u64 a0 6148914691236517205))) 3689348814741910323))))) 1085102592571150095) 8))) + (ishr .u64 (IntKind.wrap .u64 ((iand .u64 (IntKind.wrap .u64 ((ishr .u64 (IntKind.wrap .u64 ((iand .u64 (ishr .u64 (IntKind.wrap .u64 ((iand .u64 (ishr .u64 a0 1) 6148914691236517205) + (iand .u64 a0 6148914691236517205))) 2) 3689348814741910323) + (iand .u64 (IntKind.wrap .u64 ((iand .u64 (ishr .u64 a0 1) 6148914691236517205) + (iand .u64 a0 6148914691236517205))) 3689348814741910323))) 4) + (IntKind.wrap .u64 ((iand .u64 (ishr .u64 (IntKind.wrap .u64 ((iand .u64 (ishr .u64 a0 1) 6148914691236517205) + (iand .u64 a0 6148914691236517205))) 2) 3689348814741910323) + (iand .u64 (IntKind.wrap .u64 ((iand .u64 (ishr .u64 a0 1) 6148914691236517205) + (iand .u64 a0 6148914691236517205))) 3689348814741910323))))) 1085102592571150095) + (ishr .u64 (iand .u64 (IntKind.wrap .u64 ((ishr .u64 (IntKind.wrap .u64 ((iand .u64 (ishr .u64 (IntKind.wrap .u64 ((iand .u64 (ishr .u64 a0 1) 6148914691236517205) + (iand .u64 a0 6148914691236517205))) 2) 3689348814741910323) + (iand .u64 (IntKind.wrap .u64 ((iand .u64 (ishr .u64 a0 1) 6148914691236517205) + (iand .u64 a0 6148914691236517205))) 3689348814741910323))) 4) + (IntKind.wrap .u64 ((iand .u64 (ishr .u64 (IntKind.wrap .u64 ((iand .u64 (ishr .u64 a0 1) 6148914691236517205) + (iand .u64 a0 6148914691236517205))) 2) 3689348814741910323) + (iand .u64 (IntKind.wrap .u64 ((iand .u64 (ishr .u64 a0 1) 6148914691236517205) + (iand .u64 a0 6148914691236517205))) 3689348814741910323))))) 1085102592571150095) 8))) 16))) + (ishr .u64 (IntKind.wrap .u64 ((IntKind.wrap .u64 ((iand .u64 (IntKind.wrap .u64 ((ishr .u64 (IntKind.wrap .u64 ((iand .u64 (ishr .u64 (IntKind.wrap .u64 ((iand .u64 (ishr .u64 a0 1) 6148914691236517205) + (iand .u64 a0 6148914691236517205))) 2) 3689348814741910323) + (iand .u64 (IntKind.wrap .u64 ((iand .u64 (ishr .u64 a0 1) 6148914691236517205) + (iand .u64 a0 6148914691236517205))) 3689348814741910323))) 4) + (IntKind.wrap .u64 ((iand .u64 (ishr .u64 (IntKind.wrap .u64 ((iand .u64 (ishr .u64 a0 1) 6148914691236517205) + (iand .u64 a0 6148914691236517205))) 2) 3689348814741910323) + (iand .u64 (IntKind.wrap .u64 ((iand .u64 (ishr .u64 a0 1) 6148914691236517205) + (iand .u64 a0 6148914691236517205))) 3689348814741910323))))) 1085102592571150095) + (ishr .u64 (iand .u64 (IntKind.wrap .u64 ((ishr .u64 (IntKind.wrap .u64 ((iand .u64 (ishr .u64 (IntKind.wrap .u64 ((iand .u64 (ishr .u64 a0 1) 6148914691236517205) + (iand .u64 a0 6148914691236517205))) 2) 3689348814741910323) + (iand .u64 (IntKind.wrap .u64 ((iand .u64 (ishr .u64 a0 1) 6148914691236517205) + (iand .u64 a0 6148914691236517205))) 3689348814741910323))) 4) + (IntKind.wrap .u64 ((iand .u64 (ishr .u64 (IntKind.wrap .u64 ((iand .u64 (ishr .u64 a0 1) 6148914691236517205) + (iand .u64 a0 6148914691236517205))) 2) 3689348814741910323) + (iand .u64 (IntKind.wrap .u64 ((iand .u64 (ishr .u64 a0 1) 6148914691236517205) + (iand .u64 a0 6148914691236517205))) 3689348814741910323))))) 1085102592571150095) 8))) + (ishr .u64 (IntKind.wrap .u64 ((iand .u64 (IntKind.wrap .u64 ((ishr .u64 (IntKind.wrap .u64 ((iand .u64 (ishr .u64 (IntKind.wrap .u64 ((iand .u64 (ishr .u64 a0 1) 6148914691236517205) + (iand .u64 a0 6148914691236517205))) 2) 3689348814741910323) + (iand .u64 (IntKind.wrap .u64 ((iand .u64 (ishr .u64 a0 1) 6148914691236517205) + (iand .u64 a0 6148914691236517205))) 3689348814741910323))) 4) + (IntKind.wrap .u64 ((iand .u64 (ishr .u64 (IntKind.wrap .u64 ((iand .u64 (ishr .u64 a0 1) 6148914691236517205) + (iand .u64 a0 6148914691236517205))) 2) 3689348814741910323) + (iand .u64 (IntKind.wrap .u64 ((iand .u64 (ishr .u64 a0 1) 6148914691236517205) + (iand .u64 a0 6148914691236517205))) 3689348814741910323))))) 1085102592571150095) + (ishr .u64 (iand .u64 (IntKind.wrap .u64 ((ishr .u64 (IntKind.wrap .u64 ((iand .u64 (ishr .u64 (IntKind.wrap .u64 ((iand .u64 (ishr .u64 a0 1) 6148914691236517205) + (iand .u64 a0 6148914691236517205))) 2) 3689348814741910323) + (iand .u64 (IntKind.wrap .u64 ((iand .u64 (ishr .u64 a0 1) 6148914691236517205) + (iand .u64 a0 6148914691236517205))) 3689348814741910323))) 4) + (IntKind.wrap .u64 ((iand .u64 (ishr .u64 (IntKind.wrap .u64 ((iand .u64 (ishr .u64 a0 1) 6148914691236517205) + (iand .u64 a0 6148914691236517205))) 2) 3689348814741910323) + (iand .u64 (IntKind.wrap .u64 ((iand .u64 (ishr .u64 a0 1) 6148914691236517205) + (iand .u64 a0 6148914691236517205))) 3689348814741910323))))) 1085102592571150095) 8))) 16))) 32)))) 127))]) (w' := w0) (by kernel_rfl) ?_
  refine WR.nil ?_
  refine At.go ?_
  refine WC.ret (by kernel_rfl) ?_
  obtain rfl := Option.some.inj H
  have hS : Sat w0 (rf w0) [] := hS.sel [] (by kernel_rfl)
  exact At.body [.int .i64 (iand .i64 (wi (IntKind.wrap .u64 ((IntKind.wrap .u64 ((IntKind.wrap .u64 ((iand .u64 (IntKind.wrap .u64 ((ishr .u64 (IntKind.wrap .u64 ((iand .u64 (ishr .u64 (IntKind.wrap .u64 ((iand .u64 (ishr .u64 a0 1) 6148914691236517205) + (iand .u64 a0 6148914691236517205))) 2) 3689348814741910323) + (iand .u64 (IntKind.wrap .u64 ((iand .u64 (ishr .u64 a0 1) 6148914691236517205) + (iand .u64 a0 6148914691236517205))) 3689348814741910323))) 4) + (IntKind.wrap .u64 ((iand .u64 (ishr .u64 (IntKind.wrap .u64 ((iand .u64 (ishr .u64 a0 1) 6148914691236517205) + (iand .u64 a0 6148914691236517205))) 2) 3689348814741910323) + (iand .u64 (IntKind.wrap .u64 ((iand .u64 (ishr .u64 a0 1) 6148914691236517205) + (iand .u64 a0 6148914691236517205))) 3689348814741910323))))) 1085102592571150095) + (ishr .u64 (iand .u64 (IntKind.wrap .u64 ((ishr .u64 (IntKind.wrap .u64 ((iand .u64 (ishr .u64 (IntKind.wrap .u64 ((iand .u64 (ishr .u64 a0 1) 6148914691236517205) + (iand .u64 a0 6148914691236517205))) 2) 3689348814741910323) + (iand .u64 (IntKind.wrap .u64 ((iand .u64 (ishr .u64 a0 1) 6148914691236517205) + (iand .u64 a0 6148914691236517205))) 3689348814741910323))) 4) + (IntKind.wrap .u64 ((iand .u64 (ishr .u64 (IntKind.wrap .u64 ((iand .u64 (ishr .u64 a0 1) 6148914691236517205) + (iand .u64 a0 6148914691236517205))) 2) 3689348814741910323) + (iand .u64 (IntKind.wrap .u64 ((iand .u64 (ishr .u64 a0 1) 6148914691236517205) + (iand .u64 a0 6148914691236517205))) 3689348814741910323))))) 1085102592571150095) 8))) + (ishr .u64 (IntKind.wrap .u64 ((iand .u64 (IntKind.wrap .u64 ((ishr .u64 (IntKind.wrap .u64 ((iand .u64 (ishr .u64 (IntKind.wrap .u64 ((iand .u64 (ishr .u64 a0 1) 6148914691236517205) + (iand .u64 a0 6148914691236517205))) 2) 3689348814741910323) + (iand .u64 (IntKind.wrap .u64 ((iand .u64 (ishr .u64 a0 1) 6148914691236517205) + (iand .u64 a0 6148914691236517205))) 3689348814741910323))) 4) + (IntKind.wrap .u64 ((iand .u64 (ishr .u64 (IntKind.wrap .u64 ((iand .u64 (ishr .u64 a0 1) 6148914691236517205) + (iand .u64 a0 6148914691236517205))) 2) 3689348814741910323) + (iand .u64 (IntKind.wrap .u64 ((iand .u64 (ishr .u64 a0 1) 6148914691236517205) + (iand .u64 a0 6148914691236517205))) 3689348814741910323))))) 1085102592571150095) + (ishr .u64 (iand .u64 (IntKind.wrap .u64 ((ishr .u64 (IntKind.wrap .u64 ((iand .u64 (ishr .u64 (IntKind.wrap .u64 ((iand .u64 (ishr .u64 a0 1) 6148914691236517205) + (iand .u64 a0 6148914691236517205))) 2) 3689348814741910323) + (iand .u64 (IntKind.wrap .u64 ((iand .u64 (ishr .u64 a0 1) 6148914691236517205) + (iand .u64 a0 6148914691236517205))) 3689348814741910323))) 4) + (IntKind.wrap .u64 ((iand .u64 (ishr .u64 (IntKind.wrap .u64 ((iand .u64 (ishr .u64 a0 1) 6148914691236517205) + (iand .u64 a0 6148914691236517205))) 2) 3689348814741910323) + (iand .u64 (IntKind.wrap .u64 ((iand .u64 (ishr .u64 a0 1) 6148914691236517205) + (iand .u64 a0 6148914691236517205))) 3689348814741910323))))) 1085102592571150095) 8))) 16))) + (ishr .u64 (IntKind.wrap .u64 ((IntKind.wrap .u64 ((iand .u64 (IntKind.wrap .u64 ((ishr .u64 (IntKind.wrap .u64 ((iand .u64 (ishr .u64 (IntKind.wrap .u64 ((iand .u64 (ishr .u64 a0 1) 6148914691236517205) + (iand .u64 a0 6148914691236517205))) 2) 3689348814741910323) + (iand .u64 (IntKind.wrap .u64 ((iand .u64 (ishr .u64 a0 1) 6148914691236517205) + (iand .u64 a0 6148914691236517205))) 3689348814741910323))) 4) + (IntKind.wrap .u64 ((iand .u64 (ishr .u64 (IntKind.wrap .u64 ((iand .u64 (ishr .u64 a0 1) 6148914691236517205) + (iand .u64 a0 6148914691236517205))) 2) 3689348814741910323) + (iand .u64 (IntKind.wrap .u64 ((iand .u64 (ishr .u64 a0 1) 6148914691236517205) + (iand .u64 a0 6148914691236517205))) 3689348814741910323))))) 1085102592571150095) + (ishr .u64 (iand .u64 (IntKind.wrap .u64 ((ishr .u64 (IntKind.wrap .u64 ((iand .u64 (ishr .u64 (IntKind.wrap .u64 ((iand .u64 (ishr .u64 a0 1) 6148914691236517205) + (iand .u64 a0 6148914691236517205))) 2) 3689348814741910323) + (iand .u64 (IntKind.wrap .u64 ((iand .u64 (ishr .u64 a0 1) 6148914691236517205) + (iand .u64 a0 6148914691236517205))) 3689348814741910323))) 4) + (IntKind.wrap .u64 ((iand .u64 (ishr .u64 (IntKind.wrap .u64 ((iand .u64 (ishr .u64 a0 1) 6148914691236517205) + (iand .u64 a0 6148914691236517205))) 2) 3689348814741910323) + (iand .u64 (IntKind.wrap .u64 ((iand .u64 (ishr .u64 a0 1) 6148914691236517205) + (iand .u64 a0 6148914691236517205))) 3689348814741910323))))) 1085102592571150095) 8))) + (ishr .u64 (IntKind.wrap .u64 ((iand .u64 (IntKind.wrap .u64 ((ishr .u64 (IntKind.wrap .u64 ((iand .u64 (ishr .u64 (IntKind.wrap .u64 ((iand .u64 (ishr .u64 a0 1) 6148914691236517205) + (iand .u64 a0 6148914691236517205))) 2) 3689348814741910323) + (iand .u64 (IntKind.wrap .u64 ((iand .u64 (ishr .u64 a0 1) 6148914691236517205) + (iand .u64 a0 6148914691236517205))) 3689348814741910323))) 4) + (IntKind.wrap .u64 ((iand .u64 (ishr .u64 (IntKind.wrap .u64 ((iand .u64 (ishr .u64 a0 1) 6148914691236517205) + (iand .u64 a0 6148914691236517205))) 2) 3689348814741910323) + (iand .u64 (IntKind.wrap .u64 ((iand .u64 (ishr .u64 a0 1) 6148914691236517205) + (iand .u64 a0 6148914691236517205))) 3689348814741910323))))) 1085102592571150095) + (ishr .u64 (iand .u64 (IntKind.wrap .u64 ((ishr .u64 (IntKind.wrap .u64 ((iand .u64 (ishr .u64 (IntKind.wrap .u64 ((iand .u64 (ishr .u64 a0 1) 6148914691236517205) + (iand .u64 a0 6148914691236517205))) 2) 3689348814741910323) + (iand .u64 (IntKind.wrap .u64 ((iand .u64 (ishr .u64 a0 1) 6148914691236517205) + (iand .u64 a0 6148914691236517205))) 3689348814741910323))) 4) + (IntKind.wrap .u64 ((iand .u64 (ishr .u64 (IntKind.wrap .u64 ((iand .u64 (ishr .u64 a0 1) 6148914691236517205) + (iand .u64 a0 6148914691236517205))) 2) 3689348814741910323) + (iand .u64 (IntKind.wrap .u64 ((iand .u64 (ishr .u64 a0 1) 6148914691236517205) + (iand .u64 a0 6148914691236517205))) 3689348814741910323))))) 1085102592571150095) 8))) 16))) 32)))) 127)] (by kernel_rfl) ⟨_, rfl, rfl, hS⟩
/-! ### 22 colophon/rank.New -/
def rank_New.l1 (r31 : (List Int)) : Nat → Int → (List Int) → Int → Option ((List Int) × Int)
  | 0, _, _, _ => none
  | k + 1, x25_l1, q44p2_l1, q44p3_l1 => (if decide (x25_l1 < (r31.length : Int)) then ((at? r31 x25_l1).bind fun v46 => (if ((Int.tmod x25_l1 8) == 0) then ((app? 17592186044416 q44p2_l1 ([q44p3_l1] : List Int)).bind fun y54 => ((bits_OnesCount64.f v46).bind fun r61 => rank_New.l1 r31 k (wi (x25_l1 + 1)) y54 (wi (q44p3_l1 + r61)))) else ((bits_OnesCount64.f v46).bind fun r73 => rank_New.l1 r31 k (wi (x25_l1 + 1)) q44p2_l1 (wi (q44p3_l1 + r73))))) else some (q44p2_l1, q44p3_l1))
def rank_New.f (p0 : Option (Int × Int × (List Int))) : Option ((Option (Int × (List Int) × (List Int) × Int)) × Int) := (match p0 with | none => some (none, 1) | some y3 => ((pack_Ints_Width.f (some y3)).bind fun r12 => (if (r12 != 1) then some (none, 2) else ((pack_Ints_Len.f (some y3)).bind fun r22 => ((pack_Ints_Words.f (some y3)).bind fun r31 => ((rank_New.l1 r31 FU 0 ([] : List Int) 0).bind fun o83 => some (some (r22, r31, o83.1, o83.2), 0)))))))
def rank_New.post (w : World) (r : (Option (Int × (List Int) × (List Int) × Int)) × Int) (v : Value) (w' : World) : Prop := ∃ (v0 : Value), v = .tuple #[v0, .int .i64 r.2] ∧ Sat w' (rf w) [optP O47 v0 r.1]
theorem rank_New.l1_ok {Q} (w0 : World) (r22 : Int) (r31 : (List Int)) (A40 : Option Addr) (c41 : Nat) (b42 : Nat) (out : (List Int) × Int) (hn0 : ∀ (Aq44p2_q : Option Addr) (cq44p2_q : Nat) (w : World), Sat w (rf w0) [pts b42 (.cells #[.int .i64 r22, .slice A40 r31.length c41, .slice Aq44p2_q out.1.length cq44p2_q, .int .i64 out.2] 47 (0, 0)), osl 3 (r0 (.int .i64)) 1 Aq44p2_q cq44p2_q out.1, osl 40 (r0 (.int .u64)) 1 A40 c41 r31] → At Q (.exit 1) 57 [(4, .pointer (some ⟨b42, 0, none⟩))] w) :
    ∀ (k : Nat) (x25_l1 : Int) (q44p2_l1 : List Int) (q44p3_l1 : Int) (Aq44p2_l1 : Option Addr) (cq44p2_l1 : Nat) (w : World), Sat w (rf w0) [osl 40 (r0 (.int .u64)) 1 A40 c41 r31, pts b42 (.cells #[.int .i64 r22, .slice A40 r31.length c41, .slice Aq44p2_l1 q44p2_l1.length cq44p2_l1, .int .i64 q44p3_l1] 47 (0, 0)), osl 3 (r0 (.int .i64)) 1 Aq44p2_l1 cq44p2_l1 q44p2_l1] → rank_New.l1 r31 k x25_l1 q44p2_l1 q44p3_l1 = some out → WL Try.prog (cbody (cbody (cr (cl (cr (cr (cr C22))))))) Q 57 [(4, .pointer (some ⟨b42, 0, none⟩)), (23, .slice A40 r31.length c41), (24, .int .i64 (r31.length : Int)), (25, .int .i64 x25_l1)] w := by
  intro k
  induction k with
  | zero => intro x25_l1 q44p2_l1 q44p3_l1 Aq44p2_l1 cq44p2_l1 w hS H; exact absurd (show none = some out from H) (by simp)
  | succ k ih =>
    intro x25_l1 q44p2_l1 q44p3_l1 Aq44p2_l1 cq44p2_l1 w hS H
    unfold rank_New.l1 at H
    refine WL.round ?_
    refine WC.seq (by kernel_rfl) ?_
    refine WC.reg [0] (by kernel_rfl) (by kernel_rfl) ?_
    refine WR.runk [0] [] [4, 23, 24, 25, 26] (L' := [(4, .pointer (some ⟨b42, 0, none⟩)), (23, .slice A40 r31.length c41), (24, .int .i64 (r31.length : Int)), (25, .int .i64 x25_l1), (26, .bool (decide (x25_l1 < (r31.length : Int))))]) (w' := w) (by kernel_rfl) ?_
    refine WR.nil ?_
    refine At.go ?_
    refine WC.seq (by kernel_rfl) ?_
    refine WC.cond (by kernel_rfl) (decide (x25_l1 < (r31.length : Int))) (by kernel_rfl) (by kernel_rfl) (fun hb45 => ?_) (fun hb45 => ?_)
    · replace H := ite_t H hb45
      refine WC.skip (by kernel_rfl) ?_
      refine At.go ?_
      refine WC.seq (by kernel_rfl) ?_
      refine WC.block (by kernel_rfl) ?_
      refine WC.seq (by kernel_rfl) ?_
      refine WC.reg [0, 1, 2, 3, 4] (by kernel_rfl) (by kernel_rfl) ?_
      refine WR.runk [0] [1, 2, 3, 4] [4, 23, 24, 25, 27] (L' := [(4, .pointer (some ⟨b42, 0, none⟩)), (23, .slice A40 r31.length c41), (24, .int .i64 (r31.length : Int)), (25, .int .i64 x25_l1), (27, .int .i64 x25_l1)]) (w' := w) (by kernel_rfl) ?_
      obtain ⟨v46, e47, H⟩ := bind_ex H
      refine WR.st (St.ofP (PSt.idx (k := .i64) (.tmp 23) (.tmp 25) (by kernel_rfl) (by kernel_rfl) E44 (by kernel_rfl) (by kernel_rfl) (Sat.rdAt 0 hS rfl) e47 ?_))
      refine WR.runk [] [2, 3, 4] [4, 23, 24, 25, 27, 28] (L' := [(4, .pointer (some ⟨b42, 0, none⟩)), (23, .slice A40 r31.length c41), (24, .int .i64 (r31.length : Int)), (25, .int .i64 x25_l1), (27, .int .i64 x25_l1), (28, .pointer (some (adr A40 x25_l1.toNat 1)))]) (w' := w) (by kernel_rfl) ?_
      refine WR.st (St.ofR (RSt.loadInt (t := 40) (.tmp 28) (by kernel_rfl) (by kernel_rfl) (by kernel_rfl) (by kernel_rfl) (Sat.rdAt 0 hS rfl) e47 ?_))
      refine WR.runk [3, 4] [] [4, 5, 6, 23, 24, 25] (L' := [(4, .pointer (some ⟨b42, 0, none⟩)), (5, .int .i64 x25_l1), (6, .int .u64 v46), (23, .slice A40 r31.length c41), (24, .int .i64 (r31.length : Int)), (25, .int .i64 x25_l1)]) (w' := w) (by kernel_rfl) ?_
      refine WR.nil ?_
      refine At.go ?_
      refine WC.seq (by kernel_rfl) ?_
      refine WC.seq (by kernel_rfl) ?_
      refine WC.reg [0, 1, 2] (by kernel_rfl) (by kernel_rfl) ?_
      refine WR.runk [0, 1, 2] [] [4, 6, 23, 24, 25, 32] (L' := [(4, .pointer (some ⟨b42, 0, none⟩)), (6, .int .u64 v46), (23, .slice A40 r31.length c41), (24, .int .i64 (r31.length : Int)), (25, .int .i64 x25_l1), (32, .bool ((Int.tmod x25_l1 8) == 0))]) (w' := w) (by kernel_rfl) ?_
      refine WR.nil ?_
      refine At.go ?_
      refine WC.cond (by kernel_rfl) ((Int.tmod x25_l1 8) == 0) (by kernel_rfl) (by kernel_rfl) (fun hb48 => ?_) (fun hb48 => ?_)
      · replace H := ite_t H hb48
        refine WC.drawn (by kernel_rfl) (by kernel_rfl) 14 (by kernel_rfl) (fun w49 hw50 => ?_)
        have hS := hS.heap hw50.1 hw50.2
        refine WD.weaken [4, 6, 23, 24, 25] (L' := [(4, .pointer (some ⟨b42, 0, none⟩)), (6, .int .u64 v46), (23, .slice A40 r31.length c41), (24, .int .i64 (r31.length : Int)), (25, .int .i64 x25_l1)]) (by kernel_rfl) ?_
        refine WD.pure (i := 0) (v := .pointer (some ⟨b42, 0, none⟩)) (by kernel_rfl) (by kernel_rfl) (fun _ => by kernel_rfl) ?_
        refine WD.weaken [4, 6, 23, 24, 25, 33] (L' := [(4, .pointer (some ⟨b42, 0, none⟩)), (6, .int .u64 v46), (23, .slice A40 r31.length c41), (24, .int .i64 (r31.length : Int)), (25, .int .i64 x25_l1), (33, .pointer (some ⟨b42, 0, none⟩))]) (by kernel_rfl) ?_
        refine WD.pure (i := 1) (v := .pointer (some ⟨b42, 0, none⟩)) (by kernel_rfl) (by kernel_rfl) (fun _ => by kernel_rfl) ?_
        refine WD.weaken [4, 6, 23, 24, 25, 33, 34] (L' := [(4, .pointer (some ⟨b42, 0, none⟩)), (6, .int .u64 v46), (23, .slice A40 r31.length c41), (24, .int .i64 (r31.length : Int)), (25, .int .i64 x25_l1), (33, .pointer (some ⟨b42, 0, none⟩)), (34, .pointer (some ⟨b42, 0, none⟩))]) (by kernel_rfl) ?_
        refine WD.pure (i := 2) (v := .pointer (some ⟨b42, 0, none⟩)) (by kernel_rfl) (by kernel_rfl) (fun _ => by kernel_rfl) ?_
        refine WD.weaken [4, 6, 23, 24, 25, 33, 35] (L' := [(4, .pointer (some ⟨b42, 0, none⟩)), (6, .int .u64 v46), (23, .slice A40 r31.length c41), (24, .int .i64 (r31.length : Int)), (25, .int .i64 x25_l1), (33, .pointer (some ⟨b42, 0, none⟩)), (35, .pointer (some ⟨b42, 0, none⟩))]) (by kernel_rfl) ?_
        refine WD.pure (i := 3) (v := .pointer (some ⟨b42, 2, none⟩)) (by kernel_rfl) (by kernel_rfl) (fun _ => by kernel_rfl) ?_
        refine WD.weaken [4, 6, 23, 24, 25, 33, 36] (L' := [(4, .pointer (some ⟨b42, 0, none⟩)), (6, .int .u64 v46), (23, .slice A40 r31.length c41), (24, .int .i64 (r31.length : Int)), (25, .int .i64 x25_l1), (33, .pointer (some ⟨b42, 0, none⟩)), (36, .pointer (some ⟨b42, 2, none⟩))]) (by kernel_rfl) ?_
        refine WD.ofR (i := 4) (by kernel_rfl) (RSt.loadObj (t := 45) (k := 2) (v := .slice Aq44p2_l1 q44p2_l1.length cq44p2_l1) (.tmp 36) (by kernel_rfl) (by kernel_rfl) (by kernel_rfl) 1 hS rfl (by kernel_rfl) rfl ?_)
        refine WD.weaken [4, 6, 23, 24, 25, 33, 37] (L' := [(4, .pointer (some ⟨b42, 0, none⟩)), (6, .int .u64 v46), (23, .slice A40 r31.length c41), (24, .int .i64 (r31.length : Int)), (25, .int .i64 x25_l1), (33, .pointer (some ⟨b42, 0, none⟩)), (37, .slice Aq44p2_l1 q44p2_l1.length cq44p2_l1)]) (by kernel_rfl) ?_
        refine WD.pure (i := 5) (v := .pointer (some ⟨b42, 0, none⟩)) (by kernel_rfl) (by kernel_rfl) (fun _ => by kernel_rfl) ?_
        refine WD.weaken [4, 6, 23, 24, 25, 33, 37, 38] (L' := [(4, .pointer (some ⟨b42, 0, none⟩)), (6, .int .u64 v46), (23, .slice A40 r31.length c41), (24, .int .i64 (r31.length : Int)), (25, .int .i64 x25_l1), (33, .pointer (some ⟨b42, 0, none⟩)), (37, .slice Aq44p2_l1 q44p2_l1.length cq44p2_l1), (38, .pointer (some ⟨b42, 0, none⟩))]) (by kernel_rfl) ?_
        refine WD.pure (i := 6) (v := .pointer (some ⟨b42, 0, none⟩)) (by kernel_rfl) (by kernel_rfl) (fun _ => by kernel_rfl) ?_
        refine WD.weaken [4, 6, 23, 24, 25, 33, 37, 39] (L' := [(4, .pointer (some ⟨b42, 0, none⟩)), (6, .int .u64 v46), (23, .slice A40 r31.length c41), (24, .int .i64 (r31.length : Int)), (25, .int .i64 x25_l1), (33, .pointer (some ⟨b42, 0, none⟩)), (37, .slice Aq44p2_l1 q44p2_l1.length cq44p2_l1), (39, .pointer (some ⟨b42, 0, none⟩))]) (by kernel_rfl) ?_
        refine WD.pure (i := 7) (v := .pointer (some ⟨b42, 3, none⟩)) (by kernel_rfl) (by kernel_rfl) (fun _ => by kernel_rfl) ?_
        refine WD.weaken [4, 6, 23, 24, 25, 33, 37, 40] (L' := [(4, .pointer (some ⟨b42, 0, none⟩)), (6, .int .u64 v46), (23, .slice A40 r31.length c41), (24, .int .i64 (r31.length : Int)), (25, .int .i64 x25_l1), (33, .pointer (some ⟨b42, 0, none⟩)), (37, .slice Aq44p2_l1 q44p2_l1.length cq44p2_l1), (40, .pointer (some ⟨b42, 3, none⟩))]) (by kernel_rfl) ?_
        refine WD.ofR (i := 8) (by kernel_rfl) (RSt.loadObj (t := 3) (k := 3) (v := .int .i64 q44p3_l1) (.tmp 40) (by kernel_rfl) (by kernel_rfl) (by kernel_rfl) 1 hS rfl (by kernel_rfl) rfl ?_)
        refine WD.weaken [4, 6, 23, 24, 25, 33, 37, 41] (L' := [(4, .pointer (some ⟨b42, 0, none⟩)), (6, .int .u64 v46), (23, .slice A40 r31.length c41), (24, .int .i64 (r31.length : Int)), (25, .int .i64 x25_l1), (33, .pointer (some ⟨b42, 0, none⟩)), (37, .slice Aq44p2_l1 q44p2_l1.length cq44p2_l1), (41, .int .i64 q44p3_l1)]) (by kernel_rfl) ?_
        refine WD.act (i := 9) (by kernel_rfl) (St.box hS (by kernel_rfl) (.cells #[.int .i64 q44p3_l1] 3) (fun b51 => .slice (some ⟨b51, 0, none⟩) 1 1) (fun _ => by kernel_rfl) (fun b51 w52 hS => ?_))
        refine ⟨(asked.anc (by kernel_rfl) (asked.cons (RSt.run (n := 57) (RSt.loadObj (t := 45) (k := 2) (v := .slice Aq44p2_l1 q44p2_l1.length cq44p2_l1) (.tmp 36) (by kernel_rfl) (by kernel_rfl) (by kernel_rfl) 2 hS rfl (by kernel_rfl) rfl rfl)) (asked.nil _ _))), ?_⟩
        refine WD.weaken [4, 6, 23, 24, 25, 33, 37, 42] (L' := [(4, .pointer (some ⟨b42, 0, none⟩)), (6, .int .u64 v46), (23, .slice A40 r31.length c41), (24, .int .i64 (r31.length : Int)), (25, .int .i64 x25_l1), (33, .pointer (some ⟨b42, 0, none⟩)), (37, .slice Aq44p2_l1 q44p2_l1.length cq44p2_l1), (42, .slice (some ⟨b51, 0, none⟩) 1 1)]) (by kernel_rfl) ?_
        have hS : Sat w52 (rf w0) [osl 3 (r0 (.int .i64)) 1 Aq44p2_l1 cq44p2_l1 q44p2_l1, pts b51 (.cells #[.int .i64 q44p3_l1] 3 (0, 0)), osl 40 (r0 (.int .u64)) 1 A40 c41 r31, pts b42 (.cells #[.int .i64 r22, .slice A40 r31.length c41, .slice Aq44p2_l1 q44p2_l1.length cq44p2_l1, .int .i64 q44p3_l1] 47 (0, 0))] := hS.sel [3, 0, 1, 2] (by kernel_rfl)
        obtain ⟨y54, e53, H⟩ := bind_ex H
        refine WD.act (i := 10) (by kernel_rfl) (St.append' (.tmp 37) (.tmp 42) (by kernel_rfl) (by kernel_rfl) E45 (r0_one _) hS (by kernel_rfl) (by kernel_rfl) (Sat.ptsAt 1 (r0 (.int .i64)) 1 ([q44p3_l1] : List Int) hS rfl rfl (rdL.cons1 rfl (rdL.nil _ _))) 17592186044416 (by kernel_rfl) (by kernel_rfl) e53 (fun A55 c56 w57 hS => ?_))
        refine ⟨(asked.anc (by kernel_rfl) (asked.anc (by kernel_rfl) (asked.nil _ _))), ?_⟩
        refine WD.weaken [4, 6, 23, 24, 25, 33, 43] (L' := [(4, .pointer (some ⟨b42, 0, none⟩)), (6, .int .u64 v46), (23, .slice A40 r31.length c41), (24, .int .i64 (r31.length : Int)), (25, .int .i64 x25_l1), (33, .pointer (some ⟨b42, 0, none⟩)), (43, .slice A55 y54.length c56)]) (by kernel_rfl) ?_
        refine WD.pure (i := 11) (v := .pointer (some ⟨b42, 0, none⟩)) (by kernel_rfl) (by kernel_rfl) (fun _ => by kernel_rfl) ?_
        refine WD.weaken [4, 6, 23, 24, 25, 43, 44] (L' := [(4, .pointer (some ⟨b42, 0, none⟩)), (6, .int .u64 v46), (23, .slice A40 r31.length c41), (24, .int .i64 (r31.length : Int)), (25, .int .i64 x25_l1), (43, .slice A55 y54.length c56), (44, .pointer (some ⟨b42, 0, none⟩))]) (by kernel_rfl) ?_
        refine WD.pure (i := 12) (v := .pointer (some ⟨b42, 2, none⟩)) (by kernel_rfl) (by kernel_rfl) (fun _ => by kernel_rfl) ?_
        refine WD.weaken [4, 6, 23, 24, 25, 43, 45] (L' := [(4, .pointer (some ⟨b42, 0, none⟩)), (6, .int .u64 v46), (23, .slice A40 r31.length c41), (24, .int .i64 (r31.length : Int)), (25, .int .i64 x25_l1), (43, .slice A55 y54.length c56), (45, .pointer (some ⟨b42, 2, none⟩))]) (by kernel_rfl) ?_
        have hS : Sat w57 (rf w0) [pts b42 (.cells #[.int .i64 r22, .slice A40 r31.length c41, .slice Aq44p2_l1 q44p2_l1.length cq44p2_l1, .int .i64 q44p3_l1] 47 (0, 0)), osl 3 (r0 (.int .i64)) 1 A55 c56 y54, pts b51 (.cells #[.int .i64 q44p3_l1] 3 (0, 0)), osl 40 (r0 (.int .u64)) 1 A40 c41 r31] := hS.sel [3, 0, 1, 2] (by kernel_rfl)
        refine WD.act (i := 13) (by kernel_rfl) (St.storeObj (t := 45) (k := 2) (cur' := #[.int .i64 r22, .slice A40 r31.length c41, .slice A55 y54.length c56, .int .i64 q44p3_l1]) (.tmp 45) (.tmp 43) (by kernel_rfl) (by kernel_rfl) (by kernel_rfl) hS (by kernel_rfl) (by kernel_rfl) (by kernel_rfl) rfl rfl (fun w58 hS => ?_))
        refine ⟨(asked.anc (by kernel_rfl) (asked.anc (by kernel_rfl) (asked.nil _ _))), ?_⟩
        refine WD.weaken [4, 6, 23, 24, 25] (L' := [(4, .pointer (some ⟨b42, 0, none⟩)), (6, .int .u64 v46), (23, .slice A40 r31.length c41), (24, .int .i64 (r31.length : Int)), (25, .int .i64 x25_l1)]) (by kernel_rfl) ?_
        refine WD.nil (by kernel_rfl) ?_
        refine At.go ?_
        refine WC.drawn (by kernel_rfl) (by kernel_rfl) 10 (by kernel_rfl) (fun w59 hw60 => ?_)
        have hS := hS.heap hw60.1 hw60.2
        refine WD.weaken [4, 6, 23, 24, 25] (L' := [(4, .pointer (some ⟨b42, 0, none⟩)), (6, .int .u64 v46), (23, .slice A40 r31.length c41), (24, .int .i64 (r31.length : Int)), (25, .int .i64 x25_l1)]) (by kernel_rfl) ?_
        refine WD.pure (i := 0) (v := .pointer (some ⟨b42, 0, none⟩)) (by kernel_rfl) (by kernel_rfl) (fun _ => by kernel_rfl) ?_
        refine WD.weaken [4, 6, 23, 24, 25, 46] (L' := [(4, .pointer (some ⟨b42, 0, none⟩)), (6, .int .u64 v46), (23, .slice A40 r31.length c41), (24, .int .i64 (r31.length : Int)), (25, .int .i64 x25_l1), (46, .pointer (some ⟨b42, 0, none⟩))]) (by kernel_rfl) ?_
        refine WD.pure (i := 1) (v := .pointer (some ⟨b42, 0, none⟩)) (by kernel_rfl) (by kernel_rfl) (fun _ => by kernel_rfl) ?_
        refine WD.weaken [4, 6, 23, 24, 25, 46, 47] (L' := [(4, .pointer (some ⟨b42, 0, none⟩)), (6, .int .u64 v46), (23, .slice A40 r31.length c41), (24, .int .i64 (r31.length : Int)), (25, .int .i64 x25_l1), (46, .pointer (some ⟨b42, 0, none⟩)), (47, .pointer (some ⟨b42, 0, none⟩))]) (by kernel_rfl) ?_
        refine WD.pure (i := 2) (v := .pointer (some ⟨b42, 3, none⟩)) (by kernel_rfl) (by kernel_rfl) (fun _ => by kernel_rfl) ?_
        refine WD.weaken [4, 6, 23, 24, 25, 46, 48] (L' := [(4, .pointer (some ⟨b42, 0, none⟩)), (6, .int .u64 v46), (23, .slice A40 r31.length c41), (24, .int .i64 (r31.length : Int)), (25, .int .i64 x25_l1), (46, .pointer (some ⟨b42, 0, none⟩)), (48, .pointer (some ⟨b42, 3, none⟩))]) (by kernel_rfl) ?_
        refine WD.ofR (i := 3) (by kernel_rfl) (RSt.loadObj (t := 3) (k := 3) (v := .int .i64 q44p3_l1) (.tmp 48) (by kernel_rfl) (by kernel_rfl) (by kernel_rfl) 0 hS rfl (by kernel_rfl) rfl ?_)
        refine WD.weaken [4, 6, 23, 24, 25, 46, 49] (L' := [(4, .pointer (some ⟨b42, 0, none⟩)), (6, .int .u64 v46), (23, .slice A40 r31.length c41), (24, .int .i64 (r31.length : Int)), (25, .int .i64 x25_l1), (46, .pointer (some ⟨b42, 0, none⟩)), (49, .int .i64 q44p3_l1)]) (by kernel_rfl) ?_
        refine WD.pure (i := 4) (v := .int .u64 v46) (by kernel_rfl) (by kernel_rfl) (fun _ => by kernel_rfl) ?_
        refine WD.weaken [4, 23, 24, 25, 46, 49, 50] (L' := [(4, .pointer (some ⟨b42, 0, none⟩)), (23, .slice A40 r31.length c41), (24, .int .i64 (r31.length : Int)), (25, .int .i64 x25_l1), (46, .pointer (some ⟨b42, 0, none⟩)), (49, .int .i64 q44p3_l1), (50, .int .u64 v46)]) (by kernel_rfl) ?_
        obtain ⟨r61, e62, H⟩ := bind_ex H
        refine WD.act (i := 5) (by kernel_rfl) (St.call (by kernel_rfl) (f := 24) (args := #[.int .u64 v46]) (by kernel_rfl) (bits_OnesCount64.calls w59 v46 r61 e62) ?_)
        rintro _ w68 ⟨rfl, hS69⟩
        have hS : Sat w68 (rf w0) [pts b42 (.cells #[.int .i64 r22, .slice A40 r31.length c41, .slice A55 y54.length c56, .int .i64 q44p3_l1] 47 (0, 0)), osl 3 (r0 (.int .i64)) 1 A55 c56 y54, pts b51 (.cells #[.int .i64 q44p3_l1] 3 (0, 0)), osl 40 (r0 (.int .u64)) 1 A40 c41 r31] := hS.ext hS69
        refine ⟨(asked.cons (RSt.run (n := 57) (RSt.loadObj (t := 3) (k := 3) (v := .int .i64 q44p3_l1) (.tmp 48) (by kernel_rfl) (by kernel_rfl) (by kernel_rfl) 0 hS rfl (by kernel_rfl) rfl rfl)) (asked.nil _ _)), ?_⟩
        refine WD.weaken [4, 23, 24, 25, 46, 49, 51] (L' := [(4, .pointer (some ⟨b42, 0, none⟩)), (23, .slice A40 r31.length c41), (24, .int .i64 (r31.length : Int)), (25, .int .i64 x25_l1), (46, .pointer (some ⟨b42, 0, none⟩)), (49, .int .i64 q44p3_l1), (51, .int .i64 r61)]) (by kernel_rfl) ?_
        refine WD.pure (i := 6) (v := .int .i64 (wi (q44p3_l1 + r61))) (by kernel_rfl) (by kernel_rfl) (fun _ => by kernel_rfl) ?_
        refine WD.weaken [4, 23, 24, 25, 46, 52] (L' := [(4, .pointer (some ⟨b42, 0, none⟩)), (23, .slice A40 r31.length c41), (24, .int .i64 (r31.length : Int)), (25, .int .i64 x25_l1), (46, .pointer (some ⟨b42, 0, none⟩)), (52, .int .i64 (wi (q44p3_l1 + r61)))]) (by kernel_rfl) ?_
        refine WD.pure (i := 7) (v := .pointer (some ⟨b42, 0, none⟩)) (by kernel_rfl) (by kernel_rfl) (fun _ => by kernel_rfl) ?_
        refine WD.weaken [4, 23, 24, 25, 52, 53] (L' := [(4, .pointer (some ⟨b42, 0, none⟩)), (23, .slice A40 r31.length c41), (24, .int .i64 (r31.length : Int)), (25, .int .i64 x25_l1), (52, .int .i64 (wi (q44p3_l1 + r61))), (53, .pointer (some ⟨b42, 0, none⟩))]) (by kernel_rfl) ?_
        refine WD.pure (i := 8) (v := .pointer (some ⟨b42, 3, none⟩)) (by kernel_rfl) (by kernel_rfl) (fun _ => by kernel_rfl) ?_
        refine WD.weaken [4, 23, 24, 25, 52, 54] (L' := [(4, .pointer (some ⟨b42, 0, none⟩)), (23, .slice A40 r31.length c41), (24, .int .i64 (r31.length : Int)), (25, .int .i64 x25_l1), (52, .int .i64 (wi (q44p3_l1 + r61))), (54, .pointer (some ⟨b42, 3, none⟩))]) (by kernel_rfl) ?_
        refine WD.act (i := 9) (by kernel_rfl) (St.storeObj (t := 3) (k := 3) (cur' := #[.int .i64 r22, .slice A40 r31.length c41, .slice A55 y54.length c56, .int .i64 (wi (q44p3_l1 + r61))]) (.tmp 54) (.tmp 52) (by kernel_rfl) (by kernel_rfl) (by kernel_rfl) hS (by kernel_rfl) (by kernel_rfl) (by kernel_rfl) rfl rfl (fun w70 hS => ?_))
        refine ⟨(asked.anc (by kernel_rfl) (asked.nil _ _)), ?_⟩
        refine WD.weaken [4, 23, 24, 25] (L' := [(4, .pointer (some ⟨b42, 0, none⟩)), (23, .slice A40 r31.length c41), (24, .int .i64 (r31.length : Int)), (25, .int .i64 x25_l1)]) (by kernel_rfl) ?_
        refine WD.nil (by kernel_rfl) ?_
        refine At.blockNormal ?_
        refine At.go ?_
        refine WC.reg [0, 1] (by kernel_rfl) (by kernel_rfl) ?_
        refine WR.runk [0, 1] [] [4, 23, 24, 25] (L' := [(4, .pointer (some ⟨b42, 0, none⟩)), (23, .slice A40 r31.length c41), (24, .int .i64 (r31.length : Int)), (25, .int .i64 (wi (x25_l1 + 1)))]) (w' := w70) (by kernel_rfl) ?_
        refine WR.nil ?_
        have hS : Sat w70 (rf w0) [osl 40 (r0 (.int .u64)) 1 A40 c41 r31, pts b42 (.cells #[.int .i64 r22, .slice A40 r31.length c41, .slice A55 y54.length c56, .int .i64 (wi (q44p3_l1 + r61))] 47 (0, 0)), osl 3 (r0 (.int .i64)) 1 A55 c56 y54] := hS.sel [3, 0, 1] (by kernel_rfl)
        refine At.again ?_
        refine WL.weaken [4, 23, 24, 25] (L' := [(4, .pointer (some ⟨b42, 0, none⟩)), (23, .slice A40 r31.length c41), (24, .int .i64 (r31.length : Int)), (25, .int .i64 (wi (x25_l1 + 1)))]) (by kernel_rfl) ?_
        exact ih (wi (x25_l1 + 1)) y54 (wi (q44p3_l1 + r61)) A55 c56 _ hS H
      · replace H := ite_f H hb48
        refine WC.skip (by kernel_rfl) ?_
        refine At.go ?_
        refine WC.drawn (by kernel_rfl) (by kernel_rfl) 10 (by kernel_rfl) (fun w71 hw72 => ?_)
        have hS := hS.heap hw72.1 hw72.2
        refine WD.weaken [4, 6, 23, 24, 25] (L' := [(4, .pointer (some ⟨b42, 0, none⟩)), (6, .int .u64 v46), (23, .slice A40 r31.length c41), (24, .int .i64 (r31.length : Int)), (25, .int .i64 x25_l1)]) (by kernel_rfl) ?_
        refine WD.pure (i := 0) (v := .pointer (some ⟨b42, 0, none⟩)) (by kernel_rfl) (by kernel_rfl) (fun _ => by kernel_rfl) ?_
        refine WD.weaken [4, 6, 23, 24, 25, 46] (L' := [(4, .pointer (some ⟨b42, 0, none⟩)), (6, .int .u64 v46), (23, .slice A40 r31.length c41), (24, .int .i64 (r31.length : Int)), (25, .int .i64 x25_l1), (46, .pointer (some ⟨b42, 0, none⟩))]) (by kernel_rfl) ?_
        refine WD.pure (i := 1) (v := .pointer (some ⟨b42, 0, none⟩)) (by kernel_rfl) (by kernel_rfl) (fun _ => by kernel_rfl) ?_
        refine WD.weaken [4, 6, 23, 24, 25, 46, 47] (L' := [(4, .pointer (some ⟨b42, 0, none⟩)), (6, .int .u64 v46), (23, .slice A40 r31.length c41), (24, .int .i64 (r31.length : Int)), (25, .int .i64 x25_l1), (46, .pointer (some ⟨b42, 0, none⟩)), (47, .pointer (some ⟨b42, 0, none⟩))]) (by kernel_rfl) ?_
        refine WD.pure (i := 2) (v := .pointer (some ⟨b42, 3, none⟩)) (by kernel_rfl) (by kernel_rfl) (fun _ => by kernel_rfl) ?_
        refine WD.weaken [4, 6, 23, 24, 25, 46, 48] (L' := [(4, .pointer (some ⟨b42, 0, none⟩)), (6, .int .u64 v46), (23, .slice A40 r31.length c41), (24, .int .i64 (r31.length : Int)), (25, .int .i64 x25_l1), (46, .pointer (some ⟨b42, 0, none⟩)), (48, .pointer (some ⟨b42, 3, none⟩))]) (by kernel_rfl) ?_
        refine WD.ofR (i := 3) (by kernel_rfl) (RSt.loadObj (t := 3) (k := 3) (v := .int .i64 q44p3_l1) (.tmp 48) (by kernel_rfl) (by kernel_rfl) (by kernel_rfl) 1 hS rfl (by kernel_rfl) rfl ?_)
        refine WD.weaken [4, 6, 23, 24, 25, 46, 49] (L' := [(4, .pointer (some ⟨b42, 0, none⟩)), (6, .int .u64 v46), (23, .slice A40 r31.length c41), (24, .int .i64 (r31.length : Int)), (25, .int .i64 x25_l1), (46, .pointer (some ⟨b42, 0, none⟩)), (49, .int .i64 q44p3_l1)]) (by kernel_rfl) ?_
        refine WD.pure (i := 4) (v := .int .u64 v46) (by kernel_rfl) (by kernel_rfl) (fun _ => by kernel_rfl) ?_
        refine WD.weaken [4, 23, 24, 25, 46, 49, 50] (L' := [(4, .pointer (some ⟨b42, 0, none⟩)), (23, .slice A40 r31.length c41), (24, .int .i64 (r31.length : Int)), (25, .int .i64 x25_l1), (46, .pointer (some ⟨b42, 0, none⟩)), (49, .int .i64 q44p3_l1), (50, .int .u64 v46)]) (by kernel_rfl) ?_
        obtain ⟨r73, e74, H⟩ := bind_ex H
        refine WD.act (i := 5) (by kernel_rfl) (St.call (by kernel_rfl) (f := 24) (args := #[.int .u64 v46]) (by kernel_rfl) (bits_OnesCount64.calls w71 v46 r73 e74) ?_)
        rintro _ w80 ⟨rfl, hS81⟩
        have hS : Sat w80 (rf w0) [osl 40 (r0 (.int .u64)) 1 A40 c41 r31, pts b42 (.cells #[.int .i64 r22, .slice A40 r31.length c41, .slice Aq44p2_l1 q44p2_l1.length cq44p2_l1, .int .i64 q44p3_l1] 47 (0, 0)), osl 3 (r0 (.int .i64)) 1 Aq44p2_l1 cq44p2_l1 q44p2_l1] := hS.ext hS81
        refine ⟨(asked.cons (RSt.run (n := 57) (RSt.loadObj (t := 3) (k := 3) (v := .int .i64 q44p3_l1) (.tmp 48) (by kernel_rfl) (by kernel_rfl) (by kernel_rfl) 1 hS rfl (by kernel_rfl) rfl rfl)) (asked.nil _ _)), ?_⟩
        refine WD.weaken [4, 23, 24, 25, 46, 49, 51] (L' := [(4, .pointer (some ⟨b42, 0, none⟩)), (23, .slice A40 r31.length c41), (24, .int .i64 (r31.length : Int)), (25, .int .i64 x25_l1), (46, .pointer (some ⟨b42, 0, none⟩)), (49, .int .i64 q44p3_l1), (51, .int .i64 r73)]) (by kernel_rfl) ?_
        refine WD.pure (i := 6) (v := .int .i64 (wi (q44p3_l1 + r73))) (by kernel_rfl) (by kernel_rfl) (fun _ => by kernel_rfl) ?_
        refine WD.weaken [4, 23, 24, 25, 46, 52] (L' := [(4, .pointer (some ⟨b42, 0, none⟩)), (23, .slice A40 r31.length c41), (24, .int .i64 (r31.length : Int)), (25, .int .i64 x25_l1), (46, .pointer (some ⟨b42, 0, none⟩)), (52, .int .i64 (wi (q44p3_l1 + r73)))]) (by kernel_rfl) ?_
        refine WD.pure (i := 7) (v := .pointer (some ⟨b42, 0, none⟩)) (by kernel_rfl) (by kernel_rfl) (fun _ => by kernel_rfl) ?_
        refine WD.weaken [4, 23, 24, 25, 52, 53] (L' := [(4, .pointer (some ⟨b42, 0, none⟩)), (23, .slice A40 r31.length c41), (24, .int .i64 (r31.length : Int)), (25, .int .i64 x25_l1), (52, .int .i64 (wi (q44p3_l1 + r73))), (53, .pointer (some ⟨b42, 0, none⟩))]) (by kernel_rfl) ?_
        refine WD.pure (i := 8) (v := .pointer (some ⟨b42, 3, none⟩)) (by kernel_rfl) (by kernel_rfl) (fun _ => by kernel_rfl) ?_
        refine WD.weaken [4, 23, 24, 25, 52, 54] (L' := [(4, .pointer (some ⟨b42, 0, none⟩)), (23, .slice A40 r31.length c41), (24, .int .i64 (r31.length : Int)), (25, .int .i64 x25_l1), (52, .int .i64 (wi (q44p3_l1 + r73))), (54, .pointer (some ⟨b42, 3, none⟩))]) (by kernel_rfl) ?_
        have hS : Sat w80 (rf w0) [pts b42 (.cells #[.int .i64 r22, .slice A40 r31.length c41, .slice Aq44p2_l1 q44p2_l1.length cq44p2_l1, .int .i64 q44p3_l1] 47 (0, 0)), osl 40 (r0 (.int .u64)) 1 A40 c41 r31, osl 3 (r0 (.int .i64)) 1 Aq44p2_l1 cq44p2_l1 q44p2_l1] := hS.sel [1, 0, 2] (by kernel_rfl)
        refine WD.act (i := 9) (by kernel_rfl) (St.storeObj (t := 3) (k := 3) (cur' := #[.int .i64 r22, .slice A40 r31.length c41, .slice Aq44p2_l1 q44p2_l1.length cq44p2_l1, .int .i64 (wi (q44p3_l1 + r73))]) (.tmp 54) (.tmp 52) (by kernel_rfl) (by kernel_rfl) (by kernel_rfl) hS (by kernel_rfl) (by kernel_rfl) (by kernel_rfl) rfl rfl (fun w82 hS => ?_))
        refine ⟨(asked.anc (by kernel_rfl) (asked.nil _ _)), ?_⟩
        refine WD.weaken [4, 23, 24, 25] (L' := [(4, .pointer (some ⟨b42, 0, none⟩)), (23, .slice A40 r31.length c41), (24, .int .i64 (r31.length : Int)), (25, .int .i64 x25_l1)]) (by kernel_rfl) ?_
        refine WD.nil (by kernel_rfl) ?_
        refine At.blockNormal ?_
        refine At.go ?_
        refine WC.reg [0, 1] (by kernel_rfl) (by kernel_rfl) ?_
        refine WR.runk [0, 1] [] [4, 23, 24, 25] (L' := [(4, .pointer (some ⟨b42, 0, none⟩)), (23, .slice A40 r31.length c41), (24, .int .i64 (r31.length : Int)), (25, .int .i64 (wi (x25_l1 + 1)))]) (w' := w82) (by kernel_rfl) ?_
        refine WR.nil ?_
        have hS : Sat w82 (rf w0) [osl 40 (r0 (.int .u64)) 1 A40 c41 r31, pts b42 (.cells #[.int .i64 r22, .slice A40 r31.length c41, .slice Aq44p2_l1 q44p2_l1.length cq44p2_l1, .int .i64 (wi (q44p3_l1 + r73))] 47 (0, 0)), osl 3 (r0 (.int .i64)) 1 Aq44p2_l1 cq44p2_l1 q44p2_l1] := hS.sel [1, 0, 2] (by kernel_rfl)
        refine At.again ?_
        refine WL.weaken [4, 23, 24, 25] (L' := [(4, .pointer (some ⟨b42, 0, none⟩)), (23, .slice A40 r31.length c41), (24, .int .i64 (r31.length : Int)), (25, .int .i64 (wi (x25_l1 + 1)))]) (by kernel_rfl) ?_
        exact ih (wi (x25_l1 + 1)) q44p2_l1 (wi (q44p3_l1 + r73)) Aq44p2_l1 cq44p2_l1 _ hS H
    · replace H := ite_f H hb45
      refine WC.exit (by kernel_rfl) ?_
      refine At.thenExit ?_
      refine At.thenExit ?_
      obtain rfl := Option.some.inj H
      have hS : Sat w (rf w0) [pts b42 (.cells #[.int .i64 r22, .slice A40 r31.length c41, .slice Aq44p2_l1 q44p2_l1.length cq44p2_l1, .int .i64 q44p3_l1] 47 (0, 0)), osl 3 (r0 (.int .i64)) 1 Aq44p2_l1 cq44p2_l1 q44p2_l1, osl 40 (r0 (.int .u64)) 1 A40 c41 r31] := hS.sel [1, 2, 0] (by kernel_rfl)
      refine At.weaken [4] (L' := [(4, .pointer (some ⟨b42, 0, none⟩))]) (by kernel_rfl) ?_
      exact hn0 Aq44p2_l1 cq44p2_l1 _ hS
theorem rank_New.calls (w0 : World) (v0 : Value) (p0 : Option (Int × Int × (List Int))) (R0 : rd (hp w0) (.ptr 52 (.pair (.int .i64) (.pair (.int .i64) (.slice 40 (.int .u64))))) [v0] p0) (r : (Option (Int × (List Int) × (List Int) × Int)) × Int) (H : rank_New.f p0 = some r) :
    Calls Try.prog 22 #[v0] w0 (fun e w' => ∃ v, e = .returned v ∧ rank_New.post w0 r v w') := by
  have hS : Sat w0 (rf w0) [] := Sat.start w0
  unfold rank_New.f at H
  refine calls_of_WC (vs := [v0]) Try.func22 (c := C22) (n := 57) (by kernel_rfl) (by kernel_rfl) (by kernel_rfl) ?_
  refine WC.seq (by kernel_rfl) ?_
  refine WC.reg [0, 1] (by kernel_rfl) (by kernel_rfl) ?_
  refine WR.runk [0, 1] [] [0] (L' := [(0, v0)]) (w' := w0) (by kernel_rfl) ?_
  refine WR.nil ?_
  refine At.go ?_
  refine WC.seq (by kernel_rfl) ?_
  refine WC.block (by kernel_rfl) ?_
  refine WC.seq (by kernel_rfl) ?_
  refine WC.reg [0, 1, 2] (by kernel_rfl) (by kernel_rfl) ?_
  refine WR.runk [0] [1, 2] [0, 8] (L' := [(0, v0), (8, v0)]) (w' := w0) (by kernel_rfl) ?_
  rcases opt_cases p0 with hr1 | ⟨y3, hr1⟩
  · rw [hr1] at H
    dsimp only at H
    have hx2 := rd_ptr_none R0 hr1
    try subst hx2
    refine WR.runk [1, 2] [] [0, 7] (L' := [(0, .pointer none), (7, .bool true)]) (w' := w0) (by kernel_rfl) ?_
    refine WR.nil ?_
    refine At.go ?_
    refine WC.condT (by kernel_rfl) (by kernel_rfl) (by kernel_rfl) ?_
    refine WC.seq (by kernel_rfl) ?_
    refine WC.reg [0, 1] (by kernel_rfl) (by kernel_rfl) ?_
    refine WR.runk [0, 1] [] [2, 3] (L' := [(2, .pointer none), (3, .int .i64 1)]) (w' := w0) (by kernel_rfl) ?_
    refine WR.nil ?_
    refine At.go ?_
    refine WC.ret (by kernel_rfl) ?_
    refine At.blockRet ?_
    refine At.thenRet ?_
    obtain rfl := Option.some.inj H
    have hS := optP.nil (O := O47) hS
    have hS : Sat w0 (rf w0) [optP O47 (.pointer none) none] := hS.sel [0] (by kernel_rfl)
    exact At.body [.pointer none, .int .i64 1] (by kernel_rfl) ⟨_, rfl, _, rfl, hS⟩
  · rw [hr1] at H
    dsimp only at H
    obtain ⟨b4, fr5, A9, c10, hv6, hb7, R11⟩ := P52.open R0 hr1
    have R8 := R0
    rw [hv6, hr1] at R8
    try subst hv6
    replace R11 : rdS (r0 (.int .u64)) 1 (hp w0) A9 c10 y3.2.2 := R11
    refine WR.runk [1, 2] [] [0, 7] (L' := [(0, .pointer (some ⟨b4, 0, none⟩)), (7, .bool false)]) (w' := w0) (by kernel_rfl) ?_
    refine WR.nil ?_
    refine At.go ?_
    refine WC.condF (by kernel_rfl) (by kernel_rfl) (by kernel_rfl) ?_
    refine WC.seq (by kernel_rfl) ?_
    refine WC.reg [0, 1, 2, 3] (by kernel_rfl) (by kernel_rfl) ?_
    refine WR.runk [0] [1, 2, 3] [0, 11] (L' := [(0, .pointer (some ⟨b4, 0, none⟩)), (11, .pointer (some ⟨b4, 0, none⟩))]) (w' := w0) (by kernel_rfl) ?_
    obtain ⟨r12, e13, H⟩ := bind_ex H
    refine WR.st (St.call (by kernel_rfl) (f := 28) (args := #[.pointer (some ⟨b4, 0, none⟩)]) (by kernel_rfl) (pack_Ints_Width.calls w0 (.pointer (some ⟨b4, 0, none⟩)) (some y3) (rd.mono hS.sub0 _ _ _ R8) r12 e13) ?_)
    rintro _ w19 ⟨rfl, hS20⟩
    have hS : Sat w19 (rf w0) [] := hS.ext hS20
    refine WR.runk [2, 3] [] [0, 10] (L' := [(0, .pointer (some ⟨b4, 0, none⟩)), (10, .bool (r12 != 1))]) (w' := w19) (by kernel_rfl) ?_
    refine WR.nil ?_
    refine At.go ?_
    refine WC.cond (by kernel_rfl) (r12 != 1) (by kernel_rfl) (by kernel_rfl) (fun hb21 => ?_) (fun hb21 => ?_)
    · replace H := ite_t H hb21
      refine WC.seq (by kernel_rfl) ?_
      refine WC.reg [0, 1] (by kernel_rfl) (by kernel_rfl) ?_
      refine WR.runk [0, 1] [] [2, 3] (L' := [(2, .pointer none), (3, .int .i64 2)]) (w' := w19) (by kernel_rfl) ?_
      refine WR.nil ?_
      refine At.go ?_
      refine WC.ret (by kernel_rfl) ?_
      refine At.blockRet ?_
      refine At.thenRet ?_
      obtain rfl := Option.some.inj H
      have hS := optP.nil (O := O47) hS
      have hS : Sat w19 (rf w0) [optP O47 (.pointer none) none] := hS.sel [0] (by kernel_rfl)
      exact At.body [.pointer none, .int .i64 2] (by kernel_rfl) ⟨_, rfl, _, rfl, hS⟩
    · replace H := ite_f H hb21
      refine WC.skip (by kernel_rfl) ?_
      refine At.blockNormal ?_
      refine At.go ?_
      refine WC.seq (by kernel_rfl) ?_
      refine WC.reg [0, 1, 2, 3, 4, 5, 6] (by kernel_rfl) (by kernel_rfl) ?_
      refine WR.runk [0] [1, 2, 3, 4, 5, 6] [0, 14] (L' := [(0, .pointer (some ⟨b4, 0, none⟩)), (14, .pointer (some ⟨b4, 0, none⟩))]) (w' := w19) (by kernel_rfl) ?_
      obtain ⟨r22, e23, H⟩ := bind_ex H
      refine WR.st (St.call (by kernel_rfl) (f := 29) (args := #[.pointer (some ⟨b4, 0, none⟩)]) (by kernel_rfl) (pack_Ints_Len.calls w19 (.pointer (some ⟨b4, 0, none⟩)) (some y3) (rd.mono hS.sub0 _ _ _ R8) r22 e23) ?_)
      rintro _ w29 ⟨rfl, hS30⟩
      have hS : Sat w29 (rf w0) [] := hS.ext hS30
      refine WR.runk [2] [3, 4, 5, 6] [15, 16] (L' := [(15, .int .i64 r22), (16, .pointer (some ⟨b4, 0, none⟩))]) (w' := w29) (by kernel_rfl) ?_
      obtain ⟨r31, e32, H⟩ := bind_ex H
      refine WR.st (St.call (by kernel_rfl) (f := 30) (args := #[.pointer (some ⟨b4, 0, none⟩)]) (by kernel_rfl) (pack_Ints_Words.calls w29 (.pointer (some ⟨b4, 0, none⟩)) (some y3) (rd.mono hS.sub0 _ _ _ R8) r31 e32) ?_)
      rintro _ w38 ⟨A40, c41, rfl, hS39⟩
      have hS : Sat w38 (rf w0) [osl 40 (r0 (.int .u64)) 1 A40 c41 r31] := hS.ext hS39
      refine WR.runk [4] [5, 6] [18] (L' := [(18, .agg #[.int .i64 r22, .slice A40 r31.length c41, .slice none 0 0, .int .i64 0])]) (w' := w38) (by kernel_rfl) ?_
      refine WR.st (St.box hS (by kernel_rfl) (.cells #[.int .i64 r22, .slice A40 r31.length c41, .slice none 0 0, .int .i64 0] 47) (fun b42 => .pointer (some ⟨b42, 0, none⟩)) (fun _ => by kernel_rfl) (fun b42 w43 hS => ?_))
      refine WR.runk [6] [] [4] (L' := [(4, .pointer (some ⟨b42, 0, none⟩))]) (w' := w43) (by kernel_rfl) ?_
      refine WR.nil ?_
      refine At.go ?_
      refine WC.seq (by kernel_rfl) ?_
      refine WC.seq (by kernel_rfl) ?_
      refine WC.reg [0, 1, 2, 3, 4, 5] (by kernel_rfl) (by kernel_rfl) ?_
      refine WR.runk [0, 1, 2] [3, 4, 5] [4, 22] (L' := [(4, .pointer (some ⟨b42, 0, none⟩)), (22, .pointer (some ⟨b42, 1, none⟩))]) (w' := w43) (by kernel_rfl) ?_
      refine WR.st (St.ofR (RSt.loadObj (t := 44) (k := 1) (v := .slice A40 r31.length c41) (.tmp 22) (by kernel_rfl) (by kernel_rfl) (by kernel_rfl) 0 hS rfl (by kernel_rfl) rfl ?_))
      refine WR.runk [4, 5] [] [4, 23, 24, 25] (L' := [(4, .pointer (some ⟨b42, 0, none⟩)), (23, .slice A40 r31.length c41), (24, .int .i64 (r31.length : Int)), (25, .int .i64 0)]) (w' := w43) (by kernel_rfl) ?_
      refine WR.nil ?_
      refine At.go ?_
      refine WC.block (by kernel_rfl) ?_
      have hS := hS.addNil (α := Int) 3 (r0 (.int .i64)) 1
      have hS : Sat w43 (rf w0) [osl 40 (r0 (.int .u64)) 1 A40 c41 r31, pts b42 (.cells #[.int .i64 r22, .slice A40 r31.length c41, .slice none 0 0, .int .i64 0] 47 (0, 0)), osl 3 (r0 (.int .i64)) 1 none 0 ([] : List Int)] := hS.sel [2, 1, 0] (by kernel_rfl)
      obtain ⟨o83, e84, H⟩ := bind_ex H
      refine WC.loop (by kernel_rfl) ?_
      refine WL.weaken [4, 23, 24, 25] (L' := [(4, .pointer (some ⟨b42, 0, none⟩)), (23, .slice A40 r31.length c41), (24, .int .i64 (r31.length : Int)), (25, .int .i64 0)]) (by kernel_rfl) ?_
      refine rank_New.l1_ok w0 r22 r31 A40 c41 b42 o83 (fun Aq44p2_q85 cq44p2_q85 w86 hS => ?_) FU 0 ([] : List Int) 0 none 0 _ hS e84
      refine At.hit ?_
      refine At.go ?_
      refine WC.seq (by kernel_rfl) ?_
      refine WC.reg [0, 1, 2] (by kernel_rfl) (by kernel_rfl) ?_
      refine WR.runk [0, 1, 2] [] [2, 3] (L' := [(2, .pointer (some ⟨b42, 0, none⟩)), (3, .int .i64 0)]) (w' := w86) (by kernel_rfl) ?_
      refine WR.nil ?_
      refine At.go ?_
      refine WC.ret (by kernel_rfl) ?_
      obtain rfl := Option.some.inj H
      have hS : Sat w86 (rf w0) [pts b42 (.cells #[.int .i64 r22, .slice A40 r31.length c41, .slice Aq44p2_q85 o83.1.length cq44p2_q85, .int .i64 o83.2] 47 (0, 0)), osl 40 (r0 (.int .u64)) 1 A40 c41 r31, osl 3 (r0 (.int .i64)) 1 Aq44p2_q85 cq44p2_q85 o83.1] := hS.sel [0, 2, 1] (by kernel_rfl)
      have hS : Sat w86 (rf w0) [O47 b42 (r22, r31, o83.1, o83.2)] := O47.close (r22, r31, o83.1, o83.2) A40 c41 Aq44p2_q85 cq44p2_q85 hS
      have hS : Sat w86 (rf w0) [optP O47 (.pointer (some ⟨b42, 0, none⟩)) (some (r22, r31, o83.1, o83.2))] := optP.mk hS
      have hS : Sat w86 (rf w0) [optP O47 (.pointer (some ⟨b42, 0, none⟩)) (some (r22, r31, o83.1, o83.2))] := hS.sel [0] (by kernel_rfl)
      exact At.body [.pointer (some ⟨b42, 0, none⟩), .int .i64 0] (by kernel_rfl) ⟨_, rfl, _, rfl, hS⟩
/-! ### 10 colophon/colophonlaw02.Vec -/
def colophonlaw02_Vec.l1 (l0 : List Int) : Nat → Int → (Int × Int × (List Int)) → Option (Int × Int × (List Int))
  | 0, _, _ => none
  | k + 1, x19_l1, q16_l1 => (if decide (x19_l1 < (l0.length : Int)) then ((at? l0 x19_l1).bind fun v18 => ((pack_Ints_Set.f q16_l1 x19_l1 (IntKind.wrap .u64 (iand .u8 v18 1))).bind fun r20 => colophonlaw02_Vec.l1 l0 k (wi (x19_l1 + 1)) r20.2)) else some q16_l1)
def colophonlaw02_Vec.f (l0 : List Int) : Option (Option (Int × (List Int) × (List Int) × Int)) := ((pack_New.f 1 (l0.length : Int)).bind fun r1 => (if (r1.2 != 0) then some none else (r1.1.bind fun y12 => ((colophonlaw02_Vec.l1 l0 FU 0 y12).bind fun o29 => ((rank_New.f (some o29)).bind fun r34 => some r34.1)))))
def colophonlaw02_Vec.post (w : World) (r : (Option (Int × (List Int) × (List Int) × Int))) (v : Value) (w' : World) : Prop := ∃ (v0 : Value), v = (v0 : Value) ∧ Sat w' (rf w) [optP O47 v0 r]
theorem colophonlaw02_Vec.l1_ok {Q} (w0 : World) (A0 : Option Addr) (c0 : Nat) (l0 : List Int) (b15 : Nat) (R0 : rdS (r0 (.int .u8)) 1 (hp w0) A0 c0 l0) (out : (Int × Int × (List Int))) (hn0 : ∀ (w : World), Sat w (rf w0) [O52 b15 out] → At Q (.exit 0) 37 [(3, .pointer (some ⟨b15, 0, none⟩))] w) :
    ∀ (k : Nat) (x19_l1 : Int) (q16_l1 : Int × Int × (List Int)) (w : World), Sat w (rf w0) [O52 b15 q16_l1] → colophonlaw02_Vec.l1 l0 k x19_l1 q16_l1 = some out → WL Try.prog (cbody (cbody (cr (cl (cr (cr (cr C10))))))) Q 37 [(3, .pointer (some ⟨b15, 0, none⟩)), (17, .slice A0 l0.length c0), (18, .int .i64 (l0.length : Int)), (19, .int .i64 x19_l1)] w := by
  intro k
  induction k with
  | zero => intro x19_l1 q16_l1 w hS H; exact absurd (show none = some out from H) (by simp)
  | succ k ih =>
    intro x19_l1 q16_l1 w hS H
    unfold colophonlaw02_Vec.l1 at H
    refine WL.round ?_
    refine WC.seq (by kernel_rfl) ?_
    refine WC.reg [0] (by kernel_rfl) (by kernel_rfl) ?_
    refine WR.runk [0] [] [3, 17, 18, 19, 20] (L' := [(3, .pointer (some ⟨b15, 0, none⟩)), (17, .slice A0 l0.length c0), (18, .int .i64 (l0.length : Int)), (19, .int .i64 x19_l1), (20, .bool (decide (x19_l1 < (l0.length : Int))))]) (w' := w) (by kernel_rfl) ?_
    refine WR.nil ?_
    refine At.go ?_
    refine WC.seq (by kernel_rfl) ?_
    refine WC.cond (by kernel_rfl) (decide (x19_l1 < (l0.length : Int))) (by kernel_rfl) (by kernel_rfl) (fun hb17 => ?_) (fun hb17 => ?_)
    · replace H := ite_t H hb17
      refine WC.skip (by kernel_rfl) ?_
      refine At.go ?_
      refine WC.seq (by kernel_rfl) ?_
      refine WC.block (by kernel_rfl) ?_
      refine WC.seq (by kernel_rfl) ?_
      refine WC.reg [0, 1, 2, 3, 4] (by kernel_rfl) (by kernel_rfl) ?_
      refine WR.runk [0] [1, 2, 3, 4] [3, 17, 18, 19, 21] (L' := [(3, .pointer (some ⟨b15, 0, none⟩)), (17, .slice A0 l0.length c0), (18, .int .i64 (l0.length : Int)), (19, .int .i64 x19_l1), (21, .int .i64 x19_l1)]) (w' := w) (by kernel_rfl) ?_
      obtain ⟨v18, e19, H⟩ := bind_ex H
      refine WR.st (St.ofP (PSt.idx (k := .i64) (.tmp 17) (.tmp 19) (by kernel_rfl) (by kernel_rfl) E22 (by kernel_rfl) (by kernel_rfl) (rdS.up R0 hS.sub0) e19 ?_))
      refine WR.runk [] [2, 3, 4] [3, 17, 18, 19, 21, 22] (L' := [(3, .pointer (some ⟨b15, 0, none⟩)), (17, .slice A0 l0.length c0), (18, .int .i64 (l0.length : Int)), (19, .int .i64 x19_l1), (21, .int .i64 x19_l1), (22, .pointer (some (adr A0 x19_l1.toNat 1)))]) (w' := w) (by kernel_rfl) ?_
      refine WR.st (St.ofR (RSt.loadInt (t := 5) (.tmp 22) (by kernel_rfl) (by kernel_rfl) (by kernel_rfl) (by kernel_rfl) (rdS.up R0 hS.sub0) e19 ?_))
      refine WR.runk [3, 4] [] [3, 5, 6, 17, 18, 19] (L' := [(3, .pointer (some ⟨b15, 0, none⟩)), (5, .int .i64 x19_l1), (6, .int .u8 v18), (17, .slice A0 l0.length c0), (18, .int .i64 (l0.length : Int)), (19, .int .i64 x19_l1)]) (w' := w) (by kernel_rfl) ?_
      refine WR.nil ?_
      refine At.go ?_
      refine WC.reg [0, 1, 2, 3, 4, 5] (by kernel_rfl) (by kernel_rfl) ?_
      refine WR.runk [0, 1, 2, 3, 4] [5] [3, 17, 18, 19, 24, 25, 28] (L' := [(3, .pointer (some ⟨b15, 0, none⟩)), (17, .slice A0 l0.length c0), (18, .int .i64 (l0.length : Int)), (19, .int .i64 x19_l1), (24, .pointer (some ⟨b15, 0, none⟩)), (25, .int .i64 x19_l1), (28, .int .u64 (IntKind.wrap .u64 (iand .u8 v18 1)))]) (w' := w) (by kernel_rfl) ?_
      obtain ⟨r20, e21, H⟩ := bind_ex H
      obtain ⟨B26, hso25, hsub23, hcs24, hb22⟩ := Sat.lend [O52 b15 q16_l1] (cs := []) hS
      refine WR.st (St.call (by kernel_rfl) (f := 21) (args := #[.pointer (some ⟨b15, 0, none⟩), .int .i64 x19_l1, .int .u64 (IntKind.wrap .u64 (iand .u8 v18 1))]) (by kernel_rfl) (pack_Ints_Set.calls B26 w b15 q16_l1 hso25 x19_l1 (IntKind.wrap .u64 (iand .u8 v18 1)) r20 e21) ?_)
      rintro _ w27 ⟨rfl, hS28⟩
      have hS : Sat w27 (rf w0) [O52 b15 r20.2] := hb22 _ _ hS28
      refine WR.runk [] [] [3, 17, 18, 19] (L' := [(3, .pointer (some ⟨b15, 0, none⟩)), (17, .slice A0 l0.length c0), (18, .int .i64 (l0.length : Int)), (19, .int .i64 x19_l1)]) (w' := w27) (by kernel_rfl) ?_
      refine WR.nil ?_
      refine At.blockNormal ?_
      refine At.go ?_
      refine WC.reg [0, 1] (by kernel_rfl) (by kernel_rfl) ?_
      refine WR.runk [0, 1] [] [3, 17, 18, 19] (L' := [(3, .pointer (some ⟨b15, 0, none⟩)), (17, .slice A0 l0.length c0), (18, .int .i64 (l0.length : Int)), (19, .int .i64 (wi (x19_l1 + 1)))]) (w' := w27) (by kernel_rfl) ?_
      refine WR.nil ?_
      have hS : Sat w27 (rf w0) [O52 b15 r20.2] := hS.sel [0] (by kernel_rfl)
      refine At.again ?_
      refine WL.weaken [3, 17, 18, 19] (L' := [(3, .pointer (some ⟨b15, 0, none⟩)), (17, .slice A0 l0.length c0), (18, .int .i64 (l0.length : Int)), (19, .int .i64 (wi (x19_l1 + 1)))]) (by kernel_rfl) ?_
      exact ih (wi (x19_l1 + 1)) r20.2 _ hS H
    · replace H := ite_f H hb17
      refine WC.exit (by kernel_rfl) ?_
      refine At.thenExit ?_
      refine At.thenExit ?_
      obtain rfl := Option.some.inj H
      have hS : Sat w (rf w0) [O52 b15 q16_l1] := hS.sel [0] (by kernel_rfl)
      refine At.weaken [3] (L' := [(3, .pointer (some ⟨b15, 0, none⟩))]) (by kernel_rfl) ?_
      exact hn0 _ hS
theorem colophonlaw02_Vec.calls (w0 : World) (A0 : Option Addr) (c0 : Nat) (l0 : List Int) (R0 : rdS (r0 (.int .u8)) 1 (hp w0) A0 c0 l0) (r : (Option (Int × (List Int) × (List Int) × Int))) (H : colophonlaw02_Vec.f l0 = some r) :
    Calls Try.prog 10 #[.slice A0 l0.length c0] w0 (fun e w' => ∃ v, e = .returned v ∧ colophonlaw02_Vec.post w0 r v w') := by
  have hS : Sat w0 (rf w0) [] := Sat.start w0
  unfold colophonlaw02_Vec.f at H
  refine calls_of_WC (vs := [.slice A0 l0.length c0]) Try.func10 (c := C10) (n := 37) (by kernel_rfl) (by kernel_rfl) (by kernel_rfl) ?_
  refine WC.seq (by kernel_rfl) ?_
  refine WC.reg [0] (by kernel_rfl) (by kernel_rfl) ?_
  refine WR.runk [0] [] [0] (L' := [(0, .slice A0 l0.length c0)]) (w' := w0) (by kernel_rfl) ?_
  refine WR.nil ?_
  refine At.go ?_
  refine WC.seq (by kernel_rfl) ?_
  refine WC.reg [0, 1, 2, 3, 4, 5, 6, 7] (by kernel_rfl) (by kernel_rfl) ?_
  refine WR.runk [0, 1] [2, 3, 4, 5, 6, 7] [0, 11] (L' := [(0, .slice A0 l0.length c0), (11, .int .i64 (l0.length : Int))]) (w' := w0) (by kernel_rfl) ?_
  obtain ⟨r1, e2, H⟩ := bind_ex H
  refine WR.st (St.call (by kernel_rfl) (f := 20) (args := #[.int .i64 1, .int .i64 (l0.length : Int)]) (by kernel_rfl) (pack_New.calls w0 1 (l0.length : Int) r1 e2) ?_)
  rintro _ w8 ⟨pv10, rfl, hS9⟩
  have hS : Sat w8 (rf w0) [optP O52 pv10 r1.1] := hS.ext hS9
  refine WR.runk [3, 4, 5, 6, 7] [] [0, 3, 4] (L' := [(0, .slice A0 l0.length c0), (3, pv10), (4, .int .i64 r1.2)]) (w' := w8) (by kernel_rfl) ?_
  refine WR.nil ?_
  refine At.go ?_
  refine WC.seq (by kernel_rfl) ?_
  refine WC.seq (by kernel_rfl) ?_
  refine WC.reg [0, 1] (by kernel_rfl) (by kernel_rfl) ?_
  refine WR.runk [0, 1] [] [0, 3, 16] (L' := [(0, .slice A0 l0.length c0), (3, pv10), (16, .bool (r1.2 != 0))]) (w' := w8) (by kernel_rfl) ?_
  refine WR.nil ?_
  refine At.go ?_
  refine WC.cond (by kernel_rfl) (r1.2 != 0) (by kernel_rfl) (by kernel_rfl) (fun hb11 => ?_) (fun hb11 => ?_)
  · replace H := ite_t H hb11
    refine WC.seq (by kernel_rfl) ?_
    refine WC.reg [0] (by kernel_rfl) (by kernel_rfl) ?_
    refine WR.runk [0] [] [2] (L' := [(2, .pointer none)]) (w' := w8) (by kernel_rfl) ?_
    refine WR.nil ?_
    refine At.go ?_
    refine WC.ret (by kernel_rfl) ?_
    refine At.thenRet ?_
    obtain rfl := Option.some.inj H
    have hS := optP.nil (O := O47) hS
    have hS : Sat w8 (rf w0) [optP O47 (.pointer none) none] := hS.sel [0] (by kernel_rfl)
    exact At.body [.pointer none] (by kernel_rfl) ⟨_, rfl, _, rfl, hS⟩
  · replace H := ite_f H hb11
    refine WC.skip (by kernel_rfl) ?_
    refine At.go ?_
    refine WC.seq (by kernel_rfl) ?_
    refine WC.seq (by kernel_rfl) ?_
    refine WC.reg [0, 1, 2] (by kernel_rfl) (by kernel_rfl) ?_
    refine WR.runk [0, 1, 2] [] [3, 17, 18, 19] (L' := [(3, pv10), (17, .slice A0 l0.length c0), (18, .int .i64 (l0.length : Int)), (19, .int .i64 0)]) (w' := w8) (by kernel_rfl) ?_
    refine WR.nil ?_
    refine At.go ?_
    refine WC.block (by kernel_rfl) ?_
    obtain ⟨y12, hr13, H⟩ := bind_ex H
    obtain ⟨b15, hv14, hN44⟩ := optP.some hS hr13
    subst hv14
    have hS : Sat w8 (rf w0) [O52 b15 y12] := hN44
    have hS : Sat w8 (rf w0) [O52 b15 y12] := hS.sel [0] (by kernel_rfl)
    obtain ⟨o29, e30, H⟩ := bind_ex H
    refine WC.loop (by kernel_rfl) ?_
    refine WL.weaken [3, 17, 18, 19] (L' := [(3, .pointer (some ⟨b15, 0, none⟩)), (17, .slice A0 l0.length c0), (18, .int .i64 (l0.length : Int)), (19, .int .i64 0)]) (by kernel_rfl) ?_
    refine colophonlaw02_Vec.l1_ok w0 A0 c0 l0 b15 R0 o29 (fun w32 hS => ?_) FU 0 y12 _ hS e30
    refine At.hit ?_
    refine At.go ?_
    refine WC.seq (by kernel_rfl) ?_
    refine WC.reg [0, 1, 2, 3, 4, 5, 6] (by kernel_rfl) (by kernel_rfl) ?_
    refine WR.runk [0] [1, 2, 3, 4, 5, 6] [32] (L' := [(32, .pointer (some ⟨b15, 0, none⟩))]) (w' := w32) (by kernel_rfl) ?_
    obtain ⟨r34, e35, H⟩ := bind_ex H
    refine WR.st (St.call (by kernel_rfl) (f := 22) (args := #[.pointer (some ⟨b15, 0, none⟩)]) (by kernel_rfl) (rank_New.calls w32 (.pointer (some ⟨b15, 0, none⟩)) (some o29) (Sat.rdAny 0 hS rfl (fun _ h => O52.rd _ _ _ h)) r34 e35) ?_)
    rintro _ w41 ⟨pv43, rfl, hS42⟩
    have hS : Sat w41 (rf w0) [optP O47 pv43 r34.1, O52 b15 o29] := hS.ext hS42
    refine WR.runk [2, 3, 4, 5, 6] [] [7] (L' := [(7, pv43)]) (w' := w41) (by kernel_rfl) ?_
    refine WR.nil ?_
    refine At.go ?_
    refine WC.seq (by kernel_rfl) ?_
    refine WC.reg [0, 1] (by kernel_rfl) (by kernel_rfl) ?_
    refine WR.runk [0, 1] [] [2] (L' := [(2, pv43)]) (w' := w41) (by kernel_rfl) ?_
    refine WR.nil ?_
    refine At.go ?_
    refine WC.ret (by kernel_rfl) ?_
    obtain rfl := Option.some.inj H
    have hS : Sat w41 (rf w0) [optP O47 pv43 r34.1] := hS.sel [0] (by kernel_rfl)
    exact At.body [pv43] (by kernel_rfl) ⟨_, rfl, _, rfl, hS⟩
/-! ### 11 (*colophon/rank.Vec).Rank -/
def rank_Vec_Rank.l1 (a1 : Int) (y3 : Int × (List Int) × (List Int) × Int) : Nat → Int → Int → Option Int
  | 0, _, _ => none
  | k + 1, x6_l1, x7_l1 => (if decide (x7_l1 < wi (Int.tdiv a1 64)) then ((at? y3.2.1 x7_l1).bind fun v20 => ((bits_OnesCount64.f v20).bind fun r22 => rank_Vec_Rank.l1 a1 y3 k (wi (x6_l1 + r22)) (wi (x7_l1 + 1)))) else some x6_l1)
def rank_Vec_Rank.f (p0 : Option (Int × (List Int) × (List Int) × Int)) (a1 : Int) : Option Int := (match p0 with | none => some 0 | some y3 => (if decide (a1 ≤ 0) then some 0 else (if decide (a1 ≥ y3.1) then some y3.2.2.2 else ((at? y3.2.2.1 (wi (Int.tdiv (wi (Int.tdiv a1 64)) 8))).bind fun v17 => ((rank_Vec_Rank.l1 a1 y3 FU v17 (wi ((wi (Int.tdiv (wi (Int.tdiv a1 64)) 8)) * 8))).bind fun o31 => ((at? y3.2.1 (wi (Int.tdiv a1 64))).bind fun v38 => ((chk? (decide (0 ≤ (Int.tmod a1 64)))).bind fun _ => ((bits_OnesCount64.f (iand .u64 v38 (IntKind.wrap .u64 ((ishl .u64 1 (Int.tmod a1 64)) - 1)))).bind fun r41 => some (wi (o31 + r41))))))))))
def rank_Vec_Rank.post (w : World) (r : Int) (v : Value) (w' : World) : Prop := v = (.int .i64 r : Value) ∧ Sat w' (rf w) []
theorem rank_Vec_Rank.l1_ok {Q} (w0 : World) (a1 : Int) (y3 : Int × (List Int) × (List Int) × Int) (b4 : Nat) (fr5 : Nat × Nat) (A9 : Option Addr) (c10 : Nat) (A12 : Option Addr) (c13 : Nat) (R11 : rdS (r0 (.int .u64)) 1 (hp w0) A9 c10 y3.2.1) (hb7 : (hp w0) b4 = some (.cells #[.int .i64 y3.1, .slice A9 y3.2.1.length c10, .slice A12 y3.2.2.1.length c13, .int .i64 y3.2.2.2] 47 fr5)) (out : Int) (hn0 : ∀ (w : World), Sat w (rf w0) [] → At Q (.exit 0) 67 [(0, .pointer (some ⟨b4, 0, none⟩)), (1, .int .i64 a1), (5, .int .i64 (wi (Int.tdiv a1 64))), (6, .int .i64 out)] w) :
    ∀ (k : Nat) (x6_l1 : Int) (x7_l1 : Int) (w : World), Sat w (rf w0) [] → rank_Vec_Rank.l1 a1 y3 k x6_l1 x7_l1 = some out → WL Try.prog (cbody (cbody (cr (cl (cr (cr (cr (cr (cr C11))))))))) Q 67 [(0, .pointer (some ⟨b4, 0, none⟩)), (1, .int .i64 a1), (5, .int .i64 (wi (Int.tdiv a1 64))), (6, .int .i64 x6_l1), (7, .int .i64 x7_l1)] w := by
  intro k
  induction k with
  | zero => intro x6_l1 x7_l1 w hS H; exact absurd (show none = some out from H) (by simp)
  | succ k ih =>
    intro x6_l1 x7_l1 w hS H
    unfold rank_Vec_Rank.l1 at H
    refine WL.round ?_
    refine WC.seq (by kernel_rfl) ?_
    refine WC.seq (by kernel_rfl) ?_
    refine WC.reg [0, 1, 2] (by kernel_rfl) (by kernel_rfl) ?_
    refine WR.runk [0, 1, 2] [] [0, 1, 5, 6, 7, 39] (L' := [(0, .pointer (some ⟨b4, 0, none⟩)), (1, .int .i64 a1), (5, .int .i64 (wi (Int.tdiv a1 64))), (6, .int .i64 x6_l1), (7, .int .i64 x7_l1), (39, .bool (decide (x7_l1 < wi (Int.tdiv a1 64))))]) (w' := w) (by kernel_rfl) ?_
    refine WR.nil ?_
    refine At.go ?_
    refine WC.cond (by kernel_rfl) (decide (x7_l1 < wi (Int.tdiv a1 64))) (by kernel_rfl) (by kernel_rfl) (fun hb19 => ?_) (fun hb19 => ?_)
    · replace H := ite_t H hb19
      refine WC.skip (by kernel_rfl) ?_
      refine At.go ?_
      refine WC.seq (by kernel_rfl) ?_
      refine WC.block (by kernel_rfl) ?_
      refine WC.reg [0, 1, 2, 3, 4, 5, 6, 7, 8, 9, 10] (by kernel_rfl) (by kernel_rfl) ?_
      refine WR.runk [0, 1, 2, 3] [4, 5, 6, 7, 8, 9, 10] [0, 1, 5, 6, 7, 42, 45] (L' := [(0, .pointer (some ⟨b4, 0, none⟩)), (1, .int .i64 a1), (5, .int .i64 (wi (Int.tdiv a1 64))), (6, .int .i64 x6_l1), (7, .int .i64 x7_l1), (42, .int .i64 x6_l1), (45, .pointer (some ⟨b4, 1, none⟩))]) (w' := w) (by kernel_rfl) ?_
      refine WR.st (St.ofR (RSt.loadRo (t := 44) (k := 1) (v := .slice A9 y3.2.1.length c10) (.tmp 45) (by kernel_rfl) (by kernel_rfl) (by kernel_rfl) hS.sub0 hb7 (by kernel_rfl) rfl ?_))
      refine WR.runk [5] [6, 7, 8, 9, 10] [0, 1, 5, 6, 7, 42, 46, 47] (L' := [(0, .pointer (some ⟨b4, 0, none⟩)), (1, .int .i64 a1), (5, .int .i64 (wi (Int.tdiv a1 64))), (6, .int .i64 x6_l1), (7, .int .i64 x7_l1), (42, .int .i64 x6_l1), (46, .slice A9 y3.2.1.length c10), (47, .int .i64 x7_l1)]) (w' := w) (by kernel_rfl) ?_
      obtain ⟨v20, e21, H⟩ := bind_ex H
      refine WR.st (St.ofP (PSt.idx (k := .i64) (.tmp 46) (.tmp 47) (by kernel_rfl) (by kernel_rfl) E44 (by kernel_rfl) (by kernel_rfl) (rdS.up R11 hS.sub0) e21 ?_))
      refine WR.runk [] [7, 8, 9, 10] [0, 1, 5, 6, 7, 42, 48] (L' := [(0, .pointer (some ⟨b4, 0, none⟩)), (1, .int .i64 a1), (5, .int .i64 (wi (Int.tdiv a1 64))), (6, .int .i64 x6_l1), (7, .int .i64 x7_l1), (42, .int .i64 x6_l1), (48, .pointer (some (adr A9 x7_l1.toNat 1)))]) (w' := w) (by kernel_rfl) ?_
      refine WR.st (St.ofR (RSt.loadInt (t := 40) (.tmp 48) (by kernel_rfl) (by kernel_rfl) (by kernel_rfl) (by kernel_rfl) (rdS.up R11 hS.sub0) e21 ?_))
      refine WR.runk [] [8, 9, 10] [0, 1, 5, 6, 7, 42, 49] (L' := [(0, .pointer (some ⟨b4, 0, none⟩)), (1, .int .i64 a1), (5, .int .i64 (wi (Int.tdiv a1 64))), (6, .int .i64 x6_l1), (7, .int .i64 x7_l1), (42, .int .i64 x6_l1), (49, .int .u64 v20)]) (w' := w) (by kernel_rfl) ?_
      obtain ⟨r22, e23, H⟩ := bind_ex H
      refine WR.st (St.call (by kernel_rfl) (f := 24) (args := #[.int .u64 v20]) (by kernel_rfl) (bits_OnesCount64.calls w v20 r22 e23) ?_)
      rintro _ w29 ⟨rfl, hS30⟩
      have hS : Sat w29 (rf w0) [] := hS.ext hS30
      refine WR.runk [9, 10] [] [0, 1, 5, 6, 7] (L' := [(0, .pointer (some ⟨b4, 0, none⟩)), (1, .int .i64 a1), (5, .int .i64 (wi (Int.tdiv a1 64))), (6, .int .i64 (wi (x6_l1 + r22))), (7, .int .i64 x7_l1)]) (w' := w29) (by kernel_rfl) ?_
      refine WR.nil ?_
      refine At.blockNormal ?_
      refine At.go ?_
      refine WC.reg [0, 1, 2] (by kernel_rfl) (by kernel_rfl) ?_
      refine WR.runk [0, 1, 2] [] [0, 1, 5, 6, 7] (L' := [(0, .pointer (some ⟨b4, 0, none⟩)), (1, .int .i64 a1), (5, .int .i64 (wi (Int.tdiv a1 64))), (6, .int .i64 (wi (x6_l1 + r22))), (7, .int .i64 (wi (x7_l1 + 1)))]) (w' := w29) (by kernel_rfl) ?_
      refine WR.nil ?_
      have hS : Sat w29 (rf w0) [] := hS.sel [] (by kernel_rfl)
      refine At.again ?_
      refine WL.weaken [0, 1, 5, 6, 7] (L' := [(0, .pointer (some ⟨b4, 0, none⟩)), (1, .int .i64 a1), (5, .int .i64 (wi (Int.tdiv a1 64))), (6, .int .i64 (wi (x6_l1 + r22))), (7, .int .i64 (wi (x7_l1 + 1)))]) (by kernel_rfl) ?_
      exact ih (wi (x6_l1 + r22)) (wi (x7_l1 + 1)) _ hS H
    · replace H := ite_f H hb19
      refine WC.exit (by kernel_rfl) ?_
      refine At.thenExit ?_
      refine At.thenExit ?_
      obtain rfl := Option.some.inj H
      have hS : Sat w (rf w0) [] := hS.sel [] (by kernel_rfl)
      refine At.weaken [0, 1, 5, 6] (L' := [(0, .pointer (some ⟨b4, 0, none⟩)), (1, .int .i64 a1), (5, .int .i64 (wi (Int.tdiv a1 64))), (6, .int .i64 x6_l1)]) (by kernel_rfl) ?_
      exact hn0 _ hS
theorem rank_Vec_Rank.calls (w0 : World) (v0 : Value) (p0 : Option (Int × (List Int) × (List Int) × Int)) (R0 : rd (hp w0) (.ptr 47 (.pair (.int .i64) (.pair (.slice 40 (.int .u64)) (.pair (.slice 3 (.int .i64)) (.int .i64))))) [v0] p0) (a1 : Int) (r : Int) (H : rank_Vec_Rank.f p0 a1 = some r) :
    Calls Try.prog 11 #[v0, .int .i64 a1] w0 (fun e w' => ∃ v, e = .returned v ∧ rank_Vec_Rank.post w0 r v w') := by
  have hS : Sat w0 (rf w0) [] := Sat.start w0
  unfold rank_Vec_Rank.f at H
  refine calls_of_WC (vs := [v0, .int .i64 a1]) Try.func11 (c := C11) (n := 67) (by kernel_rfl) (by kernel_rfl) (by kernel_rfl) ?_
  refine WC.seq (by kernel_rfl) ?_
  refine WC.reg [0] (by kernel_rfl) (by kernel_rfl) ?_
  refine WR.runk [0] [] [0, 1] (L' := [(0, v0), (1, .int .i64 a1)]) (w' := w0) (by kernel_rfl) ?_
  refine WR.nil ?_
  refine At.go ?_
  refine WC.seq (by kernel_rfl) ?_
  refine WC.seq (by kernel_rfl) ?_
  refine WC.reg [0, 1, 2, 3, 4, 5] (by kernel_rfl) (by kernel_rfl) ?_
  refine WR.runk [0] [1, 2, 3, 4, 5] [0, 1, 8] (L' := [(0, v0), (1, .int .i64 a1), (8, v0)]) (w' := w0) (by kernel_rfl) ?_
  rcases opt_cases p0 with hr1 | ⟨y3, hr1⟩
  · rw [hr1] at H
    dsimp only at H
    have hx2 := rd_ptr_none R0 hr1
    try subst hx2
    refine WR.runk [1, 2, 3, 4, 5] [] [0, 1, 13] (L' := [(0, .pointer none), (1, .int .i64 a1), (13, .bool true)]) (w' := w0) (by kernel_rfl) ?_
    refine WR.nil ?_
    refine At.go ?_
    refine WC.condT (by kernel_rfl) (by kernel_rfl) (by kernel_rfl) ?_
    refine WC.seq (by kernel_rfl) ?_
    refine WC.reg [0] (by kernel_rfl) (by kernel_rfl) ?_
    refine WR.runk [0] [] [4] (L' := [(4, .int .i64 0)]) (w' := w0) (by kernel_rfl) ?_
    refine WR.nil ?_
    refine At.go ?_
    refine WC.ret (by kernel_rfl) ?_
    refine At.thenRet ?_
    obtain rfl := Option.some.inj H
    have hS : Sat w0 (rf w0) [] := hS.sel [] (by kernel_rfl)
    exact At.body [.int .i64 0] (by kernel_rfl) ⟨_, rfl, rfl, hS⟩
  · rw [hr1] at H
    dsimp only at H
    obtain ⟨b4, fr5, A9, c10, A12, c13, hv6, hb7, R11, R14⟩ := P47.open R0 hr1
    have R8 := R0
    rw [hv6, hr1] at R8
    try subst hv6
    replace R11 : rdS (r0 (.int .u64)) 1 (hp w0) A9 c10 y3.2.1 := R11
    replace R14 : rdS (r0 (.int .i64)) 1 (hp w0) A12 c13 y3.2.2.1 := R14
    refine WR.runk [1, 2, 3, 4, 5] [] [0, 1, 13] (L' := [(0, .pointer (some ⟨b4, 0, none⟩)), (1, .int .i64 a1), (13, .bool (decide (a1 ≤ 0)))]) (w' := w0) (by kernel_rfl) ?_
    refine WR.nil ?_
    refine At.go ?_
    refine WC.cond (by kernel_rfl) (decide (a1 ≤ 0)) (by kernel_rfl) (by kernel_rfl) (fun hb15 => ?_) (fun hb15 => ?_)
    · replace H := ite_t H hb15
      refine WC.seq (by kernel_rfl) ?_
      refine WC.reg [0] (by kernel_rfl) (by kernel_rfl) ?_
      refine WR.runk [0] [] [4] (L' := [(4, .int .i64 0)]) (w' := w0) (by kernel_rfl) ?_
      refine WR.nil ?_
      refine At.go ?_
      refine WC.ret (by kernel_rfl) ?_
      refine At.thenRet ?_
      obtain rfl := Option.some.inj H
      have hS : Sat w0 (rf w0) [] := hS.sel [] (by kernel_rfl)
      exact At.body [.int .i64 0] (by kernel_rfl) ⟨_, rfl, rfl, hS⟩
    · replace H := ite_f H hb15
      refine WC.skip (by kernel_rfl) ?_
      refine At.go ?_
      refine WC.seq (by kernel_rfl) ?_
      refine WC.seq (by kernel_rfl) ?_
      refine WC.reg [0, 1, 2, 3, 4, 5] (by kernel_rfl) (by kernel_rfl) ?_
      refine WR.runk [0, 1, 2, 3] [4, 5] [0, 1, 14, 17] (L' := [(0, .pointer (some ⟨b4, 0, none⟩)), (1, .int .i64 a1), (14, .int .i64 a1), (17, .pointer (some ⟨b4, 0, none⟩))]) (w' := w0) (by kernel_rfl) ?_
      refine WR.st (St.ofR (RSt.loadRo (t := 3) (k := 0) (v := .int .i64 y3.1) (.tmp 17) (by kernel_rfl) (by kernel_rfl) (by kernel_rfl) hS.sub0 hb7 (by kernel_rfl) rfl ?_))
      refine WR.runk [5] [] [0, 1, 19] (L' := [(0, .pointer (some ⟨b4, 0, none⟩)), (1, .int .i64 a1), (19, .bool (decide (a1 ≥ y3.1)))]) (w' := w0) (by kernel_rfl) ?_
      refine WR.nil ?_
      refine At.go ?_
      refine WC.cond (by kernel_rfl) (decide (a1 ≥ y3.1)) (by kernel_rfl) (by kernel_rfl) (fun hb16 => ?_) (fun hb16 => ?_)
      · replace H := ite_t H hb16
        refine WC.seq (by kernel_rfl) ?_
        refine WC.reg [0, 1, 2, 3, 4] (by kernel_rfl) (by kernel_rfl) ?_
        refine WR.runk [0, 1, 2] [3, 4] [22] (L' := [(22, .pointer (some ⟨b4, 3, none⟩))]) (w' := w0) (by kernel_rfl) ?_
        refine WR.st (St.ofR (RSt.loadRo (t := 3) (k := 3) (v := .int .i64 y3.2.2.2) (.tmp 22) (by kernel_rfl) (by kernel_rfl) (by kernel_rfl) hS.sub0 hb7 (by kernel_rfl) rfl ?_))
        refine WR.runk [4] [] [4] (L' := [(4, .int .i64 y3.2.2.2)]) (w' := w0) (by kernel_rfl) ?_
        refine WR.nil ?_
        refine At.go ?_
        refine WC.ret (by kernel_rfl) ?_
        refine At.thenRet ?_
        obtain rfl := Option.some.inj H
        have hS : Sat w0 (rf w0) [] := hS.sel [] (by kernel_rfl)
        exact At.body [.int .i64 y3.2.2.2] (by kernel_rfl) ⟨_, rfl, rfl, hS⟩
      · replace H := ite_f H hb16
        refine WC.skip (by kernel_rfl) ?_
        refine At.go ?_
        refine WC.seq (by kernel_rfl) ?_
        refine WC.reg [0, 1, 2] (by kernel_rfl) (by kernel_rfl) ?_
        refine WR.runk [0, 1, 2] [] [0, 1, 5] (L' := [(0, .pointer (some ⟨b4, 0, none⟩)), (1, .int .i64 a1), (5, .int .i64 (wi (Int.tdiv a1 64)))]) (w' := w0) (by kernel_rfl) ?_
        refine WR.nil ?_
        refine At.go ?_
        refine WC.seq (by kernel_rfl) ?_
        refine WC.reg [0, 1, 2, 3, 4, 5, 6, 7, 8] (by kernel_rfl) (by kernel_rfl) ?_
        refine WR.runk [0, 1, 2] [3, 4, 5, 6, 7, 8] [0, 1, 5, 28] (L' := [(0, .pointer (some ⟨b4, 0, none⟩)), (1, .int .i64 a1), (5, .int .i64 (wi (Int.tdiv a1 64))), (28, .pointer (some ⟨b4, 2, none⟩))]) (w' := w0) (by kernel_rfl) ?_
        refine WR.st (St.ofR (RSt.loadRo (t := 45) (k := 2) (v := .slice A12 y3.2.2.1.length c13) (.tmp 28) (by kernel_rfl) (by kernel_rfl) (by kernel_rfl) hS.sub0 hb7 (by kernel_rfl) rfl ?_))
        refine WR.runk [4, 5] [6, 7, 8] [0, 1, 5, 29, 31] (L' := [(0, .pointer (some ⟨b4, 0, none⟩)), (1, .int .i64 a1), (5, .int .i64 (wi (Int.tdiv a1 64))), (29, .slice A12 y3.2.2.1.length c13), (31, .int .i64 (wi (Int.tdiv (wi (Int.tdiv a1 64)) 8)))]) (w' := w0) (by kernel_rfl) ?_
        obtain ⟨v17, e18, H⟩ := bind_ex H
        refine WR.st (St.ofP (PSt.idx (k := .i64) (.tmp 29) (.tmp 31) (by kernel_rfl) (by kernel_rfl) E45 (by kernel_rfl) (by kernel_rfl) (rdS.up R14 hS.sub0) e18 ?_))
        refine WR.runk [] [7, 8] [0, 1, 5, 32] (L' := [(0, .pointer (some ⟨b4, 0, none⟩)), (1, .int .i64 a1), (5, .int .i64 (wi (Int.tdiv a1 64))), (32, .pointer (some (adr A12 (wi (Int.tdiv (wi (Int.tdiv a1 64)) 8)).toNat 1)))]) (w' := w0) (by kernel_rfl) ?_
        refine WR.st (St.ofR (RSt.loadInt (t := 3) (.tmp 32) (by kernel_rfl) (by kernel_rfl) (by kernel_rfl) (by kernel_rfl) (rdS.up R14 hS.sub0) e18 ?_))
        refine WR.runk [8] [] [0, 1, 5, 6] (L' := [(0, .pointer (some ⟨b4, 0, none⟩)), (1, .int .i64 a1), (5, .int .i64 (wi (Int.tdiv a1 64))), (6, .int .i64 v17)]) (w' := w0) (by kernel_rfl) ?_
        refine WR.nil ?_
        refine At.go ?_
        refine WC.seq (by kernel_rfl) ?_
        refine WC.seq (by kernel_rfl) ?_
        refine WC.reg [0, 1, 2, 3] (by kernel_rfl) (by kernel_rfl) ?_
        refine WR.runk [0, 1, 2, 3] [] [0, 1, 5, 6, 7] (L' := [(0, .pointer (some ⟨b4, 0, none⟩)), (1, .int .i64 a1), (5, .int .i64 (wi (Int.tdiv a1 64))), (6, .int .i64 v17), (7, .int .i64 (wi ((wi (Int.tdiv (wi (Int.tdiv a1 64)) 8)) * 8)))]) (w' := w0) (by kernel_rfl) ?_
        refine WR.nil ?_
        refine At.go ?_
        refine WC.block (by kernel_rfl) ?_
        have hS : Sat w0 (rf w0) [] := hS.sel [] (by kernel_rfl)
        obtain ⟨o31, e32, H⟩ := bind_ex H
        refine WC.loop (by kernel_rfl) ?_
        refine WL.weaken [0, 1, 5, 6, 7] (L' := [(0, .pointer (some ⟨b4, 0, none⟩)), (1, .int .i64 a1), (5, .int .i64 (wi (Int.tdiv a1 64))), (6, .int .i64 v17), (7, .int .i64 (wi ((wi (Int.tdiv (wi (Int.tdiv a1 64)) 8)) * 8)))]) (by kernel_rfl) ?_
        refine rank_Vec_Rank.l1_ok w0 a1 y3 b4 fr5 A9 c10 A12 c13 R11 hb7 o31 (fun w34 hS => ?_) FU v17 (wi ((wi (Int.tdiv (wi (Int.tdiv a1 64)) 8)) * 8)) _ hS e32
        refine At.hit ?_
        refine At.go ?_
        refine WC.seq (by kernel_rfl) ?_
        refine WC.drawn (by kernel_rfl) (by kernel_rfl) 16 (by kernel_rfl) (fun w36 hw37 => ?_)
        have hS := hS.heap hw37.1 hw37.2
        refine WD.weaken [0, 1, 5, 6] (L' := [(0, .pointer (some ⟨b4, 0, none⟩)), (1, .int .i64 a1), (5, .int .i64 (wi (Int.tdiv a1 64))), (6, .int .i64 o31)]) (by kernel_rfl) ?_
        refine WD.pure (i := 0) (v := .int .i64 o31) (by kernel_rfl) (by kernel_rfl) (fun _ => by kernel_rfl) ?_
        refine WD.weaken [0, 1, 5, 52] (L' := [(0, .pointer (some ⟨b4, 0, none⟩)), (1, .int .i64 a1), (5, .int .i64 (wi (Int.tdiv a1 64))), (52, .int .i64 o31)]) (by kernel_rfl) ?_
        refine WD.pure (i := 1) (v := .pointer (some ⟨b4, 0, none⟩)) (by kernel_rfl) (by kernel_rfl) (fun _ => by kernel_rfl) ?_
        refine WD.weaken [1, 5, 52, 53] (L' := [(1, .int .i64 a1), (5, .int .i64 (wi (Int.tdiv a1 64))), (52, .int .i64 o31), (53, .pointer (some ⟨b4, 0, none⟩))]) (by kernel_rfl) ?_
        refine WD.pure (i := 2) (v := .pointer (some ⟨b4, 0, none⟩)) (by kernel_rfl) (by kernel_rfl) (fun _ => by kernel_rfl) ?_
        refine WD.weaken [1, 5, 52, 54] (L' := [(1, .int .i64 a1), (5, .int .i64 (wi (Int.tdiv a1 64))), (52, .int .i64 o31), (54, .pointer (some ⟨b4, 0, none⟩))]) (by kernel_rfl) ?_
        refine WD.pure (i := 3) (v := .pointer (some ⟨b4, 1, none⟩)) (by kernel_rfl) (by kernel_rfl) (fun _ => by kernel_rfl) ?_
        refine WD.weaken [1, 5, 52, 55] (L' := [(1, .int .i64 a1), (5, .int .i64 (wi (Int.tdiv a1 64))), (52, .int .i64 o31), (55, .pointer (some ⟨b4, 1, none⟩))]) (by kernel_rfl) ?_
        refine WD.ofR (i := 4) (by kernel_rfl) (RSt.loadRo (t := 44) (k := 1) (v := .slice A9 y3.2.1.length c10) (.tmp 55) (by kernel_rfl) (by kernel_rfl) (by kernel_rfl) hS.sub0 hb7 (by kernel_rfl) rfl ?_)
        refine WD.weaken [1, 5, 52, 56] (L' := [(1, .int .i64 a1), (5, .int .i64 (wi (Int.tdiv a1 64))), (52, .int .i64 o31), (56, .slice A9 y3.2.1.length c10)]) (by kernel_rfl) ?_
        refine WD.pure (i := 5) (v := .int .i64 (wi (Int.tdiv a1 64))) (by kernel_rfl) (by kernel_rfl) (fun _ => by kernel_rfl) ?_
        refine WD.weaken [1, 52, 56, 57] (L' := [(1, .int .i64 a1), (52, .int .i64 o31), (56, .slice A9 y3.2.1.length c10), (57, .int .i64 (wi (Int.tdiv a1 64)))]) (by kernel_rfl) ?_
        obtain ⟨v38, e39, H⟩ := bind_ex H
        refine WD.ofP (i := 6) (by kernel_rfl) (PSt.idx (k := .i64) (.tmp 56) (.tmp 57) (by kernel_rfl) (by kernel_rfl) E44 (by kernel_rfl) (by kernel_rfl) (rdS.up R11 hS.sub0) e39 ?_)
        refine WD.weaken [1, 52, 58] (L' := [(1, .int .i64 a1), (52, .int .i64 o31), (58, .pointer (some (adr A9 (wi (Int.tdiv a1 64)).toNat 1)))]) (by kernel_rfl) ?_
        refine WD.ofR (i := 7) (by kernel_rfl) (RSt.loadInt (t := 40) (.tmp 58) (by kernel_rfl) (by kernel_rfl) (by kernel_rfl) (by kernel_rfl) (rdS.up R11 hS.sub0) e39 ?_)
        refine WD.weaken [1, 52, 59] (L' := [(1, .int .i64 a1), (52, .int .i64 o31), (59, .int .u64 v38)]) (by kernel_rfl) ?_
        refine WD.pure (i := 8) (v := .int .i64 a1) (by kernel_rfl) (by kernel_rfl) (fun _ => by kernel_rfl) ?_
        refine WD.weaken [52, 59, 60] (L' := [(52, .int .i64 o31), (59, .int .u64 v38), (60, .int .i64 a1)]) (by kernel_rfl) ?_
        refine WD.pure (i := 9) (v := .int .i64 (Int.tmod a1 64)) (by kernel_rfl) (by kernel_rfl) (fun _ => by kernel_rfl) ?_
        refine WD.weaken [52, 59, 61] (L' := [(52, .int .i64 o31), (59, .int .u64 v38), (61, .int .i64 (Int.tmod a1 64))]) (by kernel_rfl) ?_
        obtain ⟨_, e40, H⟩ := bind_ex H
        refine WD.ofP (i := 10) (by kernel_rfl) (PSt.shift (k := .u64) (k2 := .i64) (t := 40) (t2 := 3) (a := 1) (b := (Int.tmod a1 64)) .shl (by decide) (.const (.int .u64 1)) (.tmp 61) (by kernel_rfl) (by kernel_rfl) (by kernel_rfl) (by kernel_rfl) (of_decide_eq_true (chk?_some e40)) ?_)
        refine WD.weaken [52, 59, 62] (L' := [(52, .int .i64 o31), (59, .int .u64 v38), (62, .int .u64 (ishl .u64 1 (Int.tmod a1 64)))]) (by kernel_rfl) ?_
        refine WD.pure (i := 11) (v := .int .u64 (IntKind.wrap .u64 ((ishl .u64 1 (Int.tmod a1 64)) - 1))) (by kernel_rfl) (by kernel_rfl) (fun _ => by kernel_rfl) ?_
        refine WD.weaken [52, 59, 63] (L' := [(52, .int .i64 o31), (59, .int .u64 v38), (63, .int .u64 (IntKind.wrap .u64 ((ishl .u64 1 (Int.tmod a1 64)) - 1)))]) (by kernel_rfl) ?_
        refine WD.pure (i := 12) (v := .int .u64 (iand .u64 v38 (IntKind.wrap .u64 ((ishl .u64 1 (Int.tmod a1 64)) - 1)))) (by kernel_rfl) (by kernel_rfl) (fun _ => by kernel_rfl) ?_
        refine WD.weaken [52, 64] (L' := [(52, .int .i64 o31), (64, .int .u64 (iand .u64 v38 (IntKind.wrap .u64 ((ishl .u64 1 (Int.tmod a1 64)) - 1))))]) (by kernel_rfl) ?_
        obtain ⟨r41, e42, H⟩ := bind_ex H
        refine WD.act (i := 13) (by kernel_rfl) (St.call (by kernel_rfl) (f := 24) (args := #[.int .u64 (iand .u64 v38 (IntKind.wrap .u64 ((ishl .u64 1 (Int.tmod a1 64)) - 1)))]) (by kernel_rfl) (bits_OnesCount64.calls w36 (iand .u64 v38 (IntKind.wrap .u64 ((ishl .u64 1 (Int.tmod a1 64)) - 1))) r41 e42) ?_)
        rintro _ w48 ⟨rfl, hS49⟩
        have hS : Sat w48 (rf w0) [] := hS.ext hS49
        refine ⟨(asked.anc (by kernel_rfl) (asked.anc (by kernel_rfl) (asked.nil _ _))), ?_⟩
        refine WD.weaken [52, 65] (L' := [(52, .int .i64 o31), (65, .int .i64 r41)]) (by kernel_rfl) ?_
        refine WD.pure (i := 14) (v := .int .i64 (wi (o31 + r41))) (by kernel_rfl) (by kernel_rfl) (fun _ => by kernel_rfl) ?_
        refine WD.weaken [66] (L' := [(66, .int .i64 (wi (o31 + r41)))]) (by kernel_rfl) ?_
        refine WD.pure (i := 15) (v := .int .i64 (wi (o31 + r41))) (by kernel_rfl) (by kernel_rfl) (fun _ => by kernel_rfl) ?_
        refine WD.weaken [4] (L' := [(4, .int .i64 (wi (o31 + r41)))]) (by kernel_rfl) ?_
        refine WD.nil (by kernel_rfl) ?_
        refine At.go ?_
        refine WC.ret (by kernel_rfl) ?_
        obtain rfl := Option.some.inj H
        have hS : Sat w48 (rf w0) [] := hS.sel [] (by kernel_rfl)
        exact At.body [.int .i64 (wi (o31 + r41))] (by kernel_rfl) ⟨_, rfl, rfl, hS⟩
/-! ### 16 (*colophon/rank.Vec).Len -/
def rank_Vec_Len.f (p0 : Option (Int × (List Int) × (List Int) × Int)) : Option Int := (match p0 with | none => some 0 | some y3 => some y3.1)
def rank_Vec_Len.post (w : World) (r : Int) (v : Value) (w' : World) : Prop := v = (.int .i64 r : Value) ∧ Sat w' (rf w) []
theorem rank_Vec_Len.calls (w0 : World) (v0 : Value) (p0 : Option (Int × (List Int) × (List Int) × Int)) (R0 : rd (hp w0) (.ptr 47 (.pair (.int .i64) (.pair (.slice 40 (.int .u64)) (.pair (.slice 3 (.int .i64)) (.int .i64))))) [v0] p0) (r : Int) (H : rank_Vec_Len.f p0 = some r) :
    Calls Try.prog 16 #[v0] w0 (fun e w' => ∃ v, e = .returned v ∧ rank_Vec_Len.post w0 r v w') := by
  have hS : Sat w0 (rf w0) [] := Sat.start w0
  unfold rank_Vec_Len.f at H
  refine calls_of_WC (vs := [v0]) Try.func16 (c := C16) (n := 9) (by kernel_rfl) (by kernel_rfl) (by kernel_rfl) ?_
  refine WC.seq (by kernel_rfl) ?_
  refine WC.reg [0] (by kernel_rfl) (by kernel_rfl) ?_
  refine WR.runk [0] [] [0] (L' := [(0, v0)]) (w' := w0) (by kernel_rfl) ?_
  refine WR.nil ?_
  refine At.go ?_
  refine WC.seq (by kernel_rfl) ?_
  refine WC.seq (by kernel_rfl) ?_
  refine WC.reg [0, 1] (by kernel_rfl) (by kernel_rfl) ?_
  refine WR.runk [0] [1] [0, 3] (L' := [(0, v0), (3, v0)]) (w' := w0) (by kernel_rfl) ?_
  rcases opt_cases p0 with hr1 | ⟨y3, hr1⟩
  · rw [hr1] at H
    dsimp only at H
    have hx2 := rd_ptr_none R0 hr1
    try subst hx2
    refine WR.runk [1] [] [0, 4] (L' := [(0, .pointer none), (4, .bool true)]) (w' := w0) (by kernel_rfl) ?_
    refine WR.nil ?_
    refine At.go ?_
    refine WC.condT (by kernel_rfl) (by kernel_rfl) (by kernel_rfl) ?_
    refine WC.seq (by kernel_rfl) ?_
    refine WC.reg [0] (by kernel_rfl) (by kernel_rfl) ?_
    refine WR.runk [0] [] [2] (L' := [(2, .int .i64 0)]) (w' := w0) (by kernel_rfl) ?_
    refine WR.nil ?_
    refine At.go ?_
    refine WC.ret (by kernel_rfl) ?_
    refine At.thenRet ?_
    obtain rfl := Option.some.inj H
    have hS : Sat w0 (rf w0) [] := hS.sel [] (by kernel_rfl)
    exact At.body [.int .i64 0] (by kernel_rfl) ⟨_, rfl, rfl, hS⟩
  · rw [hr1] at H
    dsimp only at H
    obtain ⟨b4, fr5, A9, c10, A12, c13, hv6, hb7, R11, R14⟩ := P47.open R0 hr1
    have R8 := R0
    rw [hv6, hr1] at R8
    try subst hv6
    replace R11 : rdS (r0 (.int .u64)) 1 (hp w0) A9 c10 y3.2.1 := R11
    replace R14 : rdS (r0 (.int .i64)) 1 (hp w0) A12 c13 y3.2.2.1 := R14
    refine WR.runk [1] [] [0, 4] (L' := [(0, .pointer (some ⟨b4, 0, none⟩)), (4, .bool false)]) (w' := w0) (by kernel_rfl) ?_
    refine WR.nil ?_
    refine At.go ?_
    refine WC.condF (by kernel_rfl) (by kernel_rfl) (by kernel_rfl) ?_
    refine WC.skip (by kernel_rfl) ?_
    refine At.go ?_
    refine WC.seq (by kernel_rfl) ?_
    refine WC.reg [0, 1, 2, 3, 4] (by kernel_rfl) (by kernel_rfl) ?_
    refine WR.runk [0, 1, 2] [3, 4] [7] (L' := [(7, .pointer (some ⟨b4, 0, none⟩))]) (w' := w0) (by kernel_rfl) ?_
    refine WR.st (St.ofR (RSt.loadRo (t := 3) (k := 0) (v := .int .i64 y3.1) (.tmp 7) (by kernel_rfl) (by kernel_rfl) (by kernel_rfl) hS.sub0 hb7 (by kernel_rfl) rfl ?_))
    refine WR.runk [4] [] [2] (L' := [(2, .int .i64 y3.1)]) (w' := w0) (by kernel_rfl) ?_
    refine WR.nil ?_
    refine At.go ?_
    refine WC.ret (by kernel_rfl) ?_
    obtain rfl := Option.some.inj H
    have hS : Sat w0 (rf w0) [] := hS.sel [] (by kernel_rfl)
    exact At.body [.int .i64 y3.1] (by kernel_rfl) ⟨_, rfl, rfl, hS⟩
/-! ### 12 (*colophon/rank.Vec).Zeros -/
def rank_Vec_Zeros.f (p0 : Option (Int × (List Int) × (List Int) × Int)) (a1 : Int) : Option Int := ((rank_Vec_Len.f p0).bind fun r1 => ((rank_Vec_Rank.f p0 a1).bind fun r10 => some (wi ((imax 0 (imin a1 r1)) - r10))))
def rank_Vec_Zeros.post (w : World) (r : Int) (v : Value) (w' : World) : Prop := v = (.int .i64 r : Value) ∧ Sat w' (rf w) []
theorem rank_Vec_Zeros.calls (w0 : World) (v0 : Value) (p0 : Option (Int × (List Int) × (List Int) × Int)) (R0 : rd (hp w0) (.ptr 47 (.pair (.int .i64) (.pair (.slice 40 (.int .u64)) (.pair (.slice 3 (.int .i64)) (.int .i64))))) [v0] p0) (a1 : Int) (r : Int) (H : rank_Vec_Zeros.f p0 a1 = some r) :
    Calls Try.prog 12 #[v0, .int .i64 a1] w0 (fun e w' => ∃ v, e = .returned v ∧ rank_Vec_Zeros.post w0 r v w') := by
  have hS : Sat w0 (rf w0) [] := Sat.start w0
  unfold rank_Vec_Zeros.f at H
  refine calls_of_WC (vs := [v0, .int .i64 a1]) Try.func12 (c := C12) (n := 14) (by kernel_rfl) (by kernel_rfl) (by kernel_rfl) ?_
  refine WC.seq (by kernel_rfl) ?_
  refine WC.reg [0] (by kernel_rfl) (by kernel_rfl) ?_
  refine WR.runk [0] [] [0, 1] (L' := [(0, v0), (1, .int .i64 a1)]) (w' := w0) (by kernel_rfl) ?_
  refine WR.nil ?_
  refine At.go ?_
  refine WC.seq (by kernel_rfl) ?_
  refine WC.reg [0, 1, 2, 3, 4, 5, 6, 7, 8, 9] (by kernel_rfl) (by kernel_rfl) ?_
  refine WR.runk [0, 1] [2, 3, 4, 5, 6, 7, 8, 9] [0, 1, 5, 6] (L' := [(0, v0), (1, .int .i64 a1), (5, .int .i64 a1), (6, v0)]) (w' := w0) (by kernel_rfl) ?_
  obtain ⟨r1, e2, H⟩ := bind_ex H
  refine WR.st (St.call (by kernel_rfl) (f := 16) (args := #[v0]) (by kernel_rfl) (rank_Vec_Len.calls w0 (v0) p0 (rd.mono hS.sub0 _ _ _ R0) r1 e2) ?_)
  rintro _ w8 ⟨rfl, hS9⟩
  have hS : Sat w8 (rf w0) [] := hS.ext hS9
  refine WR.runk [3, 4, 5, 6] [7, 8, 9] [9, 10, 11] (L' := [(9, .int .i64 (imax 0 (imin a1 r1))), (10, v0), (11, .int .i64 a1)]) (w' := w8) (by kernel_rfl) ?_
  obtain ⟨r10, e11, H⟩ := bind_ex H
  refine WR.st (St.call (by kernel_rfl) (f := 11) (args := #[v0, .int .i64 a1]) (by kernel_rfl) (rank_Vec_Rank.calls w8 (v0) p0 (rd.mono hS.sub0 _ _ _ R0) a1 r10 e11) ?_)
  rintro _ w17 ⟨rfl, hS18⟩
  have hS : Sat w17 (rf w0) [] := hS.ext hS18
  refine WR.runk [8, 9] [] [4] (L' := [(4, .int .i64 (wi ((imax 0 (imin a1 r1)) - r10)))]) (w' := w17) (by kernel_rfl) ?_
  refine WR.nil ?_
  refine At.go ?_
  refine WC.ret (by kernel_rfl) ?_
  obtain rfl := Option.some.inj H
  have hS : Sat w17 (rf w0) [] := hS.sel [] (by kernel_rfl)
  exact At.body [.int .i64 (wi ((imax 0 (imin a1 r1)) - r10))] (by kernel_rfl) ⟨_, rfl, rfl, hS⟩
/-! ### 15 (*colophon/rank.Vec).Ones -/
def rank_Vec_Ones.f (p0 : Option (Int × (List Int) × (List Int) × Int)) : Option Int := (match p0 with | none => some 0 | some y3 => some y3.2.2.2)
def rank_Vec_Ones.post (w : World) (r : Int) (v : Value) (w' : World) : Prop := v = (.int .i64 r : Value) ∧ Sat w' (rf w) []
theorem rank_Vec_Ones.calls (w0 : World) (v0 : Value) (p0 : Option (Int × (List Int) × (List Int) × Int)) (R0 : rd (hp w0) (.ptr 47 (.pair (.int .i64) (.pair (.slice 40 (.int .u64)) (.pair (.slice 3 (.int .i64)) (.int .i64))))) [v0] p0) (r : Int) (H : rank_Vec_Ones.f p0 = some r) :
    Calls Try.prog 15 #[v0] w0 (fun e w' => ∃ v, e = .returned v ∧ rank_Vec_Ones.post w0 r v w') := by
  have hS : Sat w0 (rf w0) [] := Sat.start w0
  unfold rank_Vec_Ones.f at H
  refine calls_of_WC (vs := [v0]) Try.func15 (c := C15) (n := 9) (by kernel_rfl) (by kernel_rfl) (by kernel_rfl) ?_
  refine WC.seq (by kernel_rfl) ?_
  refine WC.reg [0] (by kernel_rfl) (by kernel_rfl) ?_
  refine WR.runk [0] [] [0] (L' := [(0, v0)]) (w' := w0) (by kernel_rfl) ?_
  refine WR.nil ?_
  refine At.go ?_
  refine WC.seq (by kernel_rfl) ?_
  refine WC.seq (by kernel_rfl) ?_
  refine WC.reg [0, 1] (by kernel_rfl) (by kernel_rfl) ?_
  refine WR.runk [0] [1] [0, 3] (L' := [(0, v0), (3, v0)]) (w' := w0) (by kernel_rfl) ?_
  rcases opt_cases p0 with hr1 | ⟨y3, hr1⟩
  · rw [hr1] at H
    dsimp only at H
    have hx2 := rd_ptr_none R0 hr1
    try subst hx2
    refine WR.runk [1] [] [0, 4] (L' := [(0, .pointer none), (4, .bool true)]) (w' := w0) (by kernel_rfl) ?_
    refine WR.nil ?_
    refine At.go ?_
    refine WC.condT (by kernel_rfl) (by kernel_rfl) (by kernel_rfl) ?_
    refine WC.seq (by kernel_rfl) ?_
    refine WC.reg [0] (by kernel_rfl) (by kernel_rfl) ?_
    refine WR.runk [0] [] [2] (L' := [(2, .int .i64 0)]) (w' := w0) (by kernel_rfl) ?_
    refine WR.nil ?_
    refine At.go ?_
    refine WC.ret (by kernel_rfl) ?_
    refine At.thenRet ?_
    obtain rfl := Option.some.inj H
    have hS : Sat w0 (rf w0) [] := hS.sel [] (by kernel_rfl)
    exact At.body [.int .i64 0] (by kernel_rfl) ⟨_, rfl, rfl, hS⟩
  · rw [hr1] at H
    dsimp only at H
    obtain ⟨b4, fr5, A9, c10, A12, c13, hv6, hb7, R11, R14⟩ := P47.open R0 hr1
    have R8 := R0
    rw [hv6, hr1] at R8
    try subst hv6
    replace R11 : rdS (r0 (.int .u64)) 1 (hp w0) A9 c10 y3.2.1 := R11
    replace R14 : rdS (r0 (.int .i64)) 1 (hp w0) A12 c13 y3.2.2.1 := R14
    refine WR.runk [1] [] [0, 4] (L' := [(0, .pointer (some ⟨b4, 0, none⟩)), (4, .bool false)]) (w' := w0) (by kernel_rfl) ?_
    refine WR.nil ?_
    refine At.go ?_
    refine WC.condF (by kernel_rfl) (by kernel_rfl) (by kernel_rfl) ?_
    refine WC.skip (by kernel_rfl) ?_
    refine At.go ?_
    refine WC.seq (by kernel_rfl) ?_
    refine WC.reg [0, 1, 2, 3, 4] (by kernel_rfl) (by kernel_rfl) ?_
    refine WR.runk [0, 1, 2] [3, 4] [7] (L' := [(7, .pointer (some ⟨b4, 3, none⟩))]) (w' := w0) (by kernel_rfl) ?_
    refine WR.st (St.ofR (RSt.loadRo (t := 3) (k := 3) (v := .int .i64 y3.2.2.2) (.tmp 7) (by kernel_rfl) (by kernel_rfl) (by kernel_rfl) hS.sub0 hb7 (by kernel_rfl) rfl ?_))
    refine WR.runk [4] [] [2] (L' := [(2, .int .i64 y3.2.2.2)]) (w' := w0) (by kernel_rfl) ?_
    refine WR.nil ?_
    refine At.go ?_
    refine WC.ret (by kernel_rfl) ?_
    obtain rfl := Option.some.inj H
    have hS : Sat w0 (rf w0) [] := hS.sel [] (by kernel_rfl)
    exact At.body [.int .i64 y3.2.2.2] (by kernel_rfl) ⟨_, rfl, rfl, hS⟩
/-! ### 13 (*colophon/rank.Vec).Select -/
def rank_Vec_Select.l1 (a1 : Int) (y20 : Int × (List Int) × (List Int) × Int) : Nat → Int → Int → Option Int
  | 0, _, _ => none
  | k + 1, x5_l1, x6_l1 => (if decide (x5_l1 < x6_l1) then ((rank_Vec_Rank.f (some y20) (wi ((wi (ishr .u64 (IntKind.wrap .u64 (wi (x5_l1 + x6_l1))) 1)) + 1))).bind fun r35 => (if (!(decide (r35 > a1))) then rank_Vec_Select.l1 a1 y20 k (wi ((wi (ishr .u64 (IntKind.wrap .u64 (wi (x5_l1 + x6_l1))) 1)) + 1)) x6_l1 else rank_Vec_Select.l1 a1 y20 k x5_l1 (wi (ishr .u64 (IntKind.wrap .u64 (wi (x5_l1 + x6_l1))) 1)))) else some x5_l1)
def rank_Vec_Select.f (p0 : Option (Int × (List Int) × (List Int) × Int)) (a1 : Int) : Option Int := ((rank_Vec_Ones.f p0).bind fun r1 => (if decide (a1 < 0) then some (-1) else (if decide (a1 ≥ r1) then some (-1) else (p0.bind fun y20 => ((rank_Vec_Select.l1 a1 y20 FU 0 y20.1).bind fun o45 => some o45)))))
def rank_Vec_Select.post (w : World) (r : Int) (v : Value) (w' : World) : Prop := v = (.int .i64 r : Value) ∧ Sat w' (rf w) []
theorem rank_Vec_Select.l1_ok {Q} (w0 : World) (a1 : Int) (b10 : Nat) (b13 : Nat) (y20 : Int × (List Int) × (List Int) × Int) (b21 : Nat) (R25 : rd (hp w0) (.ptr 47 (.pair (.int .i64) (.pair (.slice 40 (.int .u64)) (.pair (.slice 3 (.int .i64)) (.int .i64))))) [.pointer (some ⟨b21, 0, none⟩)] (some y20)) (out : Int) (hn0 : ∀ (w : World), Sat w (rf w0) [pts b13 (.cells #[.func (.func 11) #[.pointer (some ⟨b21, 0, none⟩)] #[]] 26 (0, 0)), pts b10 (.cells #[.int .i64 a1] 3 (0, 0))] → At Q (.exit 0) 26 [(5, .int .i64 out)] w) :
    ∀ (k : Nat) (x5_l1 : Int) (x6_l1 : Int) (w : World), Sat w (rf w0) [pts b13 (.cells #[.func (.func 11) #[.pointer (some ⟨b21, 0, none⟩)] #[]] 26 (0, 0)), pts b10 (.cells #[.int .i64 a1] 3 (0, 0))] → rank_Vec_Select.l1 a1 y20 k x5_l1 x6_l1 = some out → WL Try.prog (cbody (cbody (cl (cr (cr C31))))) Q 26 [(1, .func (.func 32) #[] #[.pointer (some ⟨b13, 0, none⟩), .pointer (some ⟨b10, 0, none⟩)]), (5, .int .i64 x5_l1), (6, .int .i64 x6_l1)] w := by
  intro k
  induction k with
  | zero => intro x5_l1 x6_l1 w hS H; exact absurd (show none = some out from H) (by simp)
  | succ k ih =>
    intro x5_l1 x6_l1 w hS H
    unfold rank_Vec_Select.l1 at H
    refine WL.round ?_
    refine WC.seq (by kernel_rfl) ?_
    refine WC.seq (by kernel_rfl) ?_
    refine WC.reg [0, 1, 2] (by kernel_rfl) (by kernel_rfl) ?_
    refine WR.runk [0, 1, 2] [] [1, 5, 6, 11] (L' := [(1, .func (.func 32) #[] #[.pointer (some ⟨b13, 0, none⟩), .pointer (some ⟨b10, 0, none⟩)]), (5, .int .i64 x5_l1), (6, .int .i64 x6_l1), (11, .bool (decide (x5_l1 < x6_l1)))]) (w' := w) (by kernel_rfl) ?_
    refine WR.nil ?_
    refine At.go ?_
    refine WC.cond (by kernel_rfl) (decide (x5_l1 < x6_l1)) (by kernel_rfl) (by kernel_rfl) (fun hb32 => ?_) (fun hb32 => ?_)
    · replace H := ite_t H hb32
      refine WC.skip (by kernel_rfl) ?_
      refine At.go ?_
      refine WC.block (by kernel_rfl) ?_
      refine WC.seq (by kernel_rfl) ?_
      refine WC.reg [0, 1, 2, 3, 4, 5, 6] (by kernel_rfl) (by kernel_rfl) ?_
      refine WR.runk [0, 1, 2, 3, 4, 5, 6] [] [1, 5, 6, 7] (L' := [(1, .func (.func 32) #[] #[.pointer (some ⟨b13, 0, none⟩), .pointer (some ⟨b10, 0, none⟩)]), (5, .int .i64 x5_l1), (6, .int .i64 x6_l1), (7, .int .i64 (wi (ishr .u64 (IntKind.wrap .u64 (wi (x5_l1 + x6_l1))) 1)))]) (w' := w) (by kernel_rfl) ?_
      refine WR.nil ?_
      refine At.go ?_
      refine WC.seq (by kernel_rfl) ?_
      refine WC.reg [0, 1, 2, 3] (by kernel_rfl) (by kernel_rfl) ?_
      refine WR.runk [0, 1] [2, 3] [1, 5, 6, 7, 18, 19] (L' := [(1, .func (.func 32) #[] #[.pointer (some ⟨b13, 0, none⟩), .pointer (some ⟨b10, 0, none⟩)]), (5, .int .i64 x5_l1), (6, .int .i64 x6_l1), (7, .int .i64 (wi (ishr .u64 (IntKind.wrap .u64 (wi (x5_l1 + x6_l1))) 1))), (18, .func (.func 32) #[] #[.pointer (some ⟨b13, 0, none⟩), .pointer (some ⟨b10, 0, none⟩)]), (19, .int .i64 (wi (ishr .u64 (IntKind.wrap .u64 (wi (x5_l1 + x6_l1))) 1)))]) (w' := w) (by kernel_rfl) ?_
      refine WR.st (St.call (by kernel_rfl) (f := 32) (args := #[.int .i64 (wi (ishr .u64 (IntKind.wrap .u64 (wi (x5_l1 + x6_l1))) 1)), .pointer (some ⟨b13, 0, none⟩), .pointer (some ⟨b10, 0, none⟩)]) (by kernel_rfl) (calls_of_WC (vs := [.int .i64 (wi (ishr .u64 (IntKind.wrap .u64 (wi (x5_l1 + x6_l1))) 1)), .pointer (some ⟨b13, 0, none⟩), .pointer (some ⟨b10, 0, none⟩)]) Try.func32 (c := C32) (n := 11) (by kernel_rfl) (by kernel_rfl) (by kernel_rfl) ?_) (fun _ _ h => h))
      refine WC.seq (by kernel_rfl) ?_
      refine WC.reg [0] (by kernel_rfl) (by kernel_rfl) ?_
      refine WR.runk [0] [] [0, 1, 2] (L' := [(0, .int .i64 (wi (ishr .u64 (IntKind.wrap .u64 (wi (x5_l1 + x6_l1))) 1))), (1, .pointer (some ⟨b13, 0, none⟩)), (2, .pointer (some ⟨b10, 0, none⟩))]) (w' := w) (by kernel_rfl) ?_
      refine WR.nil ?_
      refine At.go ?_
      refine WC.seq (by kernel_rfl) ?_
      refine WC.drawn (by kernel_rfl) (by kernel_rfl) 7 (by kernel_rfl) (fun w33 hw34 => ?_)
      have hS := hS.heap hw34.1 hw34.2
      refine WD.weaken [0, 1, 2] (L' := [(0, .int .i64 (wi (ishr .u64 (IntKind.wrap .u64 (wi (x5_l1 + x6_l1))) 1))), (1, .pointer (some ⟨b13, 0, none⟩)), (2, .pointer (some ⟨b10, 0, none⟩))]) (by kernel_rfl) ?_
      refine WD.ofR (i := 0) (by kernel_rfl) (RSt.loadObj (t := 26) (k := 0) (v := .func (.func 11) #[.pointer (some ⟨b21, 0, none⟩)] #[]) (.tmp 1) (by kernel_rfl) (by kernel_rfl) (by kernel_rfl) 0 hS rfl (by kernel_rfl) rfl ?_)
      refine WD.weaken [0, 2, 5] (L' := [(0, .int .i64 (wi (ishr .u64 (IntKind.wrap .u64 (wi (x5_l1 + x6_l1))) 1))), (2, .pointer (some ⟨b10, 0, none⟩)), (5, .func (.func 11) #[.pointer (some ⟨b21, 0, none⟩)] #[])]) (by kernel_rfl) ?_
      refine WD.pure (i := 1) (v := .int .i64 (wi (ishr .u64 (IntKind.wrap .u64 (wi (x5_l1 + x6_l1))) 1))) (by kernel_rfl) (by kernel_rfl) (fun _ => by kernel_rfl) ?_
      refine WD.weaken [2, 5, 6] (L' := [(2, .pointer (some ⟨b10, 0, none⟩)), (5, .func (.func 11) #[.pointer (some ⟨b21, 0, none⟩)] #[]), (6, .int .i64 (wi (ishr .u64 (IntKind.wrap .u64 (wi (x5_l1 + x6_l1))) 1)))]) (by kernel_rfl) ?_
      refine WD.pure (i := 2) (v := .int .i64 (wi ((wi (ishr .u64 (IntKind.wrap .u64 (wi (x5_l1 + x6_l1))) 1)) + 1))) (by kernel_rfl) (by kernel_rfl) (fun _ => by kernel_rfl) ?_
      refine WD.weaken [2, 5, 7] (L' := [(2, .pointer (some ⟨b10, 0, none⟩)), (5, .func (.func 11) #[.pointer (some ⟨b21, 0, none⟩)] #[]), (7, .int .i64 (wi ((wi (ishr .u64 (IntKind.wrap .u64 (wi (x5_l1 + x6_l1))) 1)) + 1)))]) (by kernel_rfl) ?_
      refine WD.ofR (i := 4) (by kernel_rfl) (RSt.loadObj (t := 3) (k := 0) (v := .int .i64 a1) (.tmp 2) (by kernel_rfl) (by kernel_rfl) (by kernel_rfl) 1 hS rfl (by kernel_rfl) rfl ?_)
      refine WD.weaken [5, 7, 9] (L' := [(5, .func (.func 11) #[.pointer (some ⟨b21, 0, none⟩)] #[]), (7, .int .i64 (wi ((wi (ishr .u64 (IntKind.wrap .u64 (wi (x5_l1 + x6_l1))) 1)) + 1))), (9, .int .i64 a1)]) (by kernel_rfl) ?_
      obtain ⟨r35, e36, H⟩ := bind_ex H
      refine WD.act (i := 3) (by kernel_rfl) (St.call (by kernel_rfl) (f := 11) (args := #[.pointer (some ⟨b21, 0, none⟩), .int .i64 (wi ((wi (ishr .u64 (IntKind.wrap .u64 (wi (x5_l1 + x6_l1))) 1)) + 1))]) (by kernel_rfl) (rank_Vec_Rank.calls w33 (.pointer (some ⟨b21, 0, none⟩)) (some y20) (rd.mono hS.sub0 _ _ _ R25) (wi ((wi (ishr .u64 (IntKind.wrap .u64 (wi (x5_l1 + x6_l1))) 1)) + 1)) r35 e36) ?_)
      rintro _ w42 ⟨rfl, hS43⟩
      have hS : Sat w42 (rf w0) [pts b13 (.cells #[.func (.func 11) #[.pointer (some ⟨b21, 0, none⟩)] #[]] 26 (0, 0)), pts b10 (.cells #[.int .i64 a1] 3 (0, 0))] := hS.ext hS43
      refine ⟨(asked.cons (RSt.run (n := 11) (RSt.loadObj (t := 3) (k := 0) (v := .int .i64 a1) (.tmp 2) (by kernel_rfl) (by kernel_rfl) (by kernel_rfl) 1 hS rfl (by kernel_rfl) rfl rfl)) (asked.anc (by kernel_rfl) (asked.nil _ _))), ?_⟩
      refine WD.weaken [8, 9] (L' := [(8, .int .i64 r35), (9, .int .i64 a1)]) (by kernel_rfl) ?_
      refine WD.pure (i := 5) (v := .bool (decide (r35 > a1))) (by kernel_rfl) (by kernel_rfl) (fun _ => by kernel_rfl) ?_
      refine WD.weaken [10] (L' := [(10, .bool (decide (r35 > a1)))]) (by kernel_rfl) ?_
      refine WD.pure (i := 6) (v := .bool (decide (r35 > a1))) (by kernel_rfl) (by kernel_rfl) (fun _ => by kernel_rfl) ?_
      refine WD.weaken [4] (L' := [(4, .bool (decide (r35 > a1)))]) (by kernel_rfl) ?_
      refine WD.nil (by kernel_rfl) ?_
      refine At.go ?_
      refine WC.ret (by kernel_rfl) ?_
      refine At.bodyK [.bool (decide (r35 > a1))] (.bool (decide (r35 > a1))) (by kernel_rfl) rfl ?_
      refine WR.runk [3] [] [1, 5, 6, 7, 21] (L' := [(1, .func (.func 32) #[] #[.pointer (some ⟨b13, 0, none⟩), .pointer (some ⟨b10, 0, none⟩)]), (5, .int .i64 x5_l1), (6, .int .i64 x6_l1), (7, .int .i64 (wi (ishr .u64 (IntKind.wrap .u64 (wi (x5_l1 + x6_l1))) 1))), (21, .bool (!(decide (r35 > a1))))]) (w' := w42) (by kernel_rfl) ?_
      refine WR.nil ?_
      refine At.go ?_
      refine WC.cond (by kernel_rfl) (!(decide (r35 > a1))) (by kernel_rfl) (by kernel_rfl) (fun hb44 => ?_) (fun hb44 => ?_)
      · replace H := ite_t H hb44
        refine WC.reg [0, 1, 2] (by kernel_rfl) (by kernel_rfl) ?_
        refine WR.runk [0, 1, 2] [] [1, 5, 6] (L' := [(1, .func (.func 32) #[] #[.pointer (some ⟨b13, 0, none⟩), .pointer (some ⟨b10, 0, none⟩)]), (5, .int .i64 (wi ((wi (ishr .u64 (IntKind.wrap .u64 (wi (x5_l1 + x6_l1))) 1)) + 1))), (6, .int .i64 x6_l1)]) (w' := w42) (by kernel_rfl) ?_
        refine WR.nil ?_
        refine At.blockNormal ?_
        have hS : Sat w42 (rf w0) [pts b13 (.cells #[.func (.func 11) #[.pointer (some ⟨b21, 0, none⟩)] #[]] 26 (0, 0)), pts b10 (.cells #[.int .i64 a1] 3 (0, 0))] := hS.sel [0, 1] (by kernel_rfl)
        refine At.again ?_
        refine WL.weaken [1, 5, 6] (L' := [(1, .func (.func 32) #[] #[.pointer (some ⟨b13, 0, none⟩), .pointer (some ⟨b10, 0, none⟩)]), (5, .int .i64 (wi ((wi (ishr .u64 (IntKind.wrap .u64 (wi (x5_l1 + x6_l1))) 1)) + 1))), (6, .int .i64 x6_l1)]) (by kernel_rfl) ?_
        exact ih (wi ((wi (ishr .u64 (IntKind.wrap .u64 (wi (x5_l1 + x6_l1))) 1)) + 1)) x6_l1 _ hS H
      · replace H := ite_f H hb44
        refine WC.reg [0, 1] (by kernel_rfl) (by kernel_rfl) ?_
        refine WR.runk [0, 1] [] [1, 5, 6] (L' := [(1, .func (.func 32) #[] #[.pointer (some ⟨b13, 0, none⟩), .pointer (some ⟨b10, 0, none⟩)]), (5, .int .i64 x5_l1), (6, .int .i64 (wi (ishr .u64 (IntKind.wrap .u64 (wi (x5_l1 + x6_l1))) 1)))]) (w' := w42) (by kernel_rfl) ?_
        refine WR.nil ?_
        refine At.blockNormal ?_
        have hS : Sat w42 (rf w0) [pts b13 (.cells #[.func (.func 11) #[.pointer (some ⟨b21, 0, none⟩)] #[]] 26 (0, 0)), pts b10 (.cells #[.int .i64 a1] 3 (0, 0))] := hS.sel [0, 1] (by kernel_rfl)
        refine At.again ?_
        refine WL.weaken [1, 5, 6] (L' := [(1, .func (.func 32) #[] #[.pointer (some ⟨b13, 0, none⟩), .pointer (some ⟨b10, 0, none⟩)]), (5, .int .i64 x5_l1), (6, .int .i64 (wi (ishr .u64 (IntKind.wrap .u64 (wi (x5_l1 + x6_l1))) 1)))]) (by kernel_rfl) ?_
        exact ih x5_l1 (wi (ishr .u64 (IntKind.wrap .u64 (wi (x5_l1 + x6_l1))) 1)) _ hS H
    · replace H := ite_f H hb32
      refine WC.exit (by kernel_rfl) ?_
      refine At.thenExit ?_
      refine At.thenExit ?_
      obtain rfl := Option.some.inj H
      have hS : Sat w (rf w0) [pts b13 (.cells #[.func (.func 11) #[.pointer (some ⟨b21, 0, none⟩)] #[]] 26 (0, 0)), pts b10 (.cells #[.int .i64 a1] 3 (0, 0))] := hS.sel [0, 1] (by kernel_rfl)
      refine At.weaken [5] (L' := [(5, .int .i64 x5_l1)]) (by kernel_rfl) ?_
      exact hn0 _ hS
theorem rank_Vec_Select.calls (w0 : World) (v0 : Value) (p0 : Option (Int × (List Int) × (List Int) × Int)) (R0 : rd (hp w0) (.ptr 47 (.pair (.int .i64) (.pair (.slice 40 (.int .u64)) (.pair (.slice 3 (.int .i64)) (.int .i64))))) [v0] p0) (a1 : Int) (r : Int) (H : rank_Vec_Select.f p0 a1 = some r) :
    Calls Try.prog 13 #[v0, .int .i64 a1] w0 (fun e w' => ∃ v, e = .returned v ∧ rank_Vec_Select.post w0 r v w') := by
  have hS : Sat w0 (rf w0) [] := Sat.start w0
  unfold rank_Vec_Select.f at H
  refine calls_of_WC (vs := [v0, .int .i64 a1]) Try.func13 (c := C13) (n := 12) (by kernel_rfl) (by kernel_rfl) (by kernel_rfl) ?_
  refine WC.seq (by kernel_rfl) ?_
  refine WC.reg [0] (by kernel_rfl) (by kernel_rfl) ?_
  refine WR.runk [0] [] [0, 1] (L' := [(0, v0), (1, .int .i64 a1)]) (w' := w0) (by kernel_rfl) ?_
  refine WR.nil ?_
  refine At.go ?_
  refine WC.seq (by kernel_rfl) ?_
  refine WC.reg [0, 1, 2, 3, 4, 5, 6, 7] (by kernel_rfl) (by kernel_rfl) ?_
  refine WR.runk [0, 1, 2] [3, 4, 5, 6, 7] [0, 5, 6, 7] (L' := [(0, v0), (5, v0), (6, .int .i64 a1), (7, v0)]) (w' := w0) (by kernel_rfl) ?_
  obtain ⟨r1, e2, H⟩ := bind_ex H
  refine WR.st (St.call (by kernel_rfl) (f := 15) (args := #[v0]) (by kernel_rfl) (rank_Vec_Ones.calls w0 (v0) p0 (rd.mono hS.sub0 _ _ _ R0) r1 e2) ?_)
  rintro _ w8 ⟨rfl, hS9⟩
  have hS : Sat w8 (rf w0) [] := hS.ext hS9
  refine WR.runk [4, 5] [6, 7] [5, 6, 8, 10] (L' := [(5, v0), (6, .int .i64 a1), (8, .int .i64 r1), (10, .func (.func 11) #[v0] #[])]) (w' := w8) (by kernel_rfl) ?_
  refine WR.st (St.call (by kernel_rfl) (f := 25) (args := #[v0, .int .i64 a1, .int .i64 r1, .func (.func 11) #[v0] #[]]) (by kernel_rfl) (calls_of_WC (vs := [v0, .int .i64 a1, .int .i64 r1, .func (.func 11) #[v0] #[]]) Try.func25 (c := C25) (n := 22) (by kernel_rfl) (by kernel_rfl) (by kernel_rfl) ?_) (fun _ _ h => h))
  refine WC.seq (by kernel_rfl) ?_
  refine WC.reg [0, 1, 2] (by kernel_rfl) (by kernel_rfl) ?_
  refine WR.runk [] [0, 1, 2] [0, 1, 2, 3] (L' := [(0, v0), (1, .int .i64 a1), (2, .int .i64 r1), (3, .func (.func 11) #[v0] #[])]) (w' := w8) (by kernel_rfl) ?_
  refine WR.st (St.box hS (by kernel_rfl) (.cells #[.int .i64 a1] 3) (fun b10 => .pointer (some ⟨b10, 0, none⟩)) (fun _ => by kernel_rfl) (fun b10 w11 hS => ?_))
  refine WR.runk [] [1, 2] [0, 2, 3, 5] (L' := [(0, v0), (2, .int .i64 r1), (3, .func (.func 11) #[v0] #[]), (5, .pointer (some ⟨b10, 0, none⟩))]) (w' := w11) (by kernel_rfl) ?_
  refine WR.st (St.box hS (by kernel_rfl) (.cells #[.func (.func 11) #[v0] #[]] 26) (fun b13 => .pointer (some ⟨b13, 0, none⟩)) (fun _ => by kernel_rfl) (fun b13 w14 hS => ?_))
  refine WR.runk [2] [] [0, 2, 5, 7] (L' := [(0, v0), (2, .int .i64 r1), (5, .pointer (some ⟨b10, 0, none⟩)), (7, .pointer (some ⟨b13, 0, none⟩))]) (w' := w14) (by kernel_rfl) ?_
  refine WR.nil ?_
  refine At.go ?_
  refine WC.seq (by kernel_rfl) ?_
  refine WC.seq (by kernel_rfl) ?_
  refine WC.reg [0, 1, 2, 3, 4, 5, 6] (by kernel_rfl) (by kernel_rfl) ?_
  refine WR.st (St.ofR (RSt.loadObj (t := 3) (k := 0) (v := .int .i64 a1) (.tmp 5) (by kernel_rfl) (by kernel_rfl) (by kernel_rfl) 1 hS rfl (by kernel_rfl) rfl ?_))
  refine WR.runk [1, 2] [3, 4, 5, 6] [0, 2, 5, 7, 11] (L' := [(0, v0), (2, .int .i64 r1), (5, .pointer (some ⟨b10, 0, none⟩)), (7, .pointer (some ⟨b13, 0, none⟩)), (11, .bool (decide (a1 < 0)))]) (w' := w14) (by kernel_rfl) ?_
  refine WR.split 11 (b := decide (a1 < 0)) (by kernel_rfl) (fun hb16 => ?_) (fun hb16 => ?_)
  · replace H := ite_t H hb16
    refine WR.runk [3, 4, 5, 6] [] [0, 5, 7, 15] (L' := [(0, v0), (5, .pointer (some ⟨b10, 0, none⟩)), (7, .pointer (some ⟨b13, 0, none⟩)), (15, .bool true)]) (w' := w14) (by kernel_rfl) ?_
    refine WR.nil ?_
    refine At.go ?_
    refine WC.condT (by kernel_rfl) (by kernel_rfl) (by kernel_rfl) ?_
    refine WC.seq (by kernel_rfl) ?_
    refine WC.reg [0] (by kernel_rfl) (by kernel_rfl) ?_
    refine WR.runk [0] [] [8] (L' := [(8, .int .i64 (-1))]) (w' := w14) (by kernel_rfl) ?_
    refine WR.nil ?_
    refine At.go ?_
    refine WC.ret (by kernel_rfl) ?_
    refine At.thenRet ?_
    refine At.bodyK [.int .i64 (-1)] (.int .i64 (-1)) (by kernel_rfl) rfl ?_
    refine WR.runk [7] [] [4] (L' := [(4, .int .i64 (-1))]) (w' := w14) (by kernel_rfl) ?_
    refine WR.nil ?_
    refine At.go ?_
    refine WC.ret (by kernel_rfl) ?_
    obtain rfl := Option.some.inj H
    have hS : Sat w14 (rf w0) [] := hS.sel [] (by kernel_rfl)
    exact At.body [.int .i64 (-1)] (by kernel_rfl) ⟨_, rfl, rfl, hS⟩
  · replace H := ite_f H hb16
    refine WR.runk [] [3, 4, 5, 6] [0, 2, 5, 7, 11] (L' := [(0, v0), (2, .int .i64 r1), (5, .pointer (some ⟨b10, 0, none⟩)), (7, .pointer (some ⟨b13, 0, none⟩)), (11, .bool false)]) (w' := w14) (by kernel_rfl) ?_
    refine WR.st (St.ofR (RSt.loadObj (t := 3) (k := 0) (v := .int .i64 a1) (.tmp 5) (by kernel_rfl) (by kernel_rfl) (by kernel_rfl) 1 hS rfl (by kernel_rfl) rfl ?_))
    refine WR.runk [4, 5, 6] [] [0, 5, 7, 15] (L' := [(0, v0), (5, .pointer (some ⟨b10, 0, none⟩)), (7, .pointer (some ⟨b13, 0, none⟩)), (15, .bool (decide (a1 ≥ r1)))]) (w' := w14) (by kernel_rfl) ?_
    refine WR.nil ?_
    refine At.go ?_
    refine WC.cond (by kernel_rfl) (decide (a1 ≥ r1)) (by kernel_rfl) (by kernel_rfl) (fun hb17 => ?_) (fun hb17 => ?_)
    · replace H := ite_t H hb17
      refine WC.seq (by kernel_rfl) ?_
      refine WC.reg [0] (by kernel_rfl) (by kernel_rfl) ?_
      refine WR.runk [0] [] [8] (L' := [(8, .int .i64 (-1))]) (w' := w14) (by kernel_rfl) ?_
      refine WR.nil ?_
      refine At.go ?_
      refine WC.ret (by kernel_rfl) ?_
      refine At.thenRet ?_
      refine At.bodyK [.int .i64 (-1)] (.int .i64 (-1)) (by kernel_rfl) rfl ?_
      refine WR.runk [7] [] [4] (L' := [(4, .int .i64 (-1))]) (w' := w14) (by kernel_rfl) ?_
      refine WR.nil ?_
      refine At.go ?_
      refine WC.ret (by kernel_rfl) ?_
      obtain rfl := Option.some.inj H
      have hS : Sat w14 (rf w0) [] := hS.sel [] (by kernel_rfl)
      exact At.body [.int .i64 (-1)] (by kernel_rfl) ⟨_, rfl, rfl, hS⟩
    · replace H := ite_f H hb17
      refine WC.skip (by kernel_rfl) ?_
      refine At.go ?_
      refine WC.seq (by kernel_rfl) ?_
      refine WC.reg [0, 1, 2, 3, 4, 5, 6] (by kernel_rfl) (by kernel_rfl) ?_
      refine WR.runk [0] [1, 2, 3, 4, 5, 6] [5, 7, 16] (L' := [(5, .pointer (some ⟨b10, 0, none⟩)), (7, .pointer (some ⟨b13, 0, none⟩)), (16, v0)]) (w' := w14) (by kernel_rfl) ?_
      obtain ⟨y20, hr18, H⟩ := bind_ex H
      obtain ⟨b21, fr22, A26, c27, A29, c30, hv23, hb24, R28, R31⟩ := P47.open R0 hr18
      have R25 := R0
      rw [hv23, hr18] at R25
      try subst hv23
      replace R28 : rdS (r0 (.int .u64)) 1 (hp w0) A26 c27 y20.2.1 := R28
      replace R31 : rdS (r0 (.int .i64)) 1 (hp w0) A29 c30 y20.2.2.1 := R31
      refine WR.runk [1, 2] [3, 4, 5, 6] [5, 7, 18] (L' := [(5, .pointer (some ⟨b10, 0, none⟩)), (7, .pointer (some ⟨b13, 0, none⟩)), (18, .pointer (some ⟨b21, 0, none⟩))]) (w' := w14) (by kernel_rfl) ?_
      refine WR.st (St.ofR (RSt.loadRo (t := 3) (k := 0) (v := .int .i64 y20.1) (.tmp 18) (by kernel_rfl) (by kernel_rfl) (by kernel_rfl) hS.sub0 hb24 (by kernel_rfl) rfl ?_))
      refine WR.runk [4] [5, 6] [19, 20] (L' := [(19, .int .i64 y20.1), (20, .func (.func 32) #[] #[.pointer (some ⟨b13, 0, none⟩), .pointer (some ⟨b10, 0, none⟩)])]) (w' := w14) (by kernel_rfl) ?_
      refine WR.st (St.call (by kernel_rfl) (f := 31) (args := #[.int .i64 y20.1, .func (.func 32) #[] #[.pointer (some ⟨b13, 0, none⟩), .pointer (some ⟨b10, 0, none⟩)]]) (by kernel_rfl) (calls_of_WC (vs := [.int .i64 y20.1, .func (.func 32) #[] #[.pointer (some ⟨b13, 0, none⟩), .pointer (some ⟨b10, 0, none⟩)]]) Try.func31 (c := C31) (n := 26) (by kernel_rfl) (by kernel_rfl) (by kernel_rfl) ?_) (fun _ _ h => h))
      refine WC.seq (by kernel_rfl) ?_
      refine WC.reg [0] (by kernel_rfl) (by kernel_rfl) ?_
      refine WR.runk [0] [] [0, 1] (L' := [(0, .int .i64 y20.1), (1, .func (.func 32) #[] #[.pointer (some ⟨b13, 0, none⟩), .pointer (some ⟨b10, 0, none⟩)])]) (w' := w14) (by kernel_rfl) ?_
      refine WR.nil ?_
      refine At.go ?_
      refine WC.seq (by kernel_rfl) ?_
      refine WC.reg [0, 1, 2] (by kernel_rfl) (by kernel_rfl) ?_
      refine WR.runk [0, 1, 2] [] [1, 5, 6] (L' := [(1, .func (.func 32) #[] #[.pointer (some ⟨b13, 0, none⟩), .pointer (some ⟨b10, 0, none⟩)]), (5, .int .i64 0), (6, .int .i64 y20.1)]) (w' := w14) (by kernel_rfl) ?_
      refine WR.nil ?_
      refine At.go ?_
      refine WC.seq (by kernel_rfl) ?_
      refine WC.block (by kernel_rfl) ?_
      have hS : Sat w14 (rf w0) [pts b13 (.cells #[.func (.func 11) #[.pointer (some ⟨b21, 0, none⟩)] #[]] 26 (0, 0)), pts b10 (.cells #[.int .i64 a1] 3 (0, 0))] := hS.sel [0, 1] (by kernel_rfl)
      obtain ⟨o45, e46, H⟩ := bind_ex H
      refine WC.loop (by kernel_rfl) ?_
      refine WL.weaken [1, 5, 6] (L' := [(1, .func (.func 32) #[] #[.pointer (some ⟨b13, 0, none⟩), .pointer (some ⟨b10, 0, none⟩)]), (5, .int .i64 0), (6, .int .i64 y20.1)]) (by kernel_rfl) ?_
      refine rank_Vec_Select.l1_ok w0 a1 b10 b13 y20 b21 R25 o45 (fun w48 hS => ?_) FU 0 y20.1 _ hS e46
      refine At.hit ?_
      refine At.go ?_
      refine WC.seq (by kernel_rfl) ?_
      refine WC.reg [0, 1] (by kernel_rfl) (by kernel_rfl) ?_
      refine WR.runk [0, 1] [] [4] (L' := [(4, .int .i64 o45)]) (w' := w48) (by kernel_rfl) ?_
      refine WR.nil ?_
      refine At.go ?_
      refine WC.ret (by kernel_rfl) ?_
      refine At.bodyK [.int .i64 o45] (.int .i64 o45) (by kernel_rfl) rfl ?_
      refine WR.runk [6] [] [8] (L' := [(8, .int .i64 o45)]) (w' := w48) (by kernel_rfl) ?_
      refine WR.nil ?_
      refine At.go ?_
      refine WC.ret (by kernel_rfl) ?_
      refine At.bodyK [.int .i64 o45] (.int .i64 o45) (by kernel_rfl) rfl ?_
      refine WR.runk [7] [] [4] (L' := [(4, .int .i64 o45)]) (w' := w48) (by kernel_rfl) ?_
      refine WR.nil ?_
      refine At.go ?_
      refine WC.ret (by kernel_rfl) ?_
      obtain rfl := Option.some.inj H
      have hS : Sat w48 (rf w0) [] := hS.sel [] (by kernel_rfl)
      exact At.body [.int .i64 o45] (by kernel_rfl) ⟨_, rfl, rfl, hS⟩
/-! ### 14 (*colophon/rank.Vec).SelectZero -/
def rank_Vec_SelectZero.l1 (a1 : Int) (y29 : Int × (List Int) × (List Int) × Int) : Nat → Int → Int → Option Int
  | 0, _, _ => none
  | k + 1, x5_l1, x6_l1 => (if decide (x5_l1 < x6_l1) then ((rank_Vec_Zeros.f (some y29) (wi ((wi (ishr .u64 (IntKind.wrap .u64 (wi (x5_l1 + x6_l1))) 1)) + 1))).bind fun r44 => (if (!(decide (r44 > a1))) then rank_Vec_SelectZero.l1 a1 y29 k (wi ((wi (ishr .u64 (IntKind.wrap .u64 (wi (x5_l1 + x6_l1))) 1)) + 1)) x6_l1 else rank_Vec_SelectZero.l1 a1 y29 k x5_l1 (wi (ishr .u64 (IntKind.wrap .u64 (wi (x5_l1 + x6_l1))) 1)))) else some x5_l1)
def rank_Vec_SelectZero.f (p0 : Option (Int × (List Int) × (List Int) × Int)) (a1 : Int) : Option Int := ((rank_Vec_Len.f p0).bind fun r1 => ((rank_Vec_Ones.f p0).bind fun r10 => (if decide (a1 < 0) then some (-1) else (if decide (a1 ≥ wi (r1 - r10)) then some (-1) else (p0.bind fun y29 => ((rank_Vec_SelectZero.l1 a1 y29 FU 0 y29.1).bind fun o54 => some o54))))))
def rank_Vec_SelectZero.post (w : World) (r : Int) (v : Value) (w' : World) : Prop := v = (.int .i64 r : Value) ∧ Sat w' (rf w) []
theorem rank_Vec_SelectZero.l1_ok {Q} (w0 : World) (a1 : Int) (b19 : Nat) (b22 : Nat) (y29 : Int × (List Int) × (List Int) × Int) (b30 : Nat) (R34 : rd (hp w0) (.ptr 47 (.pair (.int .i64) (.pair (.slice 40 (.int .u64)) (.pair (.slice 3 (.int .i64)) (.int .i64))))) [.pointer (some ⟨b30, 0, none⟩)] (some y29)) (out : Int) (hn0 : ∀ (w : World), Sat w (rf w0) [pts b22 (.cells #[.func (.func 12) #[.pointer (some ⟨b30, 0, none⟩)] #[]] 26 (0, 0)), pts b19 (.cells #[.int .i64 a1] 3 (0, 0))] → At Q (.exit 0) 26 [(5, .int .i64 out)] w) :
    ∀ (k : Nat) (x5_l1 : Int) (x6_l1 : Int) (w : World), Sat w (rf w0) [pts b22 (.cells #[.func (.func 12) #[.pointer (some ⟨b30, 0, none⟩)] #[]] 26 (0, 0)), pts b19 (.cells #[.int .i64 a1] 3 (0, 0))] → rank_Vec_SelectZero.l1 a1 y29 k x5_l1 x6_l1 = some out → WL Try.prog (cbody (cbody (cl (cr (cr C31))))) Q 26 [(1, .func (.func 32) #[] #[.pointer (some ⟨b22, 0, none⟩), .pointer (some ⟨b19, 0, none⟩)]), (5, .int .i64 x5_l1), (6, .int .i64 x6_l1)] w := by
  intro k
  induction k with
  | zero => intro x5_l1 x6_l1 w hS H; exact absurd (show none = some out from H) (by simp)
  | succ k ih =>
    intro x5_l1 x6_l1 w hS H
    unfold rank_Vec_SelectZero.l1 at H
    refine WL.round ?_
    refine WC.seq (by kernel_rfl) ?_
    refine WC.seq (by kernel_rfl) ?_
    refine WC.reg [0, 1, 2] (by kernel_rfl) (by kernel_rfl) ?_
    refine WR.runk [0, 1, 2] [] [1, 5, 6, 11] (L' := [(1, .func (.func 32) #[] #[.pointer (some ⟨b22, 0, none⟩), .pointer (some ⟨b19, 0, none⟩)]), (5, .int .i64 x5_l1), (6, .int .i64 x6_l1), (11, .bool (decide (x5_l1 < x6_l1)))]) (w' := w) (by kernel_rfl) ?_
    refine WR.nil ?_
    refine At.go ?_
    refine WC.cond (by kernel_rfl) (decide (x5_l1 < x6_l1)) (by kernel_rfl) (by kernel_rfl) (fun hb41 => ?_) (fun hb41 => ?_)
    · replace H := ite_t H hb41
      refine WC.skip (by kernel_rfl) ?_
      refine At.go ?_
      refine WC.block (by kernel_rfl) ?_
      refine WC.seq (by kernel_rfl) ?_
      refine WC.reg [0, 1, 2, 3, 4, 5, 6] (by kernel_rfl) (by kernel_rfl) ?_
      refine WR.runk [0, 1, 2, 3, 4, 5, 6] [] [1, 5, 6, 7] (L' := [(1, .func (.func 32) #[] #[.pointer (some ⟨b22, 0, none⟩), .pointer (some ⟨b19, 0, none⟩)]), (5, .int .i64 x5_l1), (6, .int .i64 x6_l1), (7, .int .i64 (wi (ishr .u64 (IntKind.wrap .u64 (wi (x5_l1 + x6_l1))) 1)))]) (w' := w) (by kernel_rfl) ?_
      refine WR.nil ?_
      refine At.go ?_
      refine WC.seq (by kernel_rfl) ?_
      refine WC.reg [0, 1, 2, 3] (by kernel_rfl) (by kernel_rfl) ?_
      refine WR.runk [0, 1] [2, 3] [1, 5, 6, 7, 18, 19] (L' := [(1, .func (.func 32) #[] #[.pointer (some ⟨b22, 0, none⟩), .pointer (some ⟨b19, 0, none⟩)]), (5, .int .i64 x5_l1), (6, .int .i64 x6_l1), (7, .int .i64 (wi (ishr .u64 (IntKind.wrap .u64 (wi (x5_l1 + x6_l1))) 1))), (18, .func (.func 32) #[] #[.pointer (some ⟨b22, 0, none⟩), .pointer (some ⟨b19, 0, none⟩)]), (19, .int .i64 (wi (ishr .u64 (IntKind.wrap .u64 (wi (x5_l1 + x6_l1))) 1)))]) (w' := w) (by kernel_rfl) ?_
      refine WR.st (St.call (by kernel_rfl) (f := 32) (args := #[.int .i64 (wi (ishr .u64 (IntKind.wrap .u64 (wi (x5_l1 + x6_l1))) 1)), .pointer (some ⟨b22, 0, none⟩), .pointer (some ⟨b19, 0, none⟩)]) (by kernel_rfl) (calls_of_WC (vs := [.int .i64 (wi (ishr .u64 (IntKind.wrap .u64 (wi (x5_l1 + x6_l1))) 1)), .pointer (some ⟨b22, 0, none⟩), .pointer (some ⟨b19, 0, none⟩)]) Try.func32 (c := C32) (n := 11) (by kernel_rfl) (by kernel_rfl) (by kernel_rfl) ?_) (fun _ _ h => h))
      refine WC.seq (by kernel_rfl) ?_
      refine WC.reg [0] (by kernel_rfl) (by kernel_rfl) ?_
      refine WR.runk [0] [] [0, 1, 2] (L' := [(0, .int .i64 (wi (ishr .u64 (IntKind.wrap .u64 (wi (x5_l1 + x6_l1))) 1))), (1, .pointer (some ⟨b22, 0, none⟩)), (2, .pointer (some ⟨b19, 0, none⟩))]) (w' := w) (by kernel_rfl) ?_
      refine WR.nil ?_
      refine At.go ?_
      refine WC.seq (by kernel_rfl) ?_
      refine WC.drawn (by kernel_rfl) (by kernel_rfl) 7 (by kernel_rfl) (fun w42 hw43 => ?_)
      have hS := hS.heap hw43.1 hw43.2
      refine WD.weaken [0, 1, 2] (L' := [(0, .int .i64 (wi (ishr .u64 (IntKind.wrap .u64 (wi (x5_l1 + x6_l1))) 1))), (1, .pointer (some ⟨b22, 0, none⟩)), (2, .pointer (some ⟨b19, 0, none⟩))]) (by kernel_rfl) ?_
      refine WD.ofR (i := 0) (by kernel_rfl) (RSt.loadObj (t := 26) (k := 0) (v := .func (.func 12) #[.pointer (some ⟨b30, 0, none⟩)] #[]) (.tmp 1) (by kernel_rfl) (by kernel_rfl) (by kernel_rfl) 0 hS rfl (by kernel_rfl) rfl ?_)
      refine WD.weaken [0, 2, 5] (L' := [(0, .int .i64 (wi (ishr .u64 (IntKind.wrap .u64 (wi (x5_l1 + x6_l1))) 1))), (2, .pointer (some ⟨b19, 0, none⟩)), (5, .func (.func 12) #[.pointer (some ⟨b30, 0, none⟩)] #[])]) (by kernel_rfl) ?_
      refine WD.pure (i := 1) (v := .int .i64 (wi (ishr .u64 (IntKind.wrap .u64 (wi (x5_l1 + x6_l1))) 1))) (by kernel_rfl) (by kernel_rfl) (fun _ => by kernel_rfl) ?_
      refine WD.weaken [2, 5, 6] (L' := [(2, .pointer (some ⟨b19, 0, none⟩)), (5, .func (.func 12) #[.pointer (some ⟨b30, 0, none⟩)] #[]), (6, .int .i64 (wi (ishr .u64 (IntKind.wrap .u64 (wi (x5_l1 + x6_l1))) 1)))]) (by kernel_rfl) ?_
      refine WD.pure (i := 2) (v := .int .i64 (wi ((wi (ishr .u64 (IntKind.wrap .u64 (wi (x5_l1 + x6_l1))) 1)) + 1))) (by kernel_rfl) (by kernel_rfl) (fun _ => by kernel_rfl) ?_
      refine WD.weaken [2, 5, 7] (L' := [(2, .pointer (some ⟨b19, 0, none⟩)), (5, .func (.func 12) #[.pointer (some ⟨b30, 0, none⟩)] #[]), (7, .int .i64 (wi ((wi (ishr .u64 (IntKind.wrap .u64 (wi (x5_l1 + x6_l1))) 1)) + 1)))]) (by kernel_rfl) ?_
      refine WD.ofR (i := 4) (by kernel_rfl) (RSt.loadObj (t := 3) (k := 0) (v := .int .i64 a1) (.tmp 2) (by kernel_rfl) (by kernel_rfl) (by kernel_rfl) 1 hS rfl (by kernel_rfl) rfl ?_)
      refine WD.weaken [5, 7, 9] (L' := [(5, .func (.func 12) #[.pointer (some ⟨b30, 0, none⟩)] #[]), (7, .int .i64 (wi ((wi (ishr .u64 (IntKind.wrap .u64 (wi (x5_l1 + x6_l1))) 1)) + 1))), (9, .int .i64 a1)]) (by kernel_rfl) ?_
      obtain ⟨r44, e45, H⟩ := bind_ex H
      refine WD.act (i := 3) (by kernel_rfl) (St.call (by kernel_rfl) (f := 12) (args := #[.pointer (some ⟨b30, 0, none⟩), .int .i64 (wi ((wi (ishr .u64 (IntKind.wrap .u64 (wi (x5_l1 + x6_l1))) 1)) + 1))]) (by kernel_rfl) (rank_Vec_Zeros.calls w42 (.pointer (some ⟨b30, 0, none⟩)) (some y29) (rd.mono hS.sub0 _ _ _ R34) (wi ((wi (ishr .u64 (IntKind.wrap .u64 (wi (x5_l1 + x6_l1))) 1)) + 1)) r44 e45) ?_)
      rintro _ w51 ⟨rfl, hS52⟩
      have hS : Sat w51 (rf w0) [pts b22 (.cells #[.func (.func 12) #[.pointer (some ⟨b30, 0, none⟩)] #[]] 26 (0, 0)), pts b19 (.cells #[.int .i64 a1] 3 (0, 0))] := hS.ext hS52
      refine ⟨(asked.cons (RSt.run (n := 11) (RSt.loadObj (t := 3) (k := 0) (v := .int .i64 a1) (.tmp 2) (by kernel_rfl) (by kernel_rfl) (by kernel_rfl) 1 hS rfl (by kernel_rfl) rfl rfl)) (asked.anc (by kernel_rfl) (asked.nil _ _))), ?_⟩
      refine WD.weaken [8, 9] (L' := [(8, .int .i64 r44), (9, .int .i64 a1)]) (by kernel_rfl) ?_
      refine WD.pure (i := 5) (v := .bool (decide (r44 > a1))) (by kernel_rfl) (by kernel_rfl) (fun _ => by kernel_rfl) ?_
      refine WD.weaken [10] (L' := [(10, .bool (decide (r44 > a1)))]) (by kernel_rfl) ?_
      refine WD.pure (i := 6) (v := .bool (decide (r44 > a1))) (by kernel_rfl) (by kernel_rfl) (fun _ => by kernel_rfl) ?_
      refine WD.weaken [4] (L' := [(4, .bool (decide (r44 > a1)))]) (by kernel_rfl) ?_
      refine WD.nil (by kernel_rfl) ?_
      refine At.go ?_
      refine WC.ret (by kernel_rfl) ?_
      refine At.bodyK [.bool (decide (r44 > a1))] (.bool (decide (r44 > a1))) (by kernel_rfl) rfl ?_
      refine WR.runk [3] [] [1, 5, 6, 7, 21] (L' := [(1, .func (.func 32) #[] #[.pointer (some ⟨b22, 0, none⟩), .pointer (some ⟨b19, 0, none⟩)]), (5, .int .i64 x5_l1), (6, .int .i64 x6_l1), (7, .int .i64 (wi (ishr .u64 (IntKind.wrap .u64 (wi (x5_l1 + x6_l1))) 1))), (21, .bool (!(decide (r44 > a1))))]) (w' := w51) (by kernel_rfl) ?_
      refine WR.nil ?_
      refine At.go ?_
      refine WC.cond (by kernel_rfl) (!(decide (r44 > a1))) (by kernel_rfl) (by kernel_rfl) (fun hb53 => ?_) (fun hb53 => ?_)
      · replace H := ite_t H hb53
        refine WC.reg [0, 1, 2] (by kernel_rfl) (by kernel_rfl) ?_
        refine WR.runk [0, 1, 2] [] [1, 5, 6] (L' := [(1, .func (.func 32) #[] #[.pointer (some ⟨b22, 0, none⟩), .pointer (some ⟨b19, 0, none⟩)]), (5, .int .i64 (wi ((wi (ishr .u64 (IntKind.wrap .u64 (wi (x5_l1 + x6_l1))) 1)) + 1))), (6, .int .i64 x6_l1)]) (w' := w51) (by kernel_rfl) ?_
        refine WR.nil ?_
        refine At.blockNormal ?_
        have hS : Sat w51 (rf w0) [pts b22 (.cells #[.func (.func 12) #[.pointer (some ⟨b30, 0, none⟩)] #[]] 26 (0, 0)), pts b19 (.cells #[.int .i64 a1] 3 (0, 0))] := hS.sel [0, 1] (by kernel_rfl)
        refine At.again ?_
        refine WL.weaken [1, 5, 6] (L' := [(1, .func (.func 32) #[] #[.pointer (some ⟨b22, 0, none⟩), .pointer (some ⟨b19, 0, none⟩)]), (5, .int .i64 (wi ((wi (ishr .u64 (IntKind.wrap .u64 (wi (x5_l1 + x6_l1))) 1)) + 1))), (6, .int .i64 x6_l1)]) (by kernel_rfl) ?_
        exact ih (wi ((wi (ishr .u64 (IntKind.wrap .u64 (wi (x5_l1 + x6_l1))) 1)) + 1)) x6_l1 _ hS H
      · replace H := ite_f H hb53
        refine WC.reg [0, 1] (by kernel_rfl) (by kernel_rfl) ?_
        refine WR.runk [0, 1] [] [1, 5, 6] (L' := [(1, .func (.func 32) #[] #[.pointer (some ⟨b22, 0, none⟩), .pointer (some ⟨b19, 0, none⟩)]), (5, .int .i64 x5_l1), (6, .int .i64 (wi (ishr .u64 (IntKind.wrap .u64 (wi (x5_l1 + x6_l1))) 1)))]) (w' := w51) (by kernel_rfl) ?_
        refine WR.nil ?_
        refine At.blockNormal ?_
        have hS : Sat w51 (rf w0) [pts b22 (.cells #[.func (.func 12) #[.pointer (some ⟨b30, 0, none⟩)] #[]] 26 (0, 0)), pts b19 (.cells #[.int .i64 a1] 3 (0, 0))] := hS.sel [0, 1] (by kernel_rfl)
        refine At.again ?_
        refine WL.weaken [1, 5, 6] (L' := [(1, .func (.func 32) #[] #[.pointer (some ⟨b22, 0, none⟩), .pointer (some ⟨b19, 0, none⟩)]), (5, .int .i64 x5_l1), (6, .int .i64 (wi (ishr .u64 (IntKind.wrap .u64 (wi (x5_l1 + x6_l1))) 1)))]) (by kernel_rfl) ?_
        exact ih x5_l1 (wi (ishr .u64 (IntKind.wrap .u64 (wi (x5_l1 + x6_l1))) 1)) _ hS H
    · replace H := ite_f H hb41
      refine WC.exit (by kernel_rfl) ?_
      refine At.thenExit ?_
      refine At.thenExit ?_
      obtain rfl := Option.some.inj H
      have hS : Sat w (rf w0) [pts b22 (.cells #[.func (.func 12) #[.pointer (some ⟨b30, 0, none⟩)] #[]] 26 (0, 0)), pts b19 (.cells #[.int .i64 a1] 3 (0, 0))] := hS.sel [0, 1] (by kernel_rfl)
      refine At.weaken [5] (L' := [(5, .int .i64 x5_l1)]) (by kernel_rfl) ?_
      exact hn0 _ hS
theorem rank_Vec_SelectZero.calls (w0 : World) (v0 : Value) (p0 : Option (Int × (List Int) × (List Int) × Int)) (R0 : rd (hp w0) (.ptr 47 (.pair (.int .i64) (.pair (.slice 40 (.int .u64)) (.pair (.slice 3 (.int .i64)) (.int .i64))))) [v0] p0) (a1 : Int) (r : Int) (H : rank_Vec_SelectZero.f p0 a1 = some r) :
    Calls Try.prog 14 #[v0, .int .i64 a1] w0 (fun e w' => ∃ v, e = .returned v ∧ rank_Vec_SelectZero.post w0 r v w') := by
  have hS : Sat w0 (rf w0) [] := Sat.start w0
  unfold rank_Vec_SelectZero.f at H
  refine calls_of_WC (vs := [v0, .int .i64 a1]) Try.func14 (c := C14) (n := 15) (by kernel_rfl) (by kernel_rfl) (by kernel_rfl) ?_
  refine WC.seq (by kernel_rfl) ?_
  refine WC.reg [0] (by kernel_rfl) (by kernel_rfl) ?_
  refine WR.runk [0] [] [0, 1] (L' := [(0, v0), (1, .int .i64 a1)]) (w' := w0) (by kernel_rfl) ?_
  refine WR.nil ?_
  refine At.go ?_
  refine WC.seq (by kernel_rfl) ?_
  refine WC.reg [0, 1, 2, 3, 4, 5, 6, 7, 8, 9, 10] (by kernel_rfl) (by kernel_rfl) ?_
  refine WR.runk [0, 1, 2] [3, 4, 5, 6, 7, 8, 9, 10] [0, 5, 6, 7] (L' := [(0, v0), (5, v0), (6, .int .i64 a1), (7, v0)]) (w' := w0) (by kernel_rfl) ?_
  obtain ⟨r1, e2, H⟩ := bind_ex H
  refine WR.st (St.call (by kernel_rfl) (f := 16) (args := #[v0]) (by kernel_rfl) (rank_Vec_Len.calls w0 (v0) p0 (rd.mono hS.sub0 _ _ _ R0) r1 e2) ?_)
  rintro _ w8 ⟨rfl, hS9⟩
  have hS : Sat w8 (rf w0) [] := hS.ext hS9
  refine WR.runk [4] [5, 6, 7, 8, 9, 10] [0, 5, 6, 8, 9] (L' := [(0, v0), (5, v0), (6, .int .i64 a1), (8, .int .i64 r1), (9, v0)]) (w' := w8) (by kernel_rfl) ?_
  obtain ⟨r10, e11, H⟩ := bind_ex H
  refine WR.st (St.call (by kernel_rfl) (f := 15) (args := #[v0]) (by kernel_rfl) (rank_Vec_Ones.calls w8 (v0) p0 (rd.mono hS.sub0 _ _ _ R0) r10 e11) ?_)
  rintro _ w17 ⟨rfl, hS18⟩
  have hS : Sat w17 (rf w0) [] := hS.ext hS18
  refine WR.runk [6, 7, 8] [9, 10] [5, 6, 11, 13] (L' := [(5, v0), (6, .int .i64 a1), (11, .int .i64 (wi (r1 - r10))), (13, .func (.func 12) #[v0] #[])]) (w' := w17) (by kernel_rfl) ?_
  refine WR.st (St.call (by kernel_rfl) (f := 25) (args := #[v0, .int .i64 a1, .int .i64 (wi (r1 - r10)), .func (.func 12) #[v0] #[]]) (by kernel_rfl) (calls_of_WC (vs := [v0, .int .i64 a1, .int .i64 (wi (r1 - r10)), .func (.func 12) #[v0] #[]]) Try.func25 (c := C25) (n := 22) (by kernel_rfl) (by kernel_rfl) (by kernel_rfl) ?_) (fun _ _ h => h))
  refine WC.seq (by kernel_rfl) ?_
  refine WC.reg [0, 1, 2] (by kernel_rfl) (by kernel_rfl) ?_
  refine WR.runk [] [0, 1, 2] [0, 1, 2, 3] (L' := [(0, v0), (1, .int .i64 a1), (2, .int .i64 (wi (r1 - r10))), (3, .func (.func 12) #[v0] #[])]) (w' := w17) (by kernel_rfl) ?_
  refine WR.st (St.box hS (by kernel_rfl) (.cells #[.int .i64 a1] 3) (fun b19 => .pointer (some ⟨b19, 0, none⟩)) (fun _ => by kernel_rfl) (fun b19 w20 hS => ?_))
  refine WR.runk [] [1, 2] [0, 2, 3, 5] (L' := [(0, v0), (2, .int .i64 (wi (r1 - r10))), (3, .func (.func 12) #[v0] #[]), (5, .pointer (some ⟨b19, 0, none⟩))]) (w' := w20) (by kernel_rfl) ?_
  refine WR.st (St.box hS (by kernel_rfl) (.cells #[.func (.func 12) #[v0] #[]] 26) (fun b22 => .pointer (some ⟨b22, 0, none⟩)) (fun _ => by kernel_rfl) (fun b22 w23 hS => ?_))
  refine WR.runk [2] [] [0, 2, 5, 7] (L' := [(0, v0), (2, .int .i64 (wi (r1 - r10))), (5, .pointer (some ⟨b19, 0, none⟩)), (7, .pointer (some ⟨b22, 0, none⟩))]) (w' := w23) (by kernel_rfl) ?_
  refine WR.nil ?_
  refine At.go ?_
  refine WC.seq (by kernel_rfl) ?_
  refine WC.seq (by kernel_rfl) ?_
  refine WC.reg [0, 1, 2, 3, 4, 5, 6] (by kernel_rfl) (by kernel_rfl) ?_
  refine WR.st (St.ofR (RSt.loadObj (t := 3) (k := 0) (v := .int .i64 a1) (.tmp 5) (by kernel_rfl) (by kernel_rfl) (by kernel_rfl) 1 hS rfl (by kernel_rfl) rfl ?_))
  refine WR.runk [1, 2] [3, 4, 5, 6] [0, 2, 5, 7, 11] (L' := [(0, v0), (2, .int .i64 (wi (r1 - r10))), (5, .pointer (some ⟨b19, 0, none⟩)), (7, .pointer (some ⟨b22, 0, none⟩)), (11, .bool (decide (a1 < 0)))]) (w' := w23) (by kernel_rfl) ?_
  refine WR.split 11 (b := decide (a1 < 0)) (by kernel_rfl) (fun hb25 => ?_) (fun hb25 => ?_)
  · replace H := ite_t H hb25
    refine WR.runk [3, 4, 5, 6] [] [0, 5, 7, 15] (L' := [(0, v0), (5, .pointer (some ⟨b19, 0, none⟩)), (7, .pointer (some ⟨b22, 0, none⟩)), (15, .bool true)]) (w' := w23) (by kernel_rfl) ?_
    refine WR.nil ?_
    refine At.go ?_
    refine WC.condT (by kernel_rfl) (by kernel_rfl) (by kernel_rfl) ?_
    refine WC.seq (by kernel_rfl) ?_
    refine WC.reg [0] (by kernel_rfl) (by kernel_rfl) ?_
    refine WR.runk [0] [] [8] (L' := [(8, .int .i64 (-1))]) (w' := w23) (by kernel_rfl) ?_
    refine WR.nil ?_
    refine At.go ?_
    refine WC.ret (by kernel_rfl) ?_
    refine At.thenRet ?_
    refine At.bodyK [.int .i64 (-1)] (.int .i64 (-1)) (by kernel_rfl) rfl ?_
    refine WR.runk [10] [] [4] (L' := [(4, .int .i64 (-1))]) (w' := w23) (by kernel_rfl) ?_
    refine WR.nil ?_
    refine At.go ?_
    refine WC.ret (by kernel_rfl) ?_
    obtain rfl := Option.some.inj H
    have hS : Sat w23 (rf w0) [] := hS.sel [] (by kernel_rfl)
    exact At.body [.int .i64 (-1)] (by kernel_rfl) ⟨_, rfl, rfl, hS⟩
  · replace H := ite_f H hb25
    refine WR.runk [] [3, 4, 5, 6] [0, 2, 5, 7, 11] (L' := [(0, v0), (2, .int .i64 (wi (r1 - r10))), (5, .pointer (some ⟨b19, 0, none⟩)), (7, .pointer (some ⟨b22, 0, none⟩)), (11, .bool false)]) (w' := w23) (by kernel_rfl) ?_
    refine WR.st (St.ofR (RSt.loadObj (t := 3) (k := 0) (v := .int .i64 a1) (.tmp 5) (by kernel_rfl) (by kernel_rfl) (by kernel_rfl) 1 hS rfl (by kernel_rfl) rfl ?_))
    refine WR.runk [4, 5, 6] [] [0, 5, 7, 15] (L' := [(0, v0), (5, .pointer (some ⟨b19, 0, none⟩)), (7, .pointer (some ⟨b22, 0, none⟩)), (15, .bool (decide (a1 ≥ wi (r1 - r10))))]) (w' := w23) (by kernel_rfl) ?_
    refine WR.nil ?_
    refine At.go ?_
    refine WC.cond (by kernel_rfl) (decide (a1 ≥ wi (r1 - r10))) (by kernel_rfl) (by kernel_rfl) (fun hb26 => ?_) (fun hb26 => ?_)
    · replace H := ite_t H hb26
      refine WC.seq (by kernel_rfl) ?_
      refine WC.reg [0] (by kernel_rfl) (by kernel_rfl) ?_
      refine WR.runk [0] [] [8] (L' := [(8, .int .i64 (-1))]) (w' := w23) (by kernel_rfl) ?_
      refine WR.nil ?_
      refine At.go ?_
      refine WC.ret (by kernel_rfl) ?_
      refine At.thenRet ?_
      refine At.bodyK [.int .i64 (-1)] (.int .i64 (-1)) (by kernel_rfl) rfl ?_
      refine WR.runk [10] [] [4] (L' := [(4, .int .i64 (-1))]) (w' := w23) (by kernel_rfl) ?_
      refine WR.nil ?_
      refine At.go ?_
      refine WC.ret (by kernel_rfl) ?_
      obtain rfl := Option.some.inj H
      have hS : Sat w23 (rf w0) [] := hS.sel [] (by kernel_rfl)
      exact At.body [.int .i64 (-1)] (by kernel_rfl) ⟨_, rfl, rfl, hS⟩
    · replace H := ite_f H hb26
      refine WC.skip (by kernel_rfl) ?_
      refine At.go ?_
      refine WC.seq (by kernel_rfl) ?_
      refine WC.reg [0, 1, 2, 3, 4, 5, 6] (by kernel_rfl) (by kernel_rfl) ?_
      refine WR.runk [0] [1, 2, 3, 4, 5, 6] [5, 7, 16] (L' := [(5, .pointer (some ⟨b19, 0, none⟩)), (7, .pointer (some ⟨b22, 0, none⟩)), (16, v0)]) (w' := w23) (by kernel_rfl) ?_
      obtain ⟨y29, hr27, H⟩ := bind_ex H
      obtain ⟨b30, fr31, A35, c36, A38, c39, hv32, hb33, R37, R40⟩ := P47.open R0 hr27
      have R34 := R0
      rw [hv32, hr27] at R34
      try subst hv32
      replace R37 : rdS (r0 (.int .u64)) 1 (hp w0) A35 c36 y29.2.1 := R37
      replace R40 : rdS (r0 (.int .i64)) 1 (hp w0) A38 c39 y29.2.2.1 := R40
      refine WR.runk [1, 2] [3, 4, 5, 6] [5, 7, 18] (L' := [(5, .pointer (some ⟨b19, 0, none⟩)), (7, .pointer (some ⟨b22, 0, none⟩)), (18, .pointer (some ⟨b30, 0, none⟩))]) (w' := w23) (by kernel_rfl) ?_
      refine WR.st (St.ofR (RSt.loadRo (t := 3) (k := 0) (v := .int .i64 y29.1) (.tmp 18) (by kernel_rfl) (by kernel_rfl) (by kernel_rfl) hS.sub0 hb33 (by kernel_rfl) rfl ?_))
      refine WR.runk [4] [5, 6] [19, 20] (L' := [(19, .int .i64 y29.1), (20, .func (.func 32) #[] #[.pointer (some ⟨b22, 0, none⟩), .pointer (some ⟨b19, 0, none⟩)])]) (w' := w23) (by kernel_rfl) ?_
      refine WR.st (St.call (by kernel_rfl) (f := 31) (args := #[.int .i64 y29.1, .func (.func 32) #[] #[.pointer (some ⟨b22, 0, none⟩), .pointer (some ⟨b19, 0, none⟩)]]) (by kernel_rfl) (calls_of_WC (vs := [.int .i64 y29.1, .func (.func 32) #[] #[.pointer (some ⟨b22, 0, none⟩), .pointer (some ⟨b19, 0, none⟩)]]) Try.func31 (c := C31) (n := 26) (by kernel_rfl) (by kernel_rfl) (by kernel_rfl) ?_) (fun _ _ h => h))
      refine WC.seq (by kernel_rfl) ?_
      refine WC.reg [0] (by kernel_rfl) (by kernel_rfl) ?_
      refine WR.runk [0] [] [0, 1] (L' := [(0, .int .i64 y29.1), (1, .func (.func 32) #[] #[.pointer (some ⟨b22, 0, none⟩), .pointer (some ⟨b19, 0, none⟩)])]) (w' := w23) (by kernel_rfl) ?_
      refine WR.nil ?_
      refine At.go ?_
      refine WC.seq (by kernel_rfl) ?_
      refine WC.reg [0, 1, 2] (by kernel_rfl) (by kernel_rfl) ?_
      refine WR.runk [0, 1, 2] [] [1, 5, 6] (L' := [(1, .func (.func 32) #[] #[.pointer (some ⟨b22, 0, none⟩), .pointer (some ⟨b19, 0, none⟩)]), (5, .int .i64 0), (6, .int .i64 y29.1)]) (w' := w23) (by kernel_rfl) ?_
      refine WR.nil ?_
      refine At.go ?_
      refine WC.seq (by kernel_rfl) ?_
      refine WC.block (by kernel_rfl) ?_
      have hS : Sat w23 (rf w0) [pts b22 (.cells #[.func (.func 12) #[.pointer (some ⟨b30, 0, none⟩)] #[]] 26 (0, 0)), pts b19 (.cells #[.int .i64 a1] 3 (0, 0))] := hS.sel [0, 1] (by kernel_rfl)
      obtain ⟨o54, e55, H⟩ := bind_ex H
      refine WC.loop (by kernel_rfl) ?_
      refine WL.weaken [1, 5, 6] (L' := [(1, .func (.func 32) #[] #[.pointer (some ⟨b22, 0, none⟩), .pointer (some ⟨b19, 0, none⟩)]), (5, .int .i64 0), (6, .int .i64 y29.1)]) (by kernel_rfl) ?_
      refine rank_Vec_SelectZero.l1_ok w0 a1 b19 b22 y29 b30 R34 o54 (fun w57 hS => ?_) FU 0 y29.1 _ hS e55
      refine At.hit ?_
      refine At.go ?_
      refine WC.seq (by kernel_rfl) ?_
      refine WC.reg [0, 1] (by kernel_rfl) (by kernel_rfl) ?_
      refine WR.runk [0, 1] [] [4] (L' := [(4, .int .i64 o54)]) (w' := w57) (by kernel_rfl) ?_
      refine WR.nil ?_
      refine At.go ?_
      refine WC.ret (by kernel_rfl) ?_
      refine At.bodyK [.int .i64 o54] (.int .i64 o54) (by kernel_rfl) rfl ?_
      refine WR.runk [6] [] [8] (L' := [(8, .int .i64 o54)]) (w' := w57) (by kernel_rfl) ?_
      refine WR.nil ?_
      refine At.go ?_
      refine WC.ret (by kernel_rfl) ?_
      refine At.bodyK [.int .i64 o54] (.int .i64 o54) (by kernel_rfl) rfl ?_
      refine WR.runk [10] [] [4] (L' := [(4, .int .i64 o54)]) (w' := w57) (by kernel_rfl) ?_
      refine WR.nil ?_
      refine At.go ?_
      refine WC.ret (by kernel_rfl) ?_
      obtain rfl := Option.some.inj H
      have hS : Sat w57 (rf w0) [] := hS.sel [] (by kernel_rfl)
      exact At.body [.int .i64 o54] (by kernel_rfl) ⟨_, rfl, rfl, hS⟩
end Go.Proofs.Ytlkgejhnjbbogaa
