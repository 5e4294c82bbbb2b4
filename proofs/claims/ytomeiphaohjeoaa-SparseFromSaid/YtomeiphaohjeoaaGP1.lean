/-
  Printed by gen.py (my own tool): for each Go function a plain Lean function and the proof that a call of it does what that function says.
-/
import Derived.Test.YtomeiphaohjeoaaProg
import Derived.Test.YtomeiphaohjeoaaGM
set_option linter.unusedVariables false
set_option linter.unusedSimpArgs false
set_option maxRecDepth 100000
namespace Go.Proofs.Ytomeiphaohjeoaa
open Go Go.Gol
theorem E22 : ElemInfo Try.prog 22 3 1 8 := ElemInfo.mk' (.int .i64 0) (by kernel_rfl) (by kernel_rfl) rfl
theorem E35 : ElemInfo Try.prog 35 43 1 8 := ElemInfo.mk' (.int .u64 0) (by kernel_rfl) (by kernel_rfl) rfl
theorem E60 : ElemInfo Try.prog 60 5 1 1 := ElemInfo.mk' (.int .u8 0) (by kernel_rfl) (by kernel_rfl) rfl
noncomputable abbrev C43 : Code := Try.f43.body.getD .skip
noncomputable abbrev C33 : Code := Try.f33.body.getD .skip
noncomputable abbrev C21 : Code := Try.f21.body.getD .skip
noncomputable abbrev C34 : Code := Try.f34.body.getD .skip
noncomputable abbrev C22 : Code := Try.f22.body.getD .skip
noncomputable abbrev C35 : Code := Try.f35.body.getD .skip
noncomputable abbrev C23 : Code := Try.f23.body.getD .skip
noncomputable abbrev C36 : Code := Try.f36.body.getD .skip
noncomputable abbrev C37 : Code := Try.f37.body.getD .skip
noncomputable abbrev C42 : Code := Try.f42.body.getD .skip
noncomputable abbrev C27 : Code := Try.f27.body.getD .skip
noncomputable abbrev C38 : Code := Try.f38.body.getD .skip
noncomputable abbrev C24 : Code := Try.f24.body.getD .skip
noncomputable abbrev C10 : Code := Try.f10.body.getD .skip
noncomputable abbrev C17 : Code := Try.f17.body.getD .skip
noncomputable abbrev C40 : Code := Try.f40.body.getD .skip
noncomputable abbrev C39 : Code := Try.f39.body.getD .skip
noncomputable abbrev C44 : Code := Try.f44.body.getD .skip
noncomputable abbrev C45 : Code := Try.f45.body.getD .skip
noncomputable abbrev C41 : Code := Try.f41.body.getD .skip
noncomputable abbrev C25 : Code := Try.f25.body.getD .skip
noncomputable abbrev C26 : Code := Try.f26.body.getD .skip
noncomputable abbrev C12 : Code := Try.f12.body.getD .skip
noncomputable abbrev C13 : Code := Try.f13.body.getD .skip
noncomputable abbrev C14 : Code := Try.f14.body.getD .skip
noncomputable abbrev C8 : Code := Try.f8.body.getD .skip
noncomputable abbrev C9 : Code := Try.f9.body.getD .skip
noncomputable abbrev C11 : Code := Try.f11.body.getD .skip
noncomputable abbrev C3 : Code := Try.f3.body.getD .skip
noncomputable abbrev C15 : Code := Try.f15.body.getD .skip
noncomputable abbrev C16 : Code := Try.f16.body.getD .skip
noncomputable abbrev C28 : Code := Try.f28.body.getD .skip
noncomputable abbrev C29 : Code := Try.f29.body.getD .skip
noncomputable abbrev C30 : Code := Try.f30.body.getD .skip
noncomputable abbrev C18 : Code := Try.f18.body.getD .skip
noncomputable abbrev C19 : Code := Try.f19.body.getD .skip
noncomputable abbrev C4 : Code := Try.f4.body.getD .skip
noncomputable abbrev C5 : Code := Try.f5.body.getD .skip
noncomputable abbrev C31 : Code := Try.f31.body.getD .skip
noncomputable abbrev C32 : Code := Try.f32.body.getD .skip
noncomputable abbrev C20 : Code := Try.f20.body.getD .skip
noncomputable abbrev C6 : Code := Try.f6.body.getD .skip
noncomputable abbrev C7 : Code := Try.f7.body.getD .skip
def O68 (b : Nat) (x : Int × (List Int) × (List Int) × Int) : HP := fun H => ∃ a : (Option Addr × Nat) × (Option Addr × Nat), SepL [pts b (.cells #[.int .i64 x.1, .slice a.1.1 x.2.1.length a.1.2, .slice a.2.1 x.2.2.1.length a.2.2, .int .i64 x.2.2.2] 68 (0, 0)), osl 43 (r0 (.int .u64)) 1 a.1.1 a.1.2 x.2.1, osl 3 (r0 (.int .i64)) 1 a.2.1 a.2.2 x.2.2.1] H
theorem O68.open {w : World} {B : Rf} {cs : List HP} {b : Nat} {x : Int × (List Int) × (List Int) × Int} (h : Sat w B (O68 b x :: cs)) : ∃ (A0 : Option Addr) (c0 : Nat) (A1 : Option Addr) (c1 : Nat), Sat w B ([pts b (.cells #[.int .i64 x.1, .slice A0 x.2.1.length c0, .slice A1 x.2.2.1.length c1, .int .i64 x.2.2.2] 68 (0, 0)), osl 43 (r0 (.int .u64)) 1 A0 c0 x.2.1, osl 3 (r0 (.int .i64)) 1 A1 c1 x.2.2.1] ++ cs) := by
  obtain ⟨a, h⟩ := Sat.ex h
  exact ⟨a.1.1, a.1.2, a.2.1, a.2.2, Sat.op h⟩
theorem O68.close {w : World} {B : Rf} {cs : List HP} {b : Nat} (x : Int × (List Int) × (List Int) × Int) (A0 : Option Addr) (c0 : Nat) (A1 : Option Addr) (c1 : Nat) (h : Sat w B ([pts b (.cells #[.int .i64 x.1, .slice A0 x.2.1.length c0, .slice A1 x.2.2.1.length c1, .int .i64 x.2.2.2] 68 (0, 0)), osl 43 (r0 (.int .u64)) 1 A0 c0 x.2.1, osl 3 (r0 (.int .i64)) 1 A1 c1 x.2.2.1] ++ cs)) : Sat w B (O68 b x :: cs) := Sat.mono1 (c := SepL [pts b (.cells #[.int .i64 x.1, .slice A0 x.2.1.length c0, .slice A1 x.2.2.1.length c1, .int .i64 x.2.2.2] 68 (0, 0)), osl 43 (r0 (.int .u64)) 1 A0 c0 x.2.1, osl 3 (r0 (.int .i64)) 1 A1 c1 x.2.2.1]) (fun H h => ⟨((A0, c0), (A1, c1)), h⟩) (Sat.cl _ h)
theorem P68.open {H : Heap} {v : Value} {o : Option (Int × (List Int) × (List Int) × Int)} (h : Gol.rd H (.ptr 68 (.pair (.int .i64) (.pair (.slice 43 (.int .u64)) (.pair (.slice 3 (.int .i64)) (.int .i64))))) [v] o) {y : Int × (List Int) × (List Int) × Int} (e : o = some y) : ∃ (b : Nat) (fr : Nat × Nat) (A0 : Option Addr) (c0 : Nat) (A1 : Option Addr) (c1 : Nat), v = .pointer (some ⟨b, 0, none⟩) ∧ H b = some (.cells #[.int .i64 y.1, .slice A0 y.2.1.length c0, .slice A1 y.2.2.1.length c1, .int .i64 y.2.2.2] 68 fr) ∧ rdS (r0 (.int .u64)) 1 H A0 c0 y.2.1 ∧ rdS (r0 (.int .i64)) 1 H A1 c1 y.2.2.1 := by
  obtain ⟨b, cells, fr, hv, hb, hr⟩ := rd_ptr_some h e
  obtain ⟨_, _, e0, g0, z0, ⟨_, _, e1, g1, ⟨A0, c0, z1, R0⟩, ⟨_, _, e2, g2, ⟨A1, c1, z2, R1⟩, z3⟩⟩⟩ := hr
  have z0' := z0; replace z0' : _ = ([.int .i64 y.1] : List Value) := z0'
  have z1' := z1; replace z1' : _ = ([.slice A0 y.2.1.length c0] : List Value) := z1'
  have z2' := z2; replace z2' : _ = ([.slice A1 y.2.2.1.length c1] : List Value) := z2'
  have z3' := z3; replace z3' : _ = ([.int .i64 y.2.2.2] : List Value) := z3'
  have hc : cells = #[.int .i64 y.1, .slice A0 y.2.1.length c0, .slice A1 y.2.2.1.length c1, .int .i64 y.2.2.2] := by apply Array.ext'; rw [e0, z0', e1, z1', e2, z2', z3']; rfl
  subst hc
  exact ⟨b, fr, A0, c0, A1, c1, hv, hb, R0, R1⟩
theorem P68.mk {H : Heap} {b : Nat} {fr : Nat × Nat} {y : Int × (List Int) × (List Int) × Int} {A0 : Option Addr} {c0 : Nat} {A1 : Option Addr} {c1 : Nat} (hb : H b = some (.cells #[.int .i64 y.1, .slice A0 y.2.1.length c0, .slice A1 y.2.2.1.length c1, .int .i64 y.2.2.2] 68 fr)) (R0 : rdS (r0 (.int .u64)) 1 H A0 c0 y.2.1) (R1 : rdS (r0 (.int .i64)) 1 H A1 c1 y.2.2.1) : Gol.rd H (.ptr 68 (.pair (.int .i64) (.pair (.slice 43 (.int .u64)) (.pair (.slice 3 (.int .i64)) (.int .i64))))) [.pointer (some ⟨b, 0, none⟩)] (some y) := ⟨b, _, fr, rfl, hb, ⟨[.int .i64 y.1], [.slice A0 y.2.1.length c0, .slice A1 y.2.2.1.length c1, .int .i64 y.2.2.2], rfl, rfl, rfl, ⟨[.slice A0 y.2.1.length c0], [.slice A1 y.2.2.1.length c1, .int .i64 y.2.2.2], rfl, rfl, ⟨A0, c0, rfl, (rdS.r0up R0)⟩, ⟨[.slice A1 y.2.2.1.length c1], [.int .i64 y.2.2.2], rfl, rfl, ⟨A1, c1, rfl, (rdS.r0up R1)⟩, rfl⟩⟩⟩⟩
theorem O68.rd (b : Nat) (x : Int × (List Int) × (List Int) × Int) (H : Heap) (h : O68 b x H) : Gol.rd H (.ptr 68 (.pair (.int .i64) (.pair (.slice 43 (.int .u64)) (.pair (.slice 3 (.int .i64)) (.int .i64))))) [.pointer (some ⟨b, 0, none⟩)] (some x) := by
  obtain ⟨a, h⟩ := h
  exact P68.mk (SepL.blockAt 0 h rfl) (SepL.rdAt 1 h rfl) (SepL.rdAt 2 h rfl)
def O66 (b : Nat) (x : Int × Int × (List Int)) : HP := fun H => ∃ a : (Option Addr × Nat), SepL [pts b (.cells #[.int .i64 x.1, .int .i64 x.2.1, .slice a.1 x.2.2.length a.2] 66 (0, 0)), osl 43 (r0 (.int .u64)) 1 a.1 a.2 x.2.2] H
theorem O66.open {w : World} {B : Rf} {cs : List HP} {b : Nat} {x : Int × Int × (List Int)} (h : Sat w B (O66 b x :: cs)) : ∃ (A0 : Option Addr) (c0 : Nat), Sat w B ([pts b (.cells #[.int .i64 x.1, .int .i64 x.2.1, .slice A0 x.2.2.length c0] 66 (0, 0)), osl 43 (r0 (.int .u64)) 1 A0 c0 x.2.2] ++ cs) := by
  obtain ⟨a, h⟩ := Sat.ex h
  exact ⟨a.1, a.2, Sat.op h⟩
theorem O66.close {w : World} {B : Rf} {cs : List HP} {b : Nat} (x : Int × Int × (List Int)) (A0 : Option Addr) (c0 : Nat) (h : Sat w B ([pts b (.cells #[.int .i64 x.1, .int .i64 x.2.1, .slice A0 x.2.2.length c0] 66 (0, 0)), osl 43 (r0 (.int .u64)) 1 A0 c0 x.2.2] ++ cs)) : Sat w B (O66 b x :: cs) := Sat.mono1 (c := SepL [pts b (.cells #[.int .i64 x.1, .int .i64 x.2.1, .slice A0 x.2.2.length c0] 66 (0, 0)), osl 43 (r0 (.int .u64)) 1 A0 c0 x.2.2]) (fun H h => ⟨(A0, c0), h⟩) (Sat.cl _ h)
theorem P66.open {H : Heap} {v : Value} {o : Option (Int × Int × (List Int))} (h : Gol.rd H (.ptr 66 (.pair (.int .i64) (.pair (.int .i64) (.slice 43 (.int .u64))))) [v] o) {y : Int × Int × (List Int)} (e : o = some y) : ∃ (b : Nat) (fr : Nat × Nat) (A0 : Option Addr) (c0 : Nat), v = .pointer (some ⟨b, 0, none⟩) ∧ H b = some (.cells #[.int .i64 y.1, .int .i64 y.2.1, .slice A0 y.2.2.length c0] 66 fr) ∧ rdS (r0 (.int .u64)) 1 H A0 c0 y.2.2 := by
  obtain ⟨b, cells, fr, hv, hb, hr⟩ := rd_ptr_some h e
  obtain ⟨_, _, e0, g0, z0, ⟨_, _, e1, g1, z1, ⟨A0, c0, z2, R0⟩⟩⟩ := hr
  have z0' := z0; replace z0' : _ = ([.int .i64 y.1] : List Value) := z0'
  have z1' := z1; replace z1' : _ = ([.int .i64 y.2.1] : List Value) := z1'
  have z2' := z2; replace z2' : _ = ([.slice A0 y.2.2.length c0] : List Value) := z2'
  have hc : cells = #[.int .i64 y.1, .int .i64 y.2.1, .slice A0 y.2.2.length c0] := by apply Array.ext'; rw [e0, z0', e1, z1', z2']; rfl
  subst hc
  exact ⟨b, fr, A0, c0, hv, hb, R0⟩
theorem P66.mk {H : Heap} {b : Nat} {fr : Nat × Nat} {y : Int × Int × (List Int)} {A0 : Option Addr} {c0 : Nat} (hb : H b = some (.cells #[.int .i64 y.1, .int .i64 y.2.1, .slice A0 y.2.2.length c0] 66 fr)) (R0 : rdS (r0 (.int .u64)) 1 H A0 c0 y.2.2) : Gol.rd H (.ptr 66 (.pair (.int .i64) (.pair (.int .i64) (.slice 43 (.int .u64))))) [.pointer (some ⟨b, 0, none⟩)] (some y) := ⟨b, _, fr, rfl, hb, ⟨[.int .i64 y.1], [.int .i64 y.2.1, .slice A0 y.2.2.length c0], rfl, rfl, rfl, ⟨[.int .i64 y.2.1], [.slice A0 y.2.2.length c0], rfl, rfl, rfl, ⟨A0, c0, rfl, (rdS.r0up R0)⟩⟩⟩⟩
theorem O66.rd (b : Nat) (x : Int × Int × (List Int)) (H : Heap) (h : O66 b x H) : Gol.rd H (.ptr 66 (.pair (.int .i64) (.pair (.int .i64) (.slice 43 (.int .u64))))) [.pointer (some ⟨b, 0, none⟩)] (some x) := by
  obtain ⟨a, h⟩ := h
  exact P66.mk (SepL.blockAt 0 h rfl) (SepL.rdAt 1 h rfl)
def O49 (b : Nat) (x : Int × Int × Int × (Option (Int × (List Int) × (List Int) × Int)) × (Option (Int × Int × (List Int))) × (Option (Int × Int × (List Int)))) : HP := fun H => ∃ a : Value × Value × Value, SepL [pts b (.cells #[.int .i64 x.1, .int .i64 x.2.1, .int .i64 x.2.2.1, a.1, a.2.1, a.2.2] 49 (0, 0)), optP O68 a.1 x.2.2.2.1, optP O66 a.2.1 x.2.2.2.2.1, optP O66 a.2.2 x.2.2.2.2.2] H
theorem O49.open {w : World} {B : Rf} {cs : List HP} {b : Nat} {x : Int × Int × Int × (Option (Int × (List Int) × (List Int) × Int)) × (Option (Int × Int × (List Int))) × (Option (Int × Int × (List Int)))} (h : Sat w B (O49 b x :: cs)) : ∃ (v0 : Value) (v1 : Value) (v2 : Value), Sat w B ([pts b (.cells #[.int .i64 x.1, .int .i64 x.2.1, .int .i64 x.2.2.1, v0, v1, v2] 49 (0, 0)), optP O68 v0 x.2.2.2.1, optP O66 v1 x.2.2.2.2.1, optP O66 v2 x.2.2.2.2.2] ++ cs) := by
  obtain ⟨a, h⟩ := Sat.ex h
  exact ⟨a.1, a.2.1, a.2.2, Sat.op h⟩
theorem O49.close {w : World} {B : Rf} {cs : List HP} {b : Nat} (x : Int × Int × Int × (Option (Int × (List Int) × (List Int) × Int)) × (Option (Int × Int × (List Int))) × (Option (Int × Int × (List Int)))) (v0 : Value) (v1 : Value) (v2 : Value) (h : Sat w B ([pts b (.cells #[.int .i64 x.1, .int .i64 x.2.1, .int .i64 x.2.2.1, v0, v1, v2] 49 (0, 0)), optP O68 v0 x.2.2.2.1, optP O66 v1 x.2.2.2.2.1, optP O66 v2 x.2.2.2.2.2] ++ cs)) : Sat w B (O49 b x :: cs) := Sat.mono1 (c := SepL [pts b (.cells #[.int .i64 x.1, .int .i64 x.2.1, .int .i64 x.2.2.1, v0, v1, v2] 49 (0, 0)), optP O68 v0 x.2.2.2.1, optP O66 v1 x.2.2.2.2.1, optP O66 v2 x.2.2.2.2.2]) (fun H h => ⟨(v0, v1, v2), h⟩) (Sat.cl _ h)
theorem P49.open {H : Heap} {v : Value} {o : Option (Int × Int × Int × (Option (Int × (List Int) × (List Int) × Int)) × (Option (Int × Int × (List Int))) × (Option (Int × Int × (List Int))))} (h : Gol.rd H (.ptr 49 (.pair (.int .i64) (.pair (.int .i64) (.pair (.int .i64) (.pair (.ptr 68 (.pair (.int .i64) (.pair (.slice 43 (.int .u64)) (.pair (.slice 3 (.int .i64)) (.int .i64))))) (.pair (.ptr 66 (.pair (.int .i64) (.pair (.int .i64) (.slice 43 (.int .u64))))) (.ptr 66 (.pair (.int .i64) (.pair (.int .i64) (.slice 43 (.int .u64))))))))))) [v] o) {y : Int × Int × Int × (Option (Int × (List Int) × (List Int) × Int)) × (Option (Int × Int × (List Int))) × (Option (Int × Int × (List Int)))} (e : o = some y) : ∃ (b : Nat) (fr : Nat × Nat) (v0 : Value) (v1 : Value) (v2 : Value), v = .pointer (some ⟨b, 0, none⟩) ∧ H b = some (.cells #[.int .i64 y.1, .int .i64 y.2.1, .int .i64 y.2.2.1, v0, v1, v2] 49 fr) ∧ Gol.rd H (.ptr 68 (.pair (.int .i64) (.pair (.slice 43 (.int .u64)) (.pair (.slice 3 (.int .i64)) (.int .i64))))) [v0] y.2.2.2.1 ∧ Gol.rd H (.ptr 66 (.pair (.int .i64) (.pair (.int .i64) (.slice 43 (.int .u64))))) [v1] y.2.2.2.2.1 ∧ Gol.rd H (.ptr 66 (.pair (.int .i64) (.pair (.int .i64) (.slice 43 (.int .u64))))) [v2] y.2.2.2.2.2 := by
  obtain ⟨b, cells, fr, hv, hb, hr⟩ := rd_ptr_some h e
  obtain ⟨_, _, e0, g0, z0, ⟨_, _, e1, g1, z1, ⟨_, _, e2, g2, z2, ⟨_, _, e3, g3, S0, ⟨_, _, e4, g4, S1, S2⟩⟩⟩⟩⟩ := hr
  obtain ⟨v0, z3⟩ := rd_ptr_one S0
  rw [z3] at S0
  obtain ⟨v1, z4⟩ := rd_ptr_one S1
  rw [z4] at S1
  obtain ⟨v2, z5⟩ := rd_ptr_one S2
  rw [z5] at S2
  have z0' := z0; replace z0' : _ = ([.int .i64 y.1] : List Value) := z0'
  have z1' := z1; replace z1' : _ = ([.int .i64 y.2.1] : List Value) := z1'
  have z2' := z2; replace z2' : _ = ([.int .i64 y.2.2.1] : List Value) := z2'
  have z3' := z3; replace z3' : _ = ([v0] : List Value) := z3'
  have z4' := z4; replace z4' : _ = ([v1] : List Value) := z4'
  have z5' := z5; replace z5' : _ = ([v2] : List Value) := z5'
  have hc : cells = #[.int .i64 y.1, .int .i64 y.2.1, .int .i64 y.2.2.1, v0, v1, v2] := by apply Array.ext'; rw [e0, z0', e1, z1', e2, z2', e3, z3', e4, z4', z5']; rfl
  subst hc
  exact ⟨b, fr, v0, v1, v2, hv, hb, S0, S1, S2⟩
theorem P49.mk {H : Heap} {b : Nat} {fr : Nat × Nat} {y : Int × Int × Int × (Option (Int × (List Int) × (List Int) × Int)) × (Option (Int × Int × (List Int))) × (Option (Int × Int × (List Int)))} {v0 : Value} {v1 : Value} {v2 : Value} (hb : H b = some (.cells #[.int .i64 y.1, .int .i64 y.2.1, .int .i64 y.2.2.1, v0, v1, v2] 49 fr)) (R0 : Gol.rd H (.ptr 68 (.pair (.int .i64) (.pair (.slice 43 (.int .u64)) (.pair (.slice 3 (.int .i64)) (.int .i64))))) [v0] y.2.2.2.1) (R1 : Gol.rd H (.ptr 66 (.pair (.int .i64) (.pair (.int .i64) (.slice 43 (.int .u64))))) [v1] y.2.2.2.2.1) (R2 : Gol.rd H (.ptr 66 (.pair (.int .i64) (.pair (.int .i64) (.slice 43 (.int .u64))))) [v2] y.2.2.2.2.2) : Gol.rd H (.ptr 49 (.pair (.int .i64) (.pair (.int .i64) (.pair (.int .i64) (.pair (.ptr 68 (.pair (.int .i64) (.pair (.slice 43 (.int .u64)) (.pair (.slice 3 (.int .i64)) (.int .i64))))) (.pair (.ptr 66 (.pair (.int .i64) (.pair (.int .i64) (.slice 43 (.int .u64))))) (.ptr 66 (.pair (.int .i64) (.pair (.int .i64) (.slice 43 (.int .u64))))))))))) [.pointer (some ⟨b, 0, none⟩)] (some y) := ⟨b, _, fr, rfl, hb, ⟨[.int .i64 y.1], [.int .i64 y.2.1, .int .i64 y.2.2.1, v0, v1, v2], rfl, rfl, rfl, ⟨[.int .i64 y.2.1], [.int .i64 y.2.2.1, v0, v1, v2], rfl, rfl, rfl, ⟨[.int .i64 y.2.2.1], [v0, v1, v2], rfl, rfl, rfl, ⟨[v0], [v1, v2], rfl, rfl, R0, ⟨[v1], [v2], rfl, rfl, R1, R2⟩⟩⟩⟩⟩⟩
theorem O49.rd (b : Nat) (x : Int × Int × Int × (Option (Int × (List Int) × (List Int) × Int)) × (Option (Int × Int × (List Int))) × (Option (Int × Int × (List Int)))) (H : Heap) (h : O49 b x H) : Gol.rd H (.ptr 49 (.pair (.int .i64) (.pair (.int .i64) (.pair (.int .i64) (.pair (.ptr 68 (.pair (.int .i64) (.pair (.slice 43 (.int .u64)) (.pair (.slice 3 (.int .i64)) (.int .i64))))) (.pair (.ptr 66 (.pair (.int .i64) (.pair (.int .i64) (.slice 43 (.int .u64))))) (.ptr 66 (.pair (.int .i64) (.pair (.int .i64) (.slice 43 (.int .u64))))))))))) [.pointer (some ⟨b, 0, none⟩)] (some x) := by
  obtain ⟨a, h⟩ := h
  exact P49.mk (SepL.blockAt 0 h rfl) (SepL.rdAny 1 h rfl (fun _ h => optP.rdd (t := 68) (κ := (.pair (.int .i64) (.pair (.slice 43 (.int .u64)) (.pair (.slice 3 (.int .i64)) (.int .i64))))) (O := O68) O68.rd h)) (SepL.rdAny 2 h rfl (fun _ h => optP.rdd (t := 66) (κ := (.pair (.int .i64) (.pair (.int .i64) (.slice 43 (.int .u64))))) (O := O66) O66.rd h)) (SepL.rdAny 3 h rfl (fun _ h => optP.rdd (t := 66) (κ := (.pair (.int .i64) (.pair (.int .i64) (.slice 43 (.int .u64))))) (O := O66) O66.rd h))
/-! ### 43 math/bits.Len64 -/
def bits_Len64.f (a0 : Int) : Option Int := (if decide (a0 ≥ 4294967296) then (if decide (ishr .u64 a0 32 ≥ 65536) then (if decide (ishr .u64 (ishr .u64 a0 32) 16 ≥ 256) then ((chr? (⟨#[0, 1, 2, 2, 3, 3, 3, 3, 4, 4, 4, 4, 4, 4, 4, 4, 5, 5, 5, 5, 5, 5, 5, 5, 5, 5, 5, 5, 5, 5, 5, 5, 6, 6, 6, 6, 6, 6, 6, 6, 6, 6, 6, 6, 6, 6, 6, 6, 6, 6, 6, 6, 6, 6, 6, 6, 6, 6, 6, 6, 6, 6, 6, 6, 7, 7, 7, 7, 7, 7, 7, 7, 7, 7, 7, 7, 7, 7, 7, 7, 7, 7, 7, 7, 7, 7, 7, 7, 7, 7, 7, 7, 7, 7, 7, 7, 7, 7, 7, 7, 7, 7, 7, 7, 7, 7, 7, 7, 7, 7, 7, 7, 7, 7, 7, 7, 7, 7, 7, 7, 7, 7, 7, 7, 7, 7, 7, 7, 8, 8, 8, 8, 8, 8, 8, 8, 8, 8, 8, 8, 8, 8, 8, 8, 8, 8, 8, 8, 8, 8, 8, 8, 8, 8, 8, 8, 8, 8, 8, 8, 8, 8, 8, 8, 8, 8, 8, 8, 8, 8, 8, 8, 8, 8, 8, 8, 8, 8, 8, 8, 8, 8, 8, 8, 8, 8, 8, 8, 8, 8, 8, 8, 8, 8, 8, 8, 8, 8, 8, 8, 8, 8, 8, 8, 8, 8, 8, 8, 8, 8, 8, 8, 8, 8, 8, 8, 8, 8, 8, 8, 8, 8, 8, 8, 8, 8, 8, 8, 8, 8, 8, 8, 8, 8, 8, 8, 8, 8, 8, 8, 8, 8, 8, 8, 8, 8, 8, 8, 8, 8, 8, 8, 8, 8, 8, 8]⟩ : ByteArray) (IntKind.wrap .u8 (ishr .u64 (ishr .u64 (ishr .u64 a0 32) 16) 8))).bind fun v4 => some (wi ((wi ((wi (32 + 16)) + 8)) + (wi v4)))) else ((chr? (⟨#[0, 1, 2, 2, 3, 3, 3, 3, 4, 4, 4, 4, 4, 4, 4, 4, 5, 5, 5, 5, 5, 5, 5, 5, 5, 5, 5, 5, 5, 5, 5, 5, 6, 6, 6, 6, 6, 6, 6, 6, 6, 6, 6, 6, 6, 6, 6, 6, 6, 6, 6, 6, 6, 6, 6, 6, 6, 6, 6, 6, 6, 6, 6, 6, 7, 7, 7, 7, 7, 7, 7, 7, 7, 7, 7, 7, 7, 7, 7, 7, 7, 7, 7, 7, 7, 7, 7, 7, 7, 7, 7, 7, 7, 7, 7, 7, 7, 7, 7, 7, 7, 7, 7, 7, 7, 7, 7, 7, 7, 7, 7, 7, 7, 7, 7, 7, 7, 7, 7, 7, 7, 7, 7, 7, 7, 7, 7, 7, 8, 8, 8, 8, 8, 8, 8, 8, 8, 8, 8, 8, 8, 8, 8, 8, 8, 8, 8, 8, 8, 8, 8, 8, 8, 8, 8, 8, 8, 8, 8, 8, 8, 8, 8, 8, 8, 8, 8, 8, 8, 8, 8, 8, 8, 8, 8, 8, 8, 8, 8, 8, 8, 8, 8, 8, 8, 8, 8, 8, 8, 8, 8, 8, 8, 8, 8, 8, 8, 8, 8, 8, 8, 8, 8, 8, 8, 8, 8, 8, 8, 8, 8, 8, 8, 8, 8, 8, 8, 8, 8, 8, 8, 8, 8, 8, 8, 8, 8, 8, 8, 8, 8, 8, 8, 8, 8, 8, 8, 8, 8, 8, 8, 8, 8, 8, 8, 8, 8, 8, 8, 8, 8, 8, 8, 8, 8, 8]⟩ : ByteArray) (IntKind.wrap .u8 (ishr .u64 (ishr .u64 a0 32) 16))).bind fun v6 => some (wi ((wi (32 + 16)) + (wi v6))))) else (if decide (ishr .u64 a0 32 ≥ 256) then ((chr? (⟨#[0, 1, 2, 2, 3, 3, 3, 3, 4, 4, 4, 4, 4, 4, 4, 4, 5, 5, 5, 5, 5, 5, 5, 5, 5, 5, 5, 5, 5, 5, 5, 5, 6, 6, 6, 6, 6, 6, 6, 6, 6, 6, 6, 6, 6, 6, 6, 6, 6, 6, 6, 6, 6, 6, 6, 6, 6, 6, 6, 6, 6, 6, 6, 6, 7, 7, 7, 7, 7, 7, 7, 7, 7, 7, 7, 7, 7, 7, 7, 7, 7, 7, 7, 7, 7, 7, 7, 7, 7, 7, 7, 7, 7, 7, 7, 7, 7, 7, 7, 7, 7, 7, 7, 7, 7, 7, 7, 7, 7, 7, 7, 7, 7, 7, 7, 7, 7, 7, 7, 7, 7, 7, 7, 7, 7, 7, 7, 7, 8, 8, 8, 8, 8, 8, 8, 8, 8, 8, 8, 8, 8, 8, 8, 8, 8, 8, 8, 8, 8, 8, 8, 8, 8, 8, 8, 8, 8, 8, 8, 8, 8, 8, 8, 8, 8, 8, 8, 8, 8, 8, 8, 8, 8, 8, 8, 8, 8, 8, 8, 8, 8, 8, 8, 8, 8, 8, 8, 8, 8, 8, 8, 8, 8, 8, 8, 8, 8, 8, 8, 8, 8, 8, 8, 8, 8, 8, 8, 8, 8, 8, 8, 8, 8, 8, 8, 8, 8, 8, 8, 8, 8, 8, 8, 8, 8, 8, 8, 8, 8, 8, 8, 8, 8, 8, 8, 8, 8, 8, 8, 8, 8, 8, 8, 8, 8, 8, 8, 8, 8, 8, 8, 8, 8, 8, 8, 8]⟩ : ByteArray) (IntKind.wrap .u8 (ishr .u64 (ishr .u64 a0 32) 8))).bind fun v9 => some (wi ((wi (32 + 8)) + (wi v9)))) else ((chr? (⟨#[0, 1, 2, 2, 3, 3, 3, 3, 4, 4, 4, 4, 4, 4, 4, 4, 5, 5, 5, 5, 5, 5, 5, 5, 5, 5, 5, 5, 5, 5, 5, 5, 6, 6, 6, 6, 6, 6, 6, 6, 6, 6, 6, 6, 6, 6, 6, 6, 6, 6, 6, 6, 6, 6, 6, 6, 6, 6, 6, 6, 6, 6, 6, 6, 7, 7, 7, 7, 7, 7, 7, 7, 7, 7, 7, 7, 7, 7, 7, 7, 7, 7, 7, 7, 7, 7, 7, 7, 7, 7, 7, 7, 7, 7, 7, 7, 7, 7, 7, 7, 7, 7, 7, 7, 7, 7, 7, 7, 7, 7, 7, 7, 7, 7, 7, 7, 7, 7, 7, 7, 7, 7, 7, 7, 7, 7, 7, 7, 8, 8, 8, 8, 8, 8, 8, 8, 8, 8, 8, 8, 8, 8, 8, 8, 8, 8, 8, 8, 8, 8, 8, 8, 8, 8, 8, 8, 8, 8, 8, 8, 8, 8, 8, 8, 8, 8, 8, 8, 8, 8, 8, 8, 8, 8, 8, 8, 8, 8, 8, 8, 8, 8, 8, 8, 8, 8, 8, 8, 8, 8, 8, 8, 8, 8, 8, 8, 8, 8, 8, 8, 8, 8, 8, 8, 8, 8, 8, 8, 8, 8, 8, 8, 8, 8, 8, 8, 8, 8, 8, 8, 8, 8, 8, 8, 8, 8, 8, 8, 8, 8, 8, 8, 8, 8, 8, 8, 8, 8, 8, 8, 8, 8, 8, 8, 8, 8, 8, 8, 8, 8, 8, 8, 8, 8, 8, 8]⟩ : ByteArray) (IntKind.wrap .u8 (ishr .u64 a0 32))).bind fun v11 => some (wi (32 + (wi v11)))))) else (if decide (a0 ≥ 65536) then (if decide (ishr .u64 a0 16 ≥ 256) then ((chr? (⟨#[0, 1, 2, 2, 3, 3, 3, 3, 4, 4, 4, 4, 4, 4, 4, 4, 5, 5, 5, 5, 5, 5, 5, 5, 5, 5, 5, 5, 5, 5, 5, 5, 6, 6, 6, 6, 6, 6, 6, 6, 6, 6, 6, 6, 6, 6, 6, 6, 6, 6, 6, 6, 6, 6, 6, 6, 6, 6, 6, 6, 6, 6, 6, 6, 7, 7, 7, 7, 7, 7, 7, 7, 7, 7, 7, 7, 7, 7, 7, 7, 7, 7, 7, 7, 7, 7, 7, 7, 7, 7, 7, 7, 7, 7, 7, 7, 7, 7, 7, 7, 7, 7, 7, 7, 7, 7, 7, 7, 7, 7, 7, 7, 7, 7, 7, 7, 7, 7, 7, 7, 7, 7, 7, 7, 7, 7, 7, 7, 8, 8, 8, 8, 8, 8, 8, 8, 8, 8, 8, 8, 8, 8, 8, 8, 8, 8, 8, 8, 8, 8, 8, 8, 8, 8, 8, 8, 8, 8, 8, 8, 8, 8, 8, 8, 8, 8, 8, 8, 8, 8, 8, 8, 8, 8, 8, 8, 8, 8, 8, 8, 8, 8, 8, 8, 8, 8, 8, 8, 8, 8, 8, 8, 8, 8, 8, 8, 8, 8, 8, 8, 8, 8, 8, 8, 8, 8, 8, 8, 8, 8, 8, 8, 8, 8, 8, 8, 8, 8, 8, 8, 8, 8, 8, 8, 8, 8, 8, 8, 8, 8, 8, 8, 8, 8, 8, 8, 8, 8, 8, 8, 8, 8, 8, 8, 8, 8, 8, 8, 8, 8, 8, 8, 8, 8, 8, 8]⟩ : ByteArray) (IntKind.wrap .u8 (ishr .u64 (ishr .u64 a0 16) 8))).bind fun v15 => some (wi ((wi ((wi (0 + 16)) + 8)) + (wi v15)))) else ((chr? (⟨#[0, 1, 2, 2, 3, 3, 3, 3, 4, 4, 4, 4, 4, 4, 4, 4, 5, 5, 5, 5, 5, 5, 5, 5, 5, 5, 5, 5, 5, 5, 5, 5, 6, 6, 6, 6, 6, 6, 6, 6, 6, 6, 6, 6, 6, 6, 6, 6, 6, 6, 6, 6, 6, 6, 6, 6, 6, 6, 6, 6, 6, 6, 6, 6, 7, 7, 7, 7, 7, 7, 7, 7, 7, 7, 7, 7, 7, 7, 7, 7, 7, 7, 7, 7, 7, 7, 7, 7, 7, 7, 7, 7, 7, 7, 7, 7, 7, 7, 7, 7, 7, 7, 7, 7, 7, 7, 7, 7, 7, 7, 7, 7, 7, 7, 7, 7, 7, 7, 7, 7, 7, 7, 7, 7, 7, 7, 7, 7, 8, 8, 8, 8, 8, 8, 8, 8, 8, 8, 8, 8, 8, 8, 8, 8, 8, 8, 8, 8, 8, 8, 8, 8, 8, 8, 8, 8, 8, 8, 8, 8, 8, 8, 8, 8, 8, 8, 8, 8, 8, 8, 8, 8, 8, 8, 8, 8, 8, 8, 8, 8, 8, 8, 8, 8, 8, 8, 8, 8, 8, 8, 8, 8, 8, 8, 8, 8, 8, 8, 8, 8, 8, 8, 8, 8, 8, 8, 8, 8, 8, 8, 8, 8, 8, 8, 8, 8, 8, 8, 8, 8, 8, 8, 8, 8, 8, 8, 8, 8, 8, 8, 8, 8, 8, 8, 8, 8, 8, 8, 8, 8, 8, 8, 8, 8, 8, 8, 8, 8, 8, 8, 8, 8, 8, 8, 8, 8]⟩ : ByteArray) (IntKind.wrap .u8 (ishr .u64 a0 16))).bind fun v17 => some (wi ((wi (0 + 16)) + (wi v17))))) else (if decide (a0 ≥ 256) then ((chr? (⟨#[0, 1, 2, 2, 3, 3, 3, 3, 4, 4, 4, 4, 4, 4, 4, 4, 5, 5, 5, 5, 5, 5, 5, 5, 5, 5, 5, 5, 5, 5, 5, 5, 6, 6, 6, 6, 6, 6, 6, 6, 6, 6, 6, 6, 6, 6, 6, 6, 6, 6, 6, 6, 6, 6, 6, 6, 6, 6, 6, 6, 6, 6, 6, 6, 7, 7, 7, 7, 7, 7, 7, 7, 7, 7, 7, 7, 7, 7, 7, 7, 7, 7, 7, 7, 7, 7, 7, 7, 7, 7, 7, 7, 7, 7, 7, 7, 7, 7, 7, 7, 7, 7, 7, 7, 7, 7, 7, 7, 7, 7, 7, 7, 7, 7, 7, 7, 7, 7, 7, 7, 7, 7, 7, 7, 7, 7, 7, 7, 8, 8, 8, 8, 8, 8, 8, 8, 8, 8, 8, 8, 8, 8, 8, 8, 8, 8, 8, 8, 8, 8, 8, 8, 8, 8, 8, 8, 8, 8, 8, 8, 8, 8, 8, 8, 8, 8, 8, 8, 8, 8, 8, 8, 8, 8, 8, 8, 8, 8, 8, 8, 8, 8, 8, 8, 8, 8, 8, 8, 8, 8, 8, 8, 8, 8, 8, 8, 8, 8, 8, 8, 8, 8, 8, 8, 8, 8, 8, 8, 8, 8, 8, 8, 8, 8, 8, 8, 8, 8, 8, 8, 8, 8, 8, 8, 8, 8, 8, 8, 8, 8, 8, 8, 8, 8, 8, 8, 8, 8, 8, 8, 8, 8, 8, 8, 8, 8, 8, 8, 8, 8, 8, 8, 8, 8, 8, 8]⟩ : ByteArray) (IntKind.wrap .u8 (ishr .u64 a0 8))).bind fun v20 => some (wi ((wi (0 + 8)) + (wi v20)))) else ((chr? (⟨#[0, 1, 2, 2, 3, 3, 3, 3, 4, 4, 4, 4, 4, 4, 4, 4, 5, 5, 5, 5, 5, 5, 5, 5, 5, 5, 5, 5, 5, 5, 5, 5, 6, 6, 6, 6, 6, 6, 6, 6, 6, 6, 6, 6, 6, 6, 6, 6, 6, 6, 6, 6, 6, 6, 6, 6, 6, 6, 6, 6, 6, 6, 6, 6, 7, 7, 7, 7, 7, 7, 7, 7, 7, 7, 7, 7, 7, 7, 7, 7, 7, 7, 7, 7, 7, 7, 7, 7, 7, 7, 7, 7, 7, 7, 7, 7, 7, 7, 7, 7, 7, 7, 7, 7, 7, 7, 7, 7, 7, 7, 7, 7, 7, 7, 7, 7, 7, 7, 7, 7, 7, 7, 7, 7, 7, 7, 7, 7, 8, 8, 8, 8, 8, 8, 8, 8, 8, 8, 8, 8, 8, 8, 8, 8, 8, 8, 8, 8, 8, 8, 8, 8, 8, 8, 8, 8, 8, 8, 8, 8, 8, 8, 8, 8, 8, 8, 8, 8, 8, 8, 8, 8, 8, 8, 8, 8, 8, 8, 8, 8, 8, 8, 8, 8, 8, 8, 8, 8, 8, 8, 8, 8, 8, 8, 8, 8, 8, 8, 8, 8, 8, 8, 8, 8, 8, 8, 8, 8, 8, 8, 8, 8, 8, 8, 8, 8, 8, 8, 8, 8, 8, 8, 8, 8, 8, 8, 8, 8, 8, 8, 8, 8, 8, 8, 8, 8, 8, 8, 8, 8, 8, 8, 8, 8, 8, 8, 8, 8, 8, 8, 8, 8, 8, 8, 8, 8]⟩ : ByteArray) (IntKind.wrap .u8 a0)).bind fun v22 => some (wi (0 + (wi v22)))))))
def bits_Len64.post (w : World) (r : Int) (v : Value) (w' : World) : Prop := v = (.int .i64 r : Value) ∧ Sat w' (rf w) []
theorem bits_Len64.calls (w0 : World) (a0 : Int) (r : Int) (H : bits_Len64.f a0 = some r) :
    Calls Try.prog 43 #[.int .u64 a0] w0 (fun e w' => ∃ v, e = .returned v ∧ bits_Len64.post w0 r v w') := by
  have hS : Sat w0 (rf w0) [] := Sat.start w0
  unfold bits_Len64.f at H
  refine calls_of_WC (vs := [.int .u64 a0]) Try.func43 (c := C43) (n := 25) (by kernel_rfl) (by kernel_rfl) (by kernel_rfl) ?_
  refine WC.seq (by kernel_rfl) ?_
  refine WC.reg [0] (by kernel_rfl) (by kernel_rfl) ?_
  refine WR.runk [0] [] [0, 2] (L' := [(0, .int .u64 a0), (2, .int .i64 0)]) (w' := w0) (by kernel_rfl) ?_
  refine WR.nil ?_
  refine At.go ?_
  refine WC.seq (by kernel_rfl) ?_
  refine WC.seq (by kernel_rfl) ?_
  refine WC.reg [0, 1] (by kernel_rfl) (by kernel_rfl) ?_
  refine WR.runk [0, 1] [] [0, 2, 4] (L' := [(0, .int .u64 a0), (2, .int .i64 0), (4, .bool (decide (a0 ≥ 4294967296)))]) (w' := w0) (by kernel_rfl) ?_
  refine WR.nil ?_
  refine At.go ?_
  refine WC.cond (by kernel_rfl) (decide (a0 ≥ 4294967296)) (by kernel_rfl) (by kernel_rfl) (fun hb1 => ?_) (fun hb1 => ?_)
  · replace H := ite_t H hb1
    refine WC.seq (by kernel_rfl) ?_
    refine WC.reg [0, 1, 2] (by kernel_rfl) (by kernel_rfl) ?_
    refine WR.runk [0, 1, 2] [] [0] (L' := [(0, .int .u64 (ishr .u64 a0 32))]) (w' := w0) (by kernel_rfl) ?_
    refine WR.nil ?_
    refine At.go ?_
    refine WC.reg [0] (by kernel_rfl) (by kernel_rfl) ?_
    refine WR.runk [0] [] [0, 2] (L' := [(0, .int .u64 (ishr .u64 a0 32)), (2, .int .i64 32)]) (w' := w0) (by kernel_rfl) ?_
    refine WR.nil ?_
    refine At.go ?_
    refine WC.seq (by kernel_rfl) ?_
    refine WC.seq (by kernel_rfl) ?_
    refine WC.reg [0, 1] (by kernel_rfl) (by kernel_rfl) ?_
    refine WR.runk [0, 1] [] [0, 2, 8] (L' := [(0, .int .u64 (ishr .u64 a0 32)), (2, .int .i64 32), (8, .bool (decide (ishr .u64 a0 32 ≥ 65536)))]) (w' := w0) (by kernel_rfl) ?_
    refine WR.nil ?_
    refine At.go ?_
    refine WC.cond (by kernel_rfl) (decide (ishr .u64 a0 32 ≥ 65536)) (by kernel_rfl) (by kernel_rfl) (fun hb2 => ?_) (fun hb2 => ?_)
    · replace H := ite_t H hb2
      refine WC.seq (by kernel_rfl) ?_
      refine WC.reg [0, 1, 2] (by kernel_rfl) (by kernel_rfl) ?_
      refine WR.runk [0, 1, 2] [] [0, 2] (L' := [(0, .int .u64 (ishr .u64 (ishr .u64 a0 32) 16)), (2, .int .i64 32)]) (w' := w0) (by kernel_rfl) ?_
      refine WR.nil ?_
      refine At.go ?_
      refine WC.reg [0, 1, 2] (by kernel_rfl) (by kernel_rfl) ?_
      refine WR.runk [0, 1, 2] [] [0, 2] (L' := [(0, .int .u64 (ishr .u64 (ishr .u64 a0 32) 16)), (2, .int .i64 (wi (32 + 16)))]) (w' := w0) (by kernel_rfl) ?_
      refine WR.nil ?_
      refine At.go ?_
      refine WC.seq (by kernel_rfl) ?_
      refine WC.seq (by kernel_rfl) ?_
      refine WC.reg [0, 1] (by kernel_rfl) (by kernel_rfl) ?_
      refine WR.runk [0, 1] [] [0, 2, 14] (L' := [(0, .int .u64 (ishr .u64 (ishr .u64 a0 32) 16)), (2, .int .i64 (wi (32 + 16))), (14, .bool (decide (ishr .u64 (ishr .u64 a0 32) 16 ≥ 256)))]) (w' := w0) (by kernel_rfl) ?_
      refine WR.nil ?_
      refine At.go ?_
      refine WC.cond (by kernel_rfl) (decide (ishr .u64 (ishr .u64 a0 32) 16 ≥ 256)) (by kernel_rfl) (by kernel_rfl) (fun hb3 => ?_) (fun hb3 => ?_)
      · replace H := ite_t H hb3
        refine WC.seq (by kernel_rfl) ?_
        refine WC.reg [0, 1, 2] (by kernel_rfl) (by kernel_rfl) ?_
        refine WR.runk [0, 1, 2] [] [0, 2] (L' := [(0, .int .u64 (ishr .u64 (ishr .u64 (ishr .u64 a0 32) 16) 8)), (2, .int .i64 (wi (32 + 16)))]) (w' := w0) (by kernel_rfl) ?_
        refine WR.nil ?_
        refine At.go ?_
        refine WC.reg [0, 1, 2] (by kernel_rfl) (by kernel_rfl) ?_
        refine WR.runk [0, 1, 2] [] [0, 2] (L' := [(0, .int .u64 (ishr .u64 (ishr .u64 (ishr .u64 a0 32) 16) 8)), (2, .int .i64 (wi ((wi (32 + 16)) + 8)))]) (w' := w0) (by kernel_rfl) ?_
        refine WR.nil ?_
        refine At.go ?_
        refine WC.seq (by kernel_rfl) ?_
        refine WC.reg [0, 1, 2, 3, 4, 5, 6] (by kernel_rfl) (by kernel_rfl) ?_
        refine WR.runk [0, 1, 2] [3, 4, 5, 6] [2, 19, 21] (L' := [(2, .int .i64 (wi ((wi (32 + 16)) + 8))), (19, .int .i64 (wi ((wi (32 + 16)) + 8))), (21, .int .u8 (IntKind.wrap .u8 (ishr .u64 (ishr .u64 (ishr .u64 a0 32) 16) 8)))]) (w' := w0) (by kernel_rfl) ?_
        obtain ⟨v4, e5, H⟩ := bind_ex H
        refine WR.st (St.ofP (PSt.chr (k := .u8) (t := 9) (.const (.string ⟨#[0, 1, 2, 2, 3, 3, 3, 3, 4, 4, 4, 4, 4, 4, 4, 4, 5, 5, 5, 5, 5, 5, 5, 5, 5, 5, 5, 5, 5, 5, 5, 5, 6, 6, 6, 6, 6, 6, 6, 6, 6, 6, 6, 6, 6, 6, 6, 6, 6, 6, 6, 6, 6, 6, 6, 6, 6, 6, 6, 6, 6, 6, 6, 6, 7, 7, 7, 7, 7, 7, 7, 7, 7, 7, 7, 7, 7, 7, 7, 7, 7, 7, 7, 7, 7, 7, 7, 7, 7, 7, 7, 7, 7, 7, 7, 7, 7, 7, 7, 7, 7, 7, 7, 7, 7, 7, 7, 7, 7, 7, 7, 7, 7, 7, 7, 7, 7, 7, 7, 7, 7, 7, 7, 7, 7, 7, 7, 7, 8, 8, 8, 8, 8, 8, 8, 8, 8, 8, 8, 8, 8, 8, 8, 8, 8, 8, 8, 8, 8, 8, 8, 8, 8, 8, 8, 8, 8, 8, 8, 8, 8, 8, 8, 8, 8, 8, 8, 8, 8, 8, 8, 8, 8, 8, 8, 8, 8, 8, 8, 8, 8, 8, 8, 8, 8, 8, 8, 8, 8, 8, 8, 8, 8, 8, 8, 8, 8, 8, 8, 8, 8, 8, 8, 8, 8, 8, 8, 8, 8, 8, 8, 8, 8, 8, 8, 8, 8, 8, 8, 8, 8, 8, 8, 8, 8, 8, 8, 8, 8, 8, 8, 8, 8, 8, 8, 8, 8, 8, 8, 8, 8, 8, 8, 8, 8, 8, 8, 8, 8, 8, 8, 8, 8, 8, 8, 8]⟩)) (.tmp 21) (by kernel_rfl) (by kernel_rfl) (by kernel_rfl) (by kernel_rfl) (by kernel_rfl) e5 ?_))
        refine WR.runk [4, 5, 6] [] [2] (L' := [(2, .int .i64 (wi ((wi ((wi (32 + 16)) + 8)) + (wi v4))))]) (w' := w0) (by kernel_rfl) ?_
        refine WR.nil ?_
        refine At.go ?_
        refine WC.ret (by kernel_rfl) ?_
        obtain rfl := Option.some.inj H
        have hS : Sat w0 (rf w0) [] := hS.sel [] (by kernel_rfl)
        exact At.body [.int .i64 (wi ((wi ((wi (32 + 16)) + 8)) + (wi v4)))] (by kernel_rfl) ⟨_, rfl, rfl, hS⟩
      · replace H := ite_f H hb3
        refine WC.skip (by kernel_rfl) ?_
        refine At.go ?_
        refine WC.seq (by kernel_rfl) ?_
        refine WC.reg [0, 1, 2, 3, 4, 5, 6] (by kernel_rfl) (by kernel_rfl) ?_
        refine WR.runk [0, 1, 2] [3, 4, 5, 6] [2, 19, 21] (L' := [(2, .int .i64 (wi (32 + 16))), (19, .int .i64 (wi (32 + 16))), (21, .int .u8 (IntKind.wrap .u8 (ishr .u64 (ishr .u64 a0 32) 16)))]) (w' := w0) (by kernel_rfl) ?_
        obtain ⟨v6, e7, H⟩ := bind_ex H
        refine WR.st (St.ofP (PSt.chr (k := .u8) (t := 9) (.const (.string ⟨#[0, 1, 2, 2, 3, 3, 3, 3, 4, 4, 4, 4, 4, 4, 4, 4, 5, 5, 5, 5, 5, 5, 5, 5, 5, 5, 5, 5, 5, 5, 5, 5, 6, 6, 6, 6, 6, 6, 6, 6, 6, 6, 6, 6, 6, 6, 6, 6, 6, 6, 6, 6, 6, 6, 6, 6, 6, 6, 6, 6, 6, 6, 6, 6, 7, 7, 7, 7, 7, 7, 7, 7, 7, 7, 7, 7, 7, 7, 7, 7, 7, 7, 7, 7, 7, 7, 7, 7, 7, 7, 7, 7, 7, 7, 7, 7, 7, 7, 7, 7, 7, 7, 7, 7, 7, 7, 7, 7, 7, 7, 7, 7, 7, 7, 7, 7, 7, 7, 7, 7, 7, 7, 7, 7, 7, 7, 7, 7, 8, 8, 8, 8, 8, 8, 8, 8, 8, 8, 8, 8, 8, 8, 8, 8, 8, 8, 8, 8, 8, 8, 8, 8, 8, 8, 8, 8, 8, 8, 8, 8, 8, 8, 8, 8, 8, 8, 8, 8, 8, 8, 8, 8, 8, 8, 8, 8, 8, 8, 8, 8, 8, 8, 8, 8, 8, 8, 8, 8, 8, 8, 8, 8, 8, 8, 8, 8, 8, 8, 8, 8, 8, 8, 8, 8, 8, 8, 8, 8, 8, 8, 8, 8, 8, 8, 8, 8, 8, 8, 8, 8, 8, 8, 8, 8, 8, 8, 8, 8, 8, 8, 8, 8, 8, 8, 8, 8, 8, 8, 8, 8, 8, 8, 8, 8, 8, 8, 8, 8, 8, 8, 8, 8, 8, 8, 8, 8]⟩)) (.tmp 21) (by kernel_rfl) (by kernel_rfl) (by kernel_rfl) (by kernel_rfl) (by kernel_rfl) e7 ?_))
        refine WR.runk [4, 5, 6] [] [2] (L' := [(2, .int .i64 (wi ((wi (32 + 16)) + (wi v6))))]) (w' := w0) (by kernel_rfl) ?_
        refine WR.nil ?_
        refine At.go ?_
        refine WC.ret (by kernel_rfl) ?_
        obtain rfl := Option.some.inj H
        have hS : Sat w0 (rf w0) [] := hS.sel [] (by kernel_rfl)
        exact At.body [.int .i64 (wi ((wi (32 + 16)) + (wi v6)))] (by kernel_rfl) ⟨_, rfl, rfl, hS⟩
    · replace H := ite_f H hb2
      refine WC.skip (by kernel_rfl) ?_
      refine At.go ?_
      refine WC.seq (by kernel_rfl) ?_
      refine WC.seq (by kernel_rfl) ?_
      refine WC.reg [0, 1] (by kernel_rfl) (by kernel_rfl) ?_
      refine WR.runk [0, 1] [] [0, 2, 14] (L' := [(0, .int .u64 (ishr .u64 a0 32)), (2, .int .i64 32), (14, .bool (decide (ishr .u64 a0 32 ≥ 256)))]) (w' := w0) (by kernel_rfl) ?_
      refine WR.nil ?_
      refine At.go ?_
      refine WC.cond (by kernel_rfl) (decide (ishr .u64 a0 32 ≥ 256)) (by kernel_rfl) (by kernel_rfl) (fun hb8 => ?_) (fun hb8 => ?_)
      · replace H := ite_t H hb8
        refine WC.seq (by kernel_rfl) ?_
        refine WC.reg [0, 1, 2] (by kernel_rfl) (by kernel_rfl) ?_
        refine WR.runk [0, 1, 2] [] [0, 2] (L' := [(0, .int .u64 (ishr .u64 (ishr .u64 a0 32) 8)), (2, .int .i64 32)]) (w' := w0) (by kernel_rfl) ?_
        refine WR.nil ?_
        refine At.go ?_
        refine WC.reg [0, 1, 2] (by kernel_rfl) (by kernel_rfl) ?_
        refine WR.runk [0, 1, 2] [] [0, 2] (L' := [(0, .int .u64 (ishr .u64 (ishr .u64 a0 32) 8)), (2, .int .i64 (wi (32 + 8)))]) (w' := w0) (by kernel_rfl) ?_
        refine WR.nil ?_
        refine At.go ?_
        refine WC.seq (by kernel_rfl) ?_
        refine WC.reg [0, 1, 2, 3, 4, 5, 6] (by kernel_rfl) (by kernel_rfl) ?_
        refine WR.runk [0, 1, 2] [3, 4, 5, 6] [2, 19, 21] (L' := [(2, .int .i64 (wi (32 + 8))), (19, .int .i64 (wi (32 + 8))), (21, .int .u8 (IntKind.wrap .u8 (ishr .u64 (ishr .u64 a0 32) 8)))]) (w' := w0) (by kernel_rfl) ?_
        obtain ⟨v9, e10, H⟩ := bind_ex H
        refine WR.st (St.ofP (PSt.chr (k := .u8) (t := 9) (.const (.string ⟨#[0, 1, 2, 2, 3, 3, 3, 3, 4, 4, 4, 4, 4, 4, 4, 4, 5, 5, 5, 5, 5, 5, 5, 5, 5, 5, 5, 5, 5, 5, 5, 5, 6, 6, 6, 6, 6, 6, 6, 6, 6, 6, 6, 6, 6, 6, 6, 6, 6, 6, 6, 6, 6, 6, 6, 6, 6, 6, 6, 6, 6, 6, 6, 6, 7, 7, 7, 7, 7, 7, 7, 7, 7, 7, 7, 7, 7, 7, 7, 7, 7, 7, 7, 7, 7, 7, 7, 7, 7, 7, 7, 7, 7, 7, 7, 7, 7, 7, 7, 7, 7, 7, 7, 7, 7, 7, 7, 7, 7, 7, 7, 7, 7, 7, 7, 7, 7, 7, 7, 7, 7, 7, 7, 7, 7, 7, 7, 7, 8, 8, 8, 8, 8, 8, 8, 8, 8, 8, 8, 8, 8, 8, 8, 8, 8, 8, 8, 8, 8, 8, 8, 8, 8, 8, 8, 8, 8, 8, 8, 8, 8, 8, 8, 8, 8, 8, 8, 8, 8, 8, 8, 8, 8, 8, 8, 8, 8, 8, 8, 8, 8, 8, 8, 8, 8, 8, 8, 8, 8, 8, 8, 8, 8, 8, 8, 8, 8, 8, 8, 8, 8, 8, 8, 8, 8, 8, 8, 8, 8, 8, 8, 8, 8, 8, 8, 8, 8, 8, 8, 8, 8, 8, 8, 8, 8, 8, 8, 8, 8, 8, 8, 8, 8, 8, 8, 8, 8, 8, 8, 8, 8, 8, 8, 8, 8, 8, 8, 8, 8, 8, 8, 8, 8, 8, 8, 8]⟩)) (.tmp 21) (by kernel_rfl) (by kernel_rfl) (by kernel_rfl) (by kernel_rfl) (by kernel_rfl) e10 ?_))
        refine WR.runk [4, 5, 6] [] [2] (L' := [(2, .int .i64 (wi ((wi (32 + 8)) + (wi v9))))]) (w' := w0) (by kernel_rfl) ?_
        refine WR.nil ?_
        refine At.go ?_
        refine WC.ret (by kernel_rfl) ?_
        obtain rfl := Option.some.inj H
        have hS : Sat w0 (rf w0) [] := hS.sel [] (by kernel_rfl)
        exact At.body [.int .i64 (wi ((wi (32 + 8)) + (wi v9)))] (by kernel_rfl) ⟨_, rfl, rfl, hS⟩
      · replace H := ite_f H hb8
        refine WC.skip (by kernel_rfl) ?_
        refine At.go ?_
        refine WC.seq (by kernel_rfl) ?_
        refine WC.reg [0, 1, 2, 3, 4, 5, 6] (by kernel_rfl) (by kernel_rfl) ?_
        refine WR.runk [0, 1, 2] [3, 4, 5, 6] [2, 19, 21] (L' := [(2, .int .i64 32), (19, .int .i64 32), (21, .int .u8 (IntKind.wrap .u8 (ishr .u64 a0 32)))]) (w' := w0) (by kernel_rfl) ?_
        obtain ⟨v11, e12, H⟩ := bind_ex H
        refine WR.st (St.ofP (PSt.chr (k := .u8) (t := 9) (.const (.string ⟨#[0, 1, 2, 2, 3, 3, 3, 3, 4, 4, 4, 4, 4, 4, 4, 4, 5, 5, 5, 5, 5, 5, 5, 5, 5, 5, 5, 5, 5, 5, 5, 5, 6, 6, 6, 6, 6, 6, 6, 6, 6, 6, 6, 6, 6, 6, 6, 6, 6, 6, 6, 6, 6, 6, 6, 6, 6, 6, 6, 6, 6, 6, 6, 6, 7, 7, 7, 7, 7, 7, 7, 7, 7, 7, 7, 7, 7, 7, 7, 7, 7, 7, 7, 7, 7, 7, 7, 7, 7, 7, 7, 7, 7, 7, 7, 7, 7, 7, 7, 7, 7, 7, 7, 7, 7, 7, 7, 7, 7, 7, 7, 7, 7, 7, 7, 7, 7, 7, 7, 7, 7, 7, 7, 7, 7, 7, 7, 7, 8, 8, 8, 8, 8, 8, 8, 8, 8, 8, 8, 8, 8, 8, 8, 8, 8, 8, 8, 8, 8, 8, 8, 8, 8, 8, 8, 8, 8, 8, 8, 8, 8, 8, 8, 8, 8, 8, 8, 8, 8, 8, 8, 8, 8, 8, 8, 8, 8, 8, 8, 8, 8, 8, 8, 8, 8, 8, 8, 8, 8, 8, 8, 8, 8, 8, 8, 8, 8, 8, 8, 8, 8, 8, 8, 8, 8, 8, 8, 8, 8, 8, 8, 8, 8, 8, 8, 8, 8, 8, 8, 8, 8, 8, 8, 8, 8, 8, 8, 8, 8, 8, 8, 8, 8, 8, 8, 8, 8, 8, 8, 8, 8, 8, 8, 8, 8, 8, 8, 8, 8, 8, 8, 8, 8, 8, 8, 8]⟩)) (.tmp 21) (by kernel_rfl) (by kernel_rfl) (by kernel_rfl) (by kernel_rfl) (by kernel_rfl) e12 ?_))
        refine WR.runk [4, 5, 6] [] [2] (L' := [(2, .int .i64 (wi (32 + (wi v11))))]) (w' := w0) (by kernel_rfl) ?_
        refine WR.nil ?_
        refine At.go ?_
        refine WC.ret (by kernel_rfl) ?_
        obtain rfl := Option.some.inj H
        have hS : Sat w0 (rf w0) [] := hS.sel [] (by kernel_rfl)
        exact At.body [.int .i64 (wi (32 + (wi v11)))] (by kernel_rfl) ⟨_, rfl, rfl, hS⟩
  · replace H := ite_f H hb1
    refine WC.skip (by kernel_rfl) ?_
    refine At.go ?_
    refine WC.seq (by kernel_rfl) ?_
    refine WC.seq (by kernel_rfl) ?_
    refine WC.reg [0, 1] (by kernel_rfl) (by kernel_rfl) ?_
    refine WR.runk [0, 1] [] [0, 2, 8] (L' := [(0, .int .u64 a0), (2, .int .i64 0), (8, .bool (decide (a0 ≥ 65536)))]) (w' := w0) (by kernel_rfl) ?_
    refine WR.nil ?_
    refine At.go ?_
    refine WC.cond (by kernel_rfl) (decide (a0 ≥ 65536)) (by kernel_rfl) (by kernel_rfl) (fun hb13 => ?_) (fun hb13 => ?_)
    · replace H := ite_t H hb13
      refine WC.seq (by kernel_rfl) ?_
      refine WC.reg [0, 1, 2] (by kernel_rfl) (by kernel_rfl) ?_
      refine WR.runk [0, 1, 2] [] [0, 2] (L' := [(0, .int .u64 (ishr .u64 a0 16)), (2, .int .i64 0)]) (w' := w0) (by kernel_rfl) ?_
      refine WR.nil ?_
      refine At.go ?_
      refine WC.reg [0, 1, 2] (by kernel_rfl) (by kernel_rfl) ?_
      refine WR.runk [0, 1, 2] [] [0, 2] (L' := [(0, .int .u64 (ishr .u64 a0 16)), (2, .int .i64 (wi (0 + 16)))]) (w' := w0) (by kernel_rfl) ?_
      refine WR.nil ?_
      refine At.go ?_
      refine WC.seq (by kernel_rfl) ?_
      refine WC.seq (by kernel_rfl) ?_
      refine WC.reg [0, 1] (by kernel_rfl) (by kernel_rfl) ?_
      refine WR.runk [0, 1] [] [0, 2, 14] (L' := [(0, .int .u64 (ishr .u64 a0 16)), (2, .int .i64 (wi (0 + 16))), (14, .bool (decide (ishr .u64 a0 16 ≥ 256)))]) (w' := w0) (by kernel_rfl) ?_
      refine WR.nil ?_
      refine At.go ?_
      refine WC.cond (by kernel_rfl) (decide (ishr .u64 a0 16 ≥ 256)) (by kernel_rfl) (by kernel_rfl) (fun hb14 => ?_) (fun hb14 => ?_)
      · replace H := ite_t H hb14
        refine WC.seq (by kernel_rfl) ?_
        refine WC.reg [0, 1, 2] (by kernel_rfl) (by kernel_rfl) ?_
        refine WR.runk [0, 1, 2] [] [0, 2] (L' := [(0, .int .u64 (ishr .u64 (ishr .u64 a0 16) 8)), (2, .int .i64 (wi (0 + 16)))]) (w' := w0) (by kernel_rfl) ?_
        refine WR.nil ?_
        refine At.go ?_
        refine WC.reg [0, 1, 2] (by kernel_rfl) (by kernel_rfl) ?_
        refine WR.runk [0, 1, 2] [] [0, 2] (L' := [(0, .int .u64 (ishr .u64 (ishr .u64 a0 16) 8)), (2, .int .i64 (wi ((wi (0 + 16)) + 8)))]) (w' := w0) (by kernel_rfl) ?_
        refine WR.nil ?_
        refine At.go ?_
        refine WC.seq (by kernel_rfl) ?_
        refine WC.reg [0, 1, 2, 3, 4, 5, 6] (by kernel_rfl) (by kernel_rfl) ?_
        refine WR.runk [0, 1, 2] [3, 4, 5, 6] [2, 19, 21] (L' := [(2, .int .i64 (wi ((wi (0 + 16)) + 8))), (19, .int .i64 (wi ((wi (0 + 16)) + 8))), (21, .int .u8 (IntKind.wrap .u8 (ishr .u64 (ishr .u64 a0 16) 8)))]) (w' := w0) (by kernel_rfl) ?_
        obtain ⟨v15, e16, H⟩ := bind_ex H
        refine WR.st (St.ofP (PSt.chr (k := .u8) (t := 9) (.const (.string ⟨#[0, 1, 2, 2, 3, 3, 3, 3, 4, 4, 4, 4, 4, 4, 4, 4, 5, 5, 5, 5, 5, 5, 5, 5, 5, 5, 5, 5, 5, 5, 5, 5, 6, 6, 6, 6, 6, 6, 6, 6, 6, 6, 6, 6, 6, 6, 6, 6, 6, 6, 6, 6, 6, 6, 6, 6, 6, 6, 6, 6, 6, 6, 6, 6, 7, 7, 7, 7, 7, 7, 7, 7, 7, 7, 7, 7, 7, 7, 7, 7, 7, 7, 7, 7, 7, 7, 7, 7, 7, 7, 7, 7, 7, 7, 7, 7, 7, 7, 7, 7, 7, 7, 7, 7, 7, 7, 7, 7, 7, 7, 7, 7, 7, 7, 7, 7, 7, 7, 7, 7, 7, 7, 7, 7, 7, 7, 7, 7, 8, 8, 8, 8, 8, 8, 8, 8, 8, 8, 8, 8, 8, 8, 8, 8, 8, 8, 8, 8, 8, 8, 8, 8, 8, 8, 8, 8, 8, 8, 8, 8, 8, 8, 8, 8, 8, 8, 8, 8, 8, 8, 8, 8, 8, 8, 8, 8, 8, 8, 8, 8, 8, 8, 8, 8, 8, 8, 8, 8, 8, 8, 8, 8, 8, 8, 8, 8, 8, 8, 8, 8, 8, 8, 8, 8, 8, 8, 8, 8, 8, 8, 8, 8, 8, 8, 8, 8, 8, 8, 8, 8, 8, 8, 8, 8, 8, 8, 8, 8, 8, 8, 8, 8, 8, 8, 8, 8, 8, 8, 8, 8, 8, 8, 8, 8, 8, 8, 8, 8, 8, 8, 8, 8, 8, 8, 8, 8]⟩)) (.tmp 21) (by kernel_rfl) (by kernel_rfl) (by kernel_rfl) (by kernel_rfl) (by kernel_rfl) e16 ?_))
        refine WR.runk [4, 5, 6] [] [2] (L' := [(2, .int .i64 (wi ((wi ((wi (0 + 16)) + 8)) + (wi v15))))]) (w' := w0) (by kernel_rfl) ?_
        refine WR.nil ?_
        refine At.go ?_
        refine WC.ret (by kernel_rfl) ?_
        obtain rfl := Option.some.inj H
        have hS : Sat w0 (rf w0) [] := hS.sel [] (by kernel_rfl)
        exact At.body [.int .i64 (wi ((wi ((wi (0 + 16)) + 8)) + (wi v15)))] (by kernel_rfl) ⟨_, rfl, rfl, hS⟩
      · replace H := ite_f H hb14
        refine WC.skip (by kernel_rfl) ?_
        refine At.go ?_
        refine WC.seq (by kernel_rfl) ?_
        refine WC.reg [0, 1, 2, 3, 4, 5, 6] (by kernel_rfl) (by kernel_rfl) ?_
        refine WR.runk [0, 1, 2] [3, 4, 5, 6] [2, 19, 21] (L' := [(2, .int .i64 (wi (0 + 16))), (19, .int .i64 (wi (0 + 16))), (21, .int .u8 (IntKind.wrap .u8 (ishr .u64 a0 16)))]) (w' := w0) (by kernel_rfl) ?_
        obtain ⟨v17, e18, H⟩ := bind_ex H
        refine WR.st (St.ofP (PSt.chr (k := .u8) (t := 9) (.const (.string ⟨#[0, 1, 2, 2, 3, 3, 3, 3, 4, 4, 4, 4, 4, 4, 4, 4, 5, 5, 5, 5, 5, 5, 5, 5, 5, 5, 5, 5, 5, 5, 5, 5, 6, 6, 6, 6, 6, 6, 6, 6, 6, 6, 6, 6, 6, 6, 6, 6, 6, 6, 6, 6, 6, 6, 6, 6, 6, 6, 6, 6, 6, 6, 6, 6, 7, 7, 7, 7, 7, 7, 7, 7, 7, 7, 7, 7, 7, 7, 7, 7, 7, 7, 7, 7, 7, 7, 7, 7, 7, 7, 7, 7, 7, 7, 7, 7, 7, 7, 7, 7, 7, 7, 7, 7, 7, 7, 7, 7, 7, 7, 7, 7, 7, 7, 7, 7, 7, 7, 7, 7, 7, 7, 7, 7, 7, 7, 7, 7, 8, 8, 8, 8, 8, 8, 8, 8, 8, 8, 8, 8, 8, 8, 8, 8, 8, 8, 8, 8, 8, 8, 8, 8, 8, 8, 8, 8, 8, 8, 8, 8, 8, 8, 8, 8, 8, 8, 8, 8, 8, 8, 8, 8, 8, 8, 8, 8, 8, 8, 8, 8, 8, 8, 8, 8, 8, 8, 8, 8, 8, 8, 8, 8, 8, 8, 8, 8, 8, 8, 8, 8, 8, 8, 8, 8, 8, 8, 8, 8, 8, 8, 8, 8, 8, 8, 8, 8, 8, 8, 8, 8, 8, 8, 8, 8, 8, 8, 8, 8, 8, 8, 8, 8, 8, 8, 8, 8, 8, 8, 8, 8, 8, 8, 8, 8, 8, 8, 8, 8, 8, 8, 8, 8, 8, 8, 8, 8]⟩)) (.tmp 21) (by kernel_rfl) (by kernel_rfl) (by kernel_rfl) (by kernel_rfl) (by kernel_rfl) e18 ?_))
        refine WR.runk [4, 5, 6] [] [2] (L' := [(2, .int .i64 (wi ((wi (0 + 16)) + (wi v17))))]) (w' := w0) (by kernel_rfl) ?_
        refine WR.nil ?_
        refine At.go ?_
        refine WC.ret (by kernel_rfl) ?_
        obtain rfl := Option.some.inj H
        have hS : Sat w0 (rf w0) [] := hS.sel [] (by kernel_rfl)
        exact At.body [.int .i64 (wi ((wi (0 + 16)) + (wi v17)))] (by kernel_rfl) ⟨_, rfl, rfl, hS⟩
    · replace H := ite_f H hb13
      refine WC.skip (by kernel_rfl) ?_
      refine At.go ?_
      refine WC.seq (by kernel_rfl) ?_
      refine WC.seq (by kernel_rfl) ?_
      refine WC.reg [0, 1] (by kernel_rfl) (by kernel_rfl) ?_
      refine WR.runk [0, 1] [] [0, 2, 14] (L' := [(0, .int .u64 a0), (2, .int .i64 0), (14, .bool (decide (a0 ≥ 256)))]) (w' := w0) (by kernel_rfl) ?_
      refine WR.nil ?_
      refine At.go ?_
      refine WC.cond (by kernel_rfl) (decide (a0 ≥ 256)) (by kernel_rfl) (by kernel_rfl) (fun hb19 => ?_) (fun hb19 => ?_)
      · replace H := ite_t H hb19
        refine WC.seq (by kernel_rfl) ?_
        refine WC.reg [0, 1, 2] (by kernel_rfl) (by kernel_rfl) ?_
        refine WR.runk [0, 1, 2] [] [0, 2] (L' := [(0, .int .u64 (ishr .u64 a0 8)), (2, .int .i64 0)]) (w' := w0) (by kernel_rfl) ?_
        refine WR.nil ?_
        refine At.go ?_
        refine WC.reg [0, 1, 2] (by kernel_rfl) (by kernel_rfl) ?_
        refine WR.runk [0, 1, 2] [] [0, 2] (L' := [(0, .int .u64 (ishr .u64 a0 8)), (2, .int .i64 (wi (0 + 8)))]) (w' := w0) (by kernel_rfl) ?_
        refine WR.nil ?_
        refine At.go ?_
        refine WC.seq (by kernel_rfl) ?_
        refine WC.reg [0, 1, 2, 3, 4, 5, 6] (by kernel_rfl) (by kernel_rfl) ?_
        refine WR.runk [0, 1, 2] [3, 4, 5, 6] [2, 19, 21] (L' := [(2, .int .i64 (wi (0 + 8))), (19, .int .i64 (wi (0 + 8))), (21, .int .u8 (IntKind.wrap .u8 (ishr .u64 a0 8)))]) (w' := w0) (by kernel_rfl) ?_
        obtain ⟨v20, e21, H⟩ := bind_ex H
        refine WR.st (St.ofP (PSt.chr (k := .u8) (t := 9) (.const (.string ⟨#[0, 1, 2, 2, 3, 3, 3, 3, 4, 4, 4, 4, 4, 4, 4, 4, 5, 5, 5, 5, 5, 5, 5, 5, 5, 5, 5, 5, 5, 5, 5, 5, 6, 6, 6, 6, 6, 6, 6, 6, 6, 6, 6, 6, 6, 6, 6, 6, 6, 6, 6, 6, 6, 6, 6, 6, 6, 6, 6, 6, 6, 6, 6, 6, 7, 7, 7, 7, 7, 7, 7, 7, 7, 7, 7, 7, 7, 7, 7, 7, 7, 7, 7, 7, 7, 7, 7, 7, 7, 7, 7, 7, 7, 7, 7, 7, 7, 7, 7, 7, 7, 7, 7, 7, 7, 7, 7, 7, 7, 7, 7, 7, 7, 7, 7, 7, 7, 7, 7, 7, 7, 7, 7, 7, 7, 7, 7, 7, 8, 8, 8, 8, 8, 8, 8, 8, 8, 8, 8, 8, 8, 8, 8, 8, 8, 8, 8, 8, 8, 8, 8, 8, 8, 8, 8, 8, 8, 8, 8, 8, 8, 8, 8, 8, 8, 8, 8, 8, 8, 8, 8, 8, 8, 8, 8, 8, 8, 8, 8, 8, 8, 8, 8, 8, 8, 8, 8, 8, 8, 8, 8, 8, 8, 8, 8, 8, 8, 8, 8, 8, 8, 8, 8, 8, 8, 8, 8, 8, 8, 8, 8, 8, 8, 8, 8, 8, 8, 8, 8, 8, 8, 8, 8, 8, 8, 8, 8, 8, 8, 8, 8, 8, 8, 8, 8, 8, 8, 8, 8, 8, 8, 8, 8, 8, 8, 8, 8, 8, 8, 8, 8, 8, 8, 8, 8, 8]⟩)) (.tmp 21) (by kernel_rfl) (by kernel_rfl) (by kernel_rfl) (by kernel_rfl) (by kernel_rfl) e21 ?_))
        refine WR.runk [4, 5, 6] [] [2] (L' := [(2, .int .i64 (wi ((wi (0 + 8)) + (wi v20))))]) (w' := w0) (by kernel_rfl) ?_
        refine WR.nil ?_
        refine At.go ?_
        refine WC.ret (by kernel_rfl) ?_
        obtain rfl := Option.some.inj H
        have hS : Sat w0 (rf w0) [] := hS.sel [] (by kernel_rfl)
        exact At.body [.int .i64 (wi ((wi (0 + 8)) + (wi v20)))] (by kernel_rfl) ⟨_, rfl, rfl, hS⟩
      · replace H := ite_f H hb19
        refine WC.skip (by kernel_rfl) ?_
        refine At.go ?_
        refine WC.seq (by kernel_rfl) ?_
        refine WC.reg [0, 1, 2, 3, 4, 5, 6] (by kernel_rfl) (by kernel_rfl) ?_
        refine WR.runk [0, 1, 2] [3, 4, 5, 6] [2, 19, 21] (L' := [(2, .int .i64 0), (19, .int .i64 0), (21, .int .u8 (IntKind.wrap .u8 a0))]) (w' := w0) (by kernel_rfl) ?_
        obtain ⟨v22, e23, H⟩ := bind_ex H
        refine WR.st (St.ofP (PSt.chr (k := .u8) (t := 9) (.const (.string ⟨#[0, 1, 2, 2, 3, 3, 3, 3, 4, 4, 4, 4, 4, 4, 4, 4, 5, 5, 5, 5, 5, 5, 5, 5, 5, 5, 5, 5, 5, 5, 5, 5, 6, 6, 6, 6, 6, 6, 6, 6, 6, 6, 6, 6, 6, 6, 6, 6, 6, 6, 6, 6, 6, 6, 6, 6, 6, 6, 6, 6, 6, 6, 6, 6, 7, 7, 7, 7, 7, 7, 7, 7, 7, 7, 7, 7, 7, 7, 7, 7, 7, 7, 7, 7, 7, 7, 7, 7, 7, 7, 7, 7, 7, 7, 7, 7, 7, 7, 7, 7, 7, 7, 7, 7, 7, 7, 7, 7, 7, 7, 7, 7, 7, 7, 7, 7, 7, 7, 7, 7, 7, 7, 7, 7, 7, 7, 7, 7, 8, 8, 8, 8, 8, 8, 8, 8, 8, 8, 8, 8, 8, 8, 8, 8, 8, 8, 8, 8, 8, 8, 8, 8, 8, 8, 8, 8, 8, 8, 8, 8, 8, 8, 8, 8, 8, 8, 8, 8, 8, 8, 8, 8, 8, 8, 8, 8, 8, 8, 8, 8, 8, 8, 8, 8, 8, 8, 8, 8, 8, 8, 8, 8, 8, 8, 8, 8, 8, 8, 8, 8, 8, 8, 8, 8, 8, 8, 8, 8, 8, 8, 8, 8, 8, 8, 8, 8, 8, 8, 8, 8, 8, 8, 8, 8, 8, 8, 8, 8, 8, 8, 8, 8, 8, 8, 8, 8, 8, 8, 8, 8, 8, 8, 8, 8, 8, 8, 8, 8, 8, 8, 8, 8, 8, 8, 8, 8]⟩)) (.tmp 21) (by kernel_rfl) (by kernel_rfl) (by kernel_rfl) (by kernel_rfl) (by kernel_rfl) e23 ?_))
        refine WR.runk [4, 5, 6] [] [2] (L' := [(2, .int .i64 (wi (0 + (wi v22))))]) (w' := w0) (by kernel_rfl) ?_
        refine WR.nil ?_
        refine At.go ?_
        refine WC.ret (by kernel_rfl) ?_
        obtain rfl := Option.some.inj H
        have hS : Sat w0 (rf w0) [] := hS.sel [] (by kernel_rfl)
        exact At.body [.int .i64 (wi (0 + (wi v22)))] (by kernel_rfl) ⟨_, rfl, rfl, hS⟩
/-! ### 33 colophon/pack.Width -/
def pack_Width.f (a0 : Int) : Option Int := ((bits_Len64.f a0).bind fun r1 => some (imax 1 r1))
def pack_Width.post (w : World) (r : Int) (v : Value) (w' : World) : Prop := v = (.int .i64 r : Value) ∧ Sat w' (rf w) []
theorem pack_Width.calls (w0 : World) (a0 : Int) (r : Int) (H : pack_Width.f a0 = some r) :
    Calls Try.prog 33 #[.int .u64 a0] w0 (fun e w' => ∃ v, e = .returned v ∧ pack_Width.post w0 r v w') := by
  have hS : Sat w0 (rf w0) [] := Sat.start w0
  unfold pack_Width.f at H
  refine calls_of_WC (vs := [.int .u64 a0]) Try.func33 (c := C33) (n := 6) (by kernel_rfl) (by kernel_rfl) (by kernel_rfl) ?_
  refine WC.seq (by kernel_rfl) ?_
  refine WC.reg [0] (by kernel_rfl) (by kernel_rfl) ?_
  refine WR.runk [0] [] [0] (L' := [(0, .int .u64 a0)]) (w' := w0) (by kernel_rfl) ?_
  refine WR.nil ?_
  refine At.go ?_
  refine WC.seq (by kernel_rfl) ?_
  refine WC.reg [0, 1, 2, 3] (by kernel_rfl) (by kernel_rfl) ?_
  refine WR.runk [0] [1, 2, 3] [3] (L' := [(3, .int .u64 a0)]) (w' := w0) (by kernel_rfl) ?_
  obtain ⟨r1, e2, H⟩ := bind_ex H
  refine WR.st (St.call (by kernel_rfl) (f := 43) (args := #[.int .u64 a0]) (by kernel_rfl) (bits_Len64.calls w0 a0 r1 e2) ?_)
  rintro _ w8 ⟨rfl, hS9⟩
  have hS : Sat w8 (rf w0) [] := hS.ext hS9
  refine WR.runk [2, 3] [] [2] (L' := [(2, .int .i64 (imax 1 r1))]) (w' := w8) (by kernel_rfl) ?_
  refine WR.nil ?_
  refine At.go ?_
  refine WC.ret (by kernel_rfl) ?_
  obtain rfl := Option.some.inj H
  have hS : Sat w8 (rf w0) [] := hS.sel [] (by kernel_rfl)
  exact At.body [.int .i64 (imax 1 r1)] (by kernel_rfl) ⟨_, rfl, rfl, hS⟩
/-! ### 21 colophon/sparse.shape -/
def sparse_shape.f (a0 : Int) (a1 : Int) : Option (Int × Int) := (if (a1 == 0) then some (0, 0) else ((chk? (decide (a1 ≠ 0))).bind fun _ => ((pack_Width.f (IntKind.wrap .u64 (wi (Int.tdiv a0 a1)))).bind fun r3 => ((chk? (decide (0 ≤ (wi (r3 - 1))))).bind fun _ => some (wi (r3 - 1), wi ((wi (a1 + (ishr .i64 (wi (a0 - 1)) (wi (r3 - 1))))) + 1))))))
def sparse_shape.post (w : World) (r : Int × Int) (v : Value) (w' : World) : Prop := v = .tuple #[.int .i64 r.1, .int .i64 r.2] ∧ Sat w' (rf w) []
theorem sparse_shape.calls (w0 : World) (a0 : Int) (a1 : Int) (r : Int × Int) (H : sparse_shape.f a0 a1 = some r) :
    Calls Try.prog 21 #[.int .i64 a0, .int .i64 a1] w0 (fun e w' => ∃ v, e = .returned v ∧ sparse_shape.post w0 r v w') := by
  have hS : Sat w0 (rf w0) [] := Sat.start w0
  unfold sparse_shape.f at H
  refine calls_of_WC (vs := [.int .i64 a0, .int .i64 a1]) Try.func21 (c := C21) (n := 23) (by kernel_rfl) (by kernel_rfl) (by kernel_rfl) ?_
  refine WC.seq (by kernel_rfl) ?_
  refine WC.reg [0, 1] (by kernel_rfl) (by kernel_rfl) ?_
  refine WR.runk [0, 1] [] [0, 1] (L' := [(0, .int .i64 a0), (1, .int .i64 a1)]) (w' := w0) (by kernel_rfl) ?_
  refine WR.nil ?_
  refine At.go ?_
  refine WC.seq (by kernel_rfl) ?_
  refine WC.seq (by kernel_rfl) ?_
  refine WC.reg [0, 1] (by kernel_rfl) (by kernel_rfl) ?_
  refine WR.runk [0, 1] [] [0, 1, 8] (L' := [(0, .int .i64 a0), (1, .int .i64 a1), (8, .bool (a1 == 0))]) (w' := w0) (by kernel_rfl) ?_
  refine WR.nil ?_
  refine At.go ?_
  refine WC.cond (by kernel_rfl) (a1 == 0) (by kernel_rfl) (by kernel_rfl) (fun hb1 => ?_) (fun hb1 => ?_)
  · replace H := ite_t H hb1
    refine WC.seq (by kernel_rfl) ?_
    refine WC.reg [0, 1] (by kernel_rfl) (by kernel_rfl) ?_
    refine WR.runk [0, 1] [] [4, 5] (L' := [(4, .int .i64 0), (5, .int .i64 0)]) (w' := w0) (by kernel_rfl) ?_
    refine WR.nil ?_
    refine At.go ?_
    refine WC.ret (by kernel_rfl) ?_
    refine At.thenRet ?_
    obtain rfl := Option.some.inj H
    have hS : Sat w0 (rf w0) [] := hS.sel [] (by kernel_rfl)
    exact At.body [.int .i64 0, .int .i64 0] (by kernel_rfl) ⟨_, rfl, rfl, hS⟩
  · replace H := ite_f H hb1
    refine WC.skip (by kernel_rfl) ?_
    refine At.go ?_
    refine WC.seq (by kernel_rfl) ?_
    refine WC.reg [0, 1, 2, 3, 4, 5, 6] (by kernel_rfl) (by kernel_rfl) ?_
    refine WR.runk [0, 1] [2, 3, 4, 5, 6] [0, 1, 9, 10] (L' := [(0, .int .i64 a0), (1, .int .i64 a1), (9, .int .i64 a0), (10, .int .i64 a1)]) (w' := w0) (by kernel_rfl) ?_
    obtain ⟨_, e2, H⟩ := bind_ex H
    refine WR.st (St.ofP (PSt.div (k := .i64) (t := 3) (t2 := 3) (a := a0) (b := a1) .quo (by decide) (.tmp 9) (.tmp 10) (by kernel_rfl) (by kernel_rfl) (by kernel_rfl) (by kernel_rfl) (of_decide_eq_true (chk?_some e2)) ?_))
    refine WR.runk [3] [4, 5, 6] [0, 1, 12] (L' := [(0, .int .i64 a0), (1, .int .i64 a1), (12, .int .u64 (IntKind.wrap .u64 (wi (Int.tdiv a0 a1))))]) (w' := w0) (by kernel_rfl) ?_
    obtain ⟨r3, e4, H⟩ := bind_ex H
    refine WR.st (St.call (by kernel_rfl) (f := 33) (args := #[.int .u64 (IntKind.wrap .u64 (wi (Int.tdiv a0 a1)))]) (by kernel_rfl) (pack_Width.calls w0 (IntKind.wrap .u64 (wi (Int.tdiv a0 a1))) r3 e4) ?_)
    rintro _ w10 ⟨rfl, hS11⟩
    have hS : Sat w10 (rf w0) [] := hS.ext hS11
    refine WR.runk [5, 6] [] [0, 1, 6] (L' := [(0, .int .i64 a0), (1, .int .i64 a1), (6, .int .i64 (wi (r3 - 1)))]) (w' := w10) (by kernel_rfl) ?_
    refine WR.nil ?_
    refine At.go ?_
    refine WC.seq (by kernel_rfl) ?_
    refine WC.drawn (by kernel_rfl) (by kernel_rfl) 10 (by kernel_rfl) (fun w12 hw13 => ?_)
    have hS := hS.heap hw13.1 hw13.2
    refine WD.weaken [0, 1, 6] (L' := [(0, .int .i64 a0), (1, .int .i64 a1), (6, .int .i64 (wi (r3 - 1)))]) (by kernel_rfl) ?_
    refine WD.pure (i := 0) (v := .int .i64 (wi (r3 - 1))) (by kernel_rfl) (by kernel_rfl) (fun _ => by kernel_rfl) ?_
    refine WD.weaken [0, 1, 6, 15] (L' := [(0, .int .i64 a0), (1, .int .i64 a1), (6, .int .i64 (wi (r3 - 1))), (15, .int .i64 (wi (r3 - 1)))]) (by kernel_rfl) ?_
    refine WD.pure (i := 1) (v := .int .i64 a1) (by kernel_rfl) (by kernel_rfl) (fun _ => by kernel_rfl) ?_
    refine WD.weaken [0, 6, 15, 16] (L' := [(0, .int .i64 a0), (6, .int .i64 (wi (r3 - 1))), (15, .int .i64 (wi (r3 - 1))), (16, .int .i64 a1)]) (by kernel_rfl) ?_
    refine WD.pure (i := 2) (v := .int .i64 a0) (by kernel_rfl) (by kernel_rfl) (fun _ => by kernel_rfl) ?_
    refine WD.weaken [6, 15, 16, 17] (L' := [(6, .int .i64 (wi (r3 - 1))), (15, .int .i64 (wi (r3 - 1))), (16, .int .i64 a1), (17, .int .i64 a0)]) (by kernel_rfl) ?_
    refine WD.pure (i := 3) (v := .int .i64 (wi (a0 - 1))) (by kernel_rfl) (by kernel_rfl) (fun _ => by kernel_rfl) ?_
    refine WD.weaken [6, 15, 16, 18] (L' := [(6, .int .i64 (wi (r3 - 1))), (15, .int .i64 (wi (r3 - 1))), (16, .int .i64 a1), (18, .int .i64 (wi (a0 - 1)))]) (by kernel_rfl) ?_
    refine WD.pure (i := 4) (v := .int .i64 (wi (r3 - 1))) (by kernel_rfl) (by kernel_rfl) (fun _ => by kernel_rfl) ?_
    refine WD.weaken [15, 16, 18, 19] (L' := [(15, .int .i64 (wi (r3 - 1))), (16, .int .i64 a1), (18, .int .i64 (wi (a0 - 1))), (19, .int .i64 (wi (r3 - 1)))]) (by kernel_rfl) ?_
    obtain ⟨_, e14, H⟩ := bind_ex H
    refine WD.ofP (i := 5) (by kernel_rfl) (PSt.shift (k := .i64) (k2 := .i64) (t := 3) (t2 := 3) (a := (wi (a0 - 1))) (b := (wi (r3 - 1))) .shr (by decide) (.tmp 18) (.tmp 19) (by kernel_rfl) (by kernel_rfl) (by kernel_rfl) (by kernel_rfl) (of_decide_eq_true (chk?_some e14)) ?_)
    refine WD.weaken [15, 16, 20] (L' := [(15, .int .i64 (wi (r3 - 1))), (16, .int .i64 a1), (20, .int .i64 (ishr .i64 (wi (a0 - 1)) (wi (r3 - 1))))]) (by kernel_rfl) ?_
    refine WD.pure (i := 6) (v := .int .i64 (wi (a1 + (ishr .i64 (wi (a0 - 1)) (wi (r3 - 1)))))) (by kernel_rfl) (by kernel_rfl) (fun _ => by kernel_rfl) ?_
    refine WD.weaken [15, 21] (L' := [(15, .int .i64 (wi (r3 - 1))), (21, .int .i64 (wi (a1 + (ishr .i64 (wi (a0 - 1)) (wi (r3 - 1))))))]) (by kernel_rfl) ?_
    refine WD.pure (i := 7) (v := .int .i64 (wi ((wi (a1 + (ishr .i64 (wi (a0 - 1)) (wi (r3 - 1))))) + 1))) (by kernel_rfl) (by kernel_rfl) (fun _ => by kernel_rfl) ?_
    refine WD.weaken [15, 22] (L' := [(15, .int .i64 (wi (r3 - 1))), (22, .int .i64 (wi ((wi (a1 + (ishr .i64 (wi (a0 - 1)) (wi (r3 - 1))))) + 1)))]) (by kernel_rfl) ?_
    refine WD.pure (i := 8) (v := .int .i64 (wi (r3 - 1))) (by kernel_rfl) (by kernel_rfl) (fun _ => by kernel_rfl) ?_
    refine WD.weaken [4, 22] (L' := [(4, .int .i64 (wi (r3 - 1))), (22, .int .i64 (wi ((wi (a1 + (ishr .i64 (wi (a0 - 1)) (wi (r3 - 1))))) + 1)))]) (by kernel_rfl) ?_
    refine WD.pure (i := 9) (v := .int .i64 (wi ((wi (a1 + (ishr .i64 (wi (a0 - 1)) (wi (r3 - 1))))) + 1))) (by kernel_rfl) (by kernel_rfl) (fun _ => by kernel_rfl) ?_
    refine WD.weaken [4, 5] (L' := [(4, .int .i64 (wi (r3 - 1))), (5, .int .i64 (wi ((wi (a1 + (ishr .i64 (wi (a0 - 1)) (wi (r3 - 1))))) + 1)))]) (by kernel_rfl) ?_
    refine WD.nil (by kernel_rfl) ?_
    refine At.go ?_
    refine WC.ret (by kernel_rfl) ?_
    obtain rfl := Option.some.inj H
    have hS : Sat w12 (rf w0) [] := hS.sel [] (by kernel_rfl)
    exact At.body [.int .i64 (wi (r3 - 1)), .int .i64 (wi ((wi (a1 + (ishr .i64 (wi (a0 - 1)) (wi (r3 - 1))))) + 1))] (by kernel_rfl) ⟨_, rfl, rfl, hS⟩
/-! ### 34 colophon/pack.need -/
def pack_need.f (a0 : Int) (a1 : Int) : Option Int := some (wi (Int.tdiv (wi ((wi (a0 * a1)) + 63)) 64))
def pack_need.post (w : World) (r : Int) (v : Value) (w' : World) : Prop := v = (.int .i64 r : Value) ∧ Sat w' (rf w) []
theorem pack_need.calls (w0 : World) (a0 : Int) (a1 : Int) (r : Int) (H : pack_need.f a0 a1 = some r) :
    Calls Try.prog 34 #[.int .i64 a0, .int .i64 a1] w0 (fun e w' => ∃ v, e = .returned v ∧ pack_need.post w0 r v w') := by
  have hS : Sat w0 (rf w0) [] := Sat.start w0
  unfold pack_need.f at H
  refine calls_of_WC (vs := [.int .i64 a0, .int .i64 a1]) Try.func34 (c := C34) (n := 10) (by kernel_rfl) (by kernel_rfl) (by kernel_rfl) ?_
  refine WC.seq (by kernel_rfl) ?_
  refine WC.reg [0] (by kernel_rfl) (by kernel_rfl) ?_
  refine WR.runk [0] [] [0, 1] (L' := [(0, .int .i64 a0), (1, .int .i64 a1)]) (w' := w0) (by kernel_rfl) ?_
  refine WR.nil ?_
  refine At.go ?_
  refine WC.seq (by kernel_rfl) ?_
  refine WC.reg [0, 1, 2, 3, 4, 5] (by kernel_rfl) (by kernel_rfl) ?_
  refine WR.runk [0, 1, 2, 3, 4, 5] [] [4] (L' := [(4, .int .i64 (wi (Int.tdiv (wi ((wi (a0 * a1)) + 63)) 64)))]) (w' := w0) (by kernel_rfl) ?_
  refine WR.nil ?_
  refine At.go ?_
  refine WC.ret (by kernel_rfl) ?_
  obtain rfl := Option.some.inj H
  have hS : Sat w0 (rf w0) [] := hS.sel [] (by kernel_rfl)
  exact At.body [.int .i64 (wi (Int.tdiv (wi ((wi (a0 * a1)) + 63)) 64))] (by kernel_rfl) ⟨_, rfl, rfl, hS⟩
/-! ### 22 colophon/pack.New -/
def pack_New.f (a0 : Int) (a1 : Int) : Option ((Option (Int × Int × (List Int))) × Int) := (if decide (a0 < 1) then some (none, 2) else (if decide (a0 > 64) then some (none, 2) else (if decide (a1 < 0) then some (none, 2) else (if decide (a1 > 4194304) then some (none, 2) else ((pack_need.f a0 a1).bind fun r5 => ((make? 17592186044416 0 r5).bind fun y14 => some (some (a0, a1, y14), 0)))))))
def pack_New.post (w : World) (r : (Option (Int × Int × (List Int))) × Int) (v : Value) (w' : World) : Prop := ∃ (v0 : Value), v = .tuple #[v0, .int .i64 r.2] ∧ Sat w' (rf w) [optP O66 v0 r.1]
theorem pack_New.calls (w0 : World) (a0 : Int) (a1 : Int) (r : (Option (Int × Int × (List Int))) × Int) (H : pack_New.f a0 a1 = some r) :
    Calls Try.prog 22 #[.int .i64 a0, .int .i64 a1] w0 (fun e w' => ∃ v, e = .returned v ∧ pack_New.post w0 r v w') := by
  have hS : Sat w0 (rf w0) [] := Sat.start w0
  unfold pack_New.f at H
  refine calls_of_WC (vs := [.int .i64 a0, .int .i64 a1]) Try.func22 (c := C22) (n := 28) (by kernel_rfl) (by kernel_rfl) (by kernel_rfl) ?_
  refine WC.seq (by kernel_rfl) ?_
  refine WC.reg [0, 1] (by kernel_rfl) (by kernel_rfl) ?_
  refine WR.runk [0, 1] [] [0, 1] (L' := [(0, .int .i64 a0), (1, .int .i64 a1)]) (w' := w0) (by kernel_rfl) ?_
  refine WR.nil ?_
  refine At.go ?_
  refine WC.seq (by kernel_rfl) ?_
  refine WC.seq (by kernel_rfl) ?_
  refine WC.reg [0, 1, 2, 3, 4, 5, 6, 7, 8, 9, 10, 11, 12, 13] (by kernel_rfl) (by kernel_rfl) ?_
  refine WR.runk [0, 1, 2] [3, 4, 5, 6, 7, 8, 9, 10, 11, 12, 13] [0, 1, 8] (L' := [(0, .int .i64 a0), (1, .int .i64 a1), (8, .bool (decide (a0 < 1)))]) (w' := w0) (by kernel_rfl) ?_
  refine WR.split 8 (b := decide (a0 < 1)) (by kernel_rfl) (fun hb1 => ?_) (fun hb1 => ?_)
  · replace H := ite_t H hb1
    refine WR.runk [3, 4, 5, 6, 7, 8, 9, 10, 11, 12, 13] [] [0, 1, 19] (L' := [(0, .int .i64 a0), (1, .int .i64 a1), (19, .bool true)]) (w' := w0) (by kernel_rfl) ?_
    refine WR.nil ?_
    refine At.go ?_
    refine WC.condT (by kernel_rfl) (by kernel_rfl) (by kernel_rfl) ?_
    refine WC.seq (by kernel_rfl) ?_
    refine WC.reg [0, 1] (by kernel_rfl) (by kernel_rfl) ?_
    refine WR.runk [0, 1] [] [4, 5] (L' := [(4, .pointer none), (5, .int .i64 2)]) (w' := w0) (by kernel_rfl) ?_
    refine WR.nil ?_
    refine At.go ?_
    refine WC.ret (by kernel_rfl) ?_
    refine At.thenRet ?_
    obtain rfl := Option.some.inj H
    have hS := optP.nil (O := O66) hS
    have hS : Sat w0 (rf w0) [optP O66 (.pointer none) none] := hS.sel [0] (by kernel_rfl)
    exact At.body [.pointer none, .int .i64 2] (by kernel_rfl) ⟨_, rfl, _, rfl, hS⟩
  · replace H := ite_f H hb1
    refine WR.runk [3, 4, 5, 6] [7, 8, 9, 10, 11, 12, 13] [0, 1, 12] (L' := [(0, .int .i64 a0), (1, .int .i64 a1), (12, .bool (decide (a0 > 64)))]) (w' := w0) (by kernel_rfl) ?_
    refine WR.split 12 (b := decide (a0 > 64)) (by kernel_rfl) (fun hb2 => ?_) (fun hb2 => ?_)
    · replace H := ite_t H hb2
      refine WR.runk [7, 8, 9, 10, 11, 12, 13] [] [0, 1, 19] (L' := [(0, .int .i64 a0), (1, .int .i64 a1), (19, .bool true)]) (w' := w0) (by kernel_rfl) ?_
      refine WR.nil ?_
      refine At.go ?_
      refine WC.condT (by kernel_rfl) (by kernel_rfl) (by kernel_rfl) ?_
      refine WC.seq (by kernel_rfl) ?_
      refine WC.reg [0, 1] (by kernel_rfl) (by kernel_rfl) ?_
      refine WR.runk [0, 1] [] [4, 5] (L' := [(4, .pointer none), (5, .int .i64 2)]) (w' := w0) (by kernel_rfl) ?_
      refine WR.nil ?_
      refine At.go ?_
      refine WC.ret (by kernel_rfl) ?_
      refine At.thenRet ?_
      obtain rfl := Option.some.inj H
      have hS := optP.nil (O := O66) hS
      have hS : Sat w0 (rf w0) [optP O66 (.pointer none) none] := hS.sel [0] (by kernel_rfl)
      exact At.body [.pointer none, .int .i64 2] (by kernel_rfl) ⟨_, rfl, _, rfl, hS⟩
    · replace H := ite_f H hb2
      refine WR.runk [7, 8, 9, 10] [11, 12, 13] [0, 1, 16] (L' := [(0, .int .i64 a0), (1, .int .i64 a1), (16, .bool (decide (a1 < 0)))]) (w' := w0) (by kernel_rfl) ?_
      refine WR.split 16 (b := decide (a1 < 0)) (by kernel_rfl) (fun hb3 => ?_) (fun hb3 => ?_)
      · replace H := ite_t H hb3
        refine WR.runk [11, 12, 13] [] [0, 1, 19] (L' := [(0, .int .i64 a0), (1, .int .i64 a1), (19, .bool true)]) (w' := w0) (by kernel_rfl) ?_
        refine WR.nil ?_
        refine At.go ?_
        refine WC.condT (by kernel_rfl) (by kernel_rfl) (by kernel_rfl) ?_
        refine WC.seq (by kernel_rfl) ?_
        refine WC.reg [0, 1] (by kernel_rfl) (by kernel_rfl) ?_
        refine WR.runk [0, 1] [] [4, 5] (L' := [(4, .pointer none), (5, .int .i64 2)]) (w' := w0) (by kernel_rfl) ?_
        refine WR.nil ?_
        refine At.go ?_
        refine WC.ret (by kernel_rfl) ?_
        refine At.thenRet ?_
        obtain rfl := Option.some.inj H
        have hS := optP.nil (O := O66) hS
        have hS : Sat w0 (rf w0) [optP O66 (.pointer none) none] := hS.sel [0] (by kernel_rfl)
        exact At.body [.pointer none, .int .i64 2] (by kernel_rfl) ⟨_, rfl, _, rfl, hS⟩
      · replace H := ite_f H hb3
        refine WR.runk [11, 12, 13] [] [0, 1, 19] (L' := [(0, .int .i64 a0), (1, .int .i64 a1), (19, .bool (decide (a1 > 4194304)))]) (w' := w0) (by kernel_rfl) ?_
        refine WR.nil ?_
        refine At.go ?_
        refine WC.cond (by kernel_rfl) (decide (a1 > 4194304)) (by kernel_rfl) (by kernel_rfl) (fun hb4 => ?_) (fun hb4 => ?_)
        · replace H := ite_t H hb4
          refine WC.seq (by kernel_rfl) ?_
          refine WC.reg [0, 1] (by kernel_rfl) (by kernel_rfl) ?_
          refine WR.runk [0, 1] [] [4, 5] (L' := [(4, .pointer none), (5, .int .i64 2)]) (w' := w0) (by kernel_rfl) ?_
          refine WR.nil ?_
          refine At.go ?_
          refine WC.ret (by kernel_rfl) ?_
          refine At.thenRet ?_
          obtain rfl := Option.some.inj H
          have hS := optP.nil (O := O66) hS
          have hS : Sat w0 (rf w0) [optP O66 (.pointer none) none] := hS.sel [0] (by kernel_rfl)
          exact At.body [.pointer none, .int .i64 2] (by kernel_rfl) ⟨_, rfl, _, rfl, hS⟩
        · replace H := ite_f H hb4
          refine WC.skip (by kernel_rfl) ?_
          refine At.go ?_
          refine WC.seq (by kernel_rfl) ?_
          refine WC.reg [0, 1, 2, 3, 4, 5, 6, 7, 8, 9] (by kernel_rfl) (by kernel_rfl) ?_
          refine WR.runk [0, 1, 2, 3] [4, 5, 6, 7, 8, 9] [20, 21, 22, 23] (L' := [(20, .int .i64 a0), (21, .int .i64 a1), (22, .int .i64 a0), (23, .int .i64 a1)]) (w' := w0) (by kernel_rfl) ?_
          obtain ⟨r5, e6, H⟩ := bind_ex H
          refine WR.st (St.call (by kernel_rfl) (f := 34) (args := #[.int .i64 a0, .int .i64 a1]) (by kernel_rfl) (pack_need.calls w0 a0 a1 r5 e6) ?_)
          rintro _ w12 ⟨rfl, hS13⟩
          have hS : Sat w12 (rf w0) [] := hS.ext hS13
          refine WR.runk [] [5, 6, 7, 8, 9] [20, 21, 24] (L' := [(20, .int .i64 a0), (21, .int .i64 a1), (24, .int .i64 r5)]) (w' := w12) (by kernel_rfl) ?_
          obtain ⟨y14, e15, H⟩ := bind_ex H
          refine WR.st (St.make' (t := 35) (e := 43) (sz := 1) (bytes := 8) (k1 := .i64) (k2 := .i64) (R := (r0 (.int .u64))) (.tmp 24) (.tmp 24) (by kernel_rfl) (by kernel_rfl) (.int .u64 0) (by kernel_rfl) (by kernel_rfl) rfl (by kernel_rfl) hS (by kernel_rfl) (by kernel_rfl) 17592186044416 (by kernel_rfl) (by kernel_rfl) e15 (fun A16 c17 w18 hS => ?_))
          refine WR.runk [6] [7, 8, 9] [26] (L' := [(26, .agg #[.int .i64 a0, .int .i64 a1, .slice A16 y14.length c17])]) (w' := w18) (by kernel_rfl) ?_
          refine WR.st (St.box hS (by kernel_rfl) (.cells #[.int .i64 a0, .int .i64 a1, .slice A16 y14.length c17] 66) (fun b19 => .pointer (some ⟨b19, 0, none⟩)) (fun _ => by kernel_rfl) (fun b19 w20 hS => ?_))
          refine WR.runk [8, 9] [] [4, 5] (L' := [(4, .pointer (some ⟨b19, 0, none⟩)), (5, .int .i64 0)]) (w' := w20) (by kernel_rfl) ?_
          refine WR.nil ?_
          refine At.go ?_
          refine WC.ret (by kernel_rfl) ?_
          obtain rfl := Option.some.inj H
          have hS : Sat w20 (rf w0) [pts b19 (.cells #[.int .i64 a0, .int .i64 a1, .slice A16 y14.length c17] 66 (0, 0)), osl 43 (r0 (.int .u64)) 1 A16 c17 y14] := hS.sel [0, 1] (by kernel_rfl)
          have hS : Sat w20 (rf w0) [O66 b19 (a0, a1, y14)] := O66.close (a0, a1, y14) A16 c17 hS
          have hS : Sat w20 (rf w0) [optP O66 (.pointer (some ⟨b19, 0, none⟩)) (some (a0, a1, y14))] := optP.mk hS
          have hS : Sat w20 (rf w0) [optP O66 (.pointer (some ⟨b19, 0, none⟩)) (some (a0, a1, y14))] := hS.sel [0] (by kernel_rfl)
          exact At.body [.pointer (some ⟨b19, 0, none⟩), .int .i64 0] (by kernel_rfl) ⟨_, rfl, _, rfl, hS⟩
/-! ### 35 colophon/pack.mask -/
def pack_mask.f (a0 : Int) : Option Int := ((chk? (decide (0 ≤ (wi (64 - a0))))).bind fun _ => some (ishr .u64 18446744073709551615 (wi (64 - a0))))
def pack_mask.post (w : World) (r : Int) (v : Value) (w' : World) : Prop := v = (.int .u64 r : Value) ∧ Sat w' (rf w) []
theorem pack_mask.calls (w0 : World) (a0 : Int) (r : Int) (H : pack_mask.f a0 = some r) :
    Calls Try.prog 35 #[.int .i64 a0] w0 (fun e w' => ∃ v, e = .returned v ∧ pack_mask.post w0 r v w') := by
  have hS : Sat w0 (rf w0) [] := Sat.start w0
  unfold pack_mask.f at H
  refine calls_of_WC (vs := [.int .i64 a0]) Try.func35 (c := C35) (n := 6) (by kernel_rfl) (by kernel_rfl) (by kernel_rfl) ?_
  refine WC.seq (by kernel_rfl) ?_
  refine WC.reg [0] (by kernel_rfl) (by kernel_rfl) ?_
  refine WR.runk [0] [] [0] (L' := [(0, .int .i64 a0)]) (w' := w0) (by kernel_rfl) ?_
  refine WR.nil ?_
  refine At.go ?_
  refine WC.seq (by kernel_rfl) ?_
  refine WC.reg [0, 1, 2, 3] (by kernel_rfl) (by kernel_rfl) ?_
  refine WR.runk [0, 1] [2, 3] [4] (L' := [(4, .int .i64 (wi (64 - a0)))]) (w' := w0) (by kernel_rfl) ?_
  obtain ⟨_, e1, H⟩ := bind_ex H
  refine WR.st (St.ofP (PSt.shift (k := .u64) (k2 := .i64) (t := 43) (t2 := 3) (a := 18446744073709551615) (b := (wi (64 - a0))) .shr (by decide) (.const (.int .u64 18446744073709551615)) (.tmp 4) (by kernel_rfl) (by kernel_rfl) (by kernel_rfl) (by kernel_rfl) (of_decide_eq_true (chk?_some e1)) ?_))
  refine WR.runk [3] [] [2] (L' := [(2, .int .u64 (ishr .u64 18446744073709551615 (wi (64 - a0))))]) (w' := w0) (by kernel_rfl) ?_
  refine WR.nil ?_
  refine At.go ?_
  refine WC.ret (by kernel_rfl) ?_
  obtain rfl := Option.some.inj H
  have hS : Sat w0 (rf w0) [] := hS.sel [] (by kernel_rfl)
  exact At.body [.int .u64 (ishr .u64 18446744073709551615 (wi (64 - a0)))] (by kernel_rfl) ⟨_, rfl, rfl, hS⟩
/-! ### 23 (*colophon/pack.Ints).Set -/
def pack_Ints_Set.f (p0 : Int × Int × (List Int)) (a1 : Int) (a2 : Int) : Option (Bool × (Int × Int × (List Int))) := (if decide (a1 < 0) then some (false, p0) else (if decide (a1 ≥ p0.2.1) then some (false, p0) else ((pack_mask.f p0.1).bind fun r5 => (if decide (a2 > r5) then some (false, p0) else ((pack_mask.f p0.1).bind fun r15 => ((at? p0.2.2 (wi (Int.tdiv (wi (a1 * p0.1)) 64))).bind fun v26 => ((chk? (decide (0 ≤ (Int.tmod (wi (a1 * p0.1)) 64)))).bind fun _ => ((chk? (decide (0 ≤ (Int.tmod (wi (a1 * p0.1)) 64)))).bind fun _ => ((set? p0.2.2 (wi (Int.tdiv (wi (a1 * p0.1)) 64)) (ior .u64 (iandn .u64 v26 (ishl .u64 r15 (Int.tmod (wi (a1 * p0.1)) 64))) (ishl .u64 a2 (Int.tmod (wi (a1 * p0.1)) 64)))).bind fun y30 => (if decide (wi ((Int.tmod (wi (a1 * p0.1)) 64) + p0.1) > 64) then ((at? y30 (wi ((wi (Int.tdiv (wi (a1 * p0.1)) 64)) + 1))).bind fun v37 => ((chk? (decide (0 ≤ (wi (64 - (Int.tmod (wi (a1 * p0.1)) 64)))))).bind fun _ => ((chk? (decide (0 ≤ (wi (64 - (Int.tmod (wi (a1 * p0.1)) 64)))))).bind fun _ => ((set? y30 (wi ((wi (Int.tdiv (wi (a1 * p0.1)) 64)) + 1)) (ior .u64 (iandn .u64 v37 (ishr .u64 r15 (wi (64 - (Int.tmod (wi (a1 * p0.1)) 64))))) (ishr .u64 a2 (wi (64 - (Int.tmod (wi (a1 * p0.1)) 64)))))).bind fun y41 => some (true, (p0.1, p0.2.1, y41)))))) else some (true, (p0.1, p0.2.1, y30))))))))))))
def pack_Ints_Set.post (B : Rf) (b0 : Nat) (p0 : Int × Int × (List Int)) (w : World) (r : Bool × (Int × Int × (List Int))) (v : Value) (w' : World) : Prop := v = (.bool r.1 : Value) ∧ Sat w' B [O66 b0 r.2]
theorem pack_Ints_Set.calls (B : Rf) (w0 : World) (b0 : Nat) (p0 : Int × Int × (List Int)) (hS : Sat w0 B [O66 b0 p0]) (a1 : Int) (a2 : Int) (r : Bool × (Int × Int × (List Int))) (H : pack_Ints_Set.f p0 a1 a2 = some r) :
    Calls Try.prog 23 #[.pointer (some ⟨b0, 0, none⟩), .int .i64 a1, .int .u64 a2] w0 (fun e w' => ∃ v, e = .returned v ∧ pack_Ints_Set.post B b0 p0 w0 r v w') := by
  unfold pack_Ints_Set.f at H
  refine calls_of_WC (vs := [.pointer (some ⟨b0, 0, none⟩), .int .i64 a1, .int .u64 a2]) Try.func23 (c := C23) (n := 102) (by kernel_rfl) (by kernel_rfl) (by kernel_rfl) ?_
  refine WC.seq (by kernel_rfl) ?_
  refine WC.reg [0] (by kernel_rfl) (by kernel_rfl) ?_
  refine WR.runk [0] [] [0, 1, 2] (L' := [(0, .pointer (some ⟨b0, 0, none⟩)), (1, .int .i64 a1), (2, .int .u64 a2)]) (w' := w0) (by kernel_rfl) ?_
  refine WR.nil ?_
  refine At.go ?_
  refine WC.seq (by kernel_rfl) ?_
  refine WC.seq (by kernel_rfl) ?_
  refine WC.reg [0, 1, 2, 3, 4, 5, 6, 7, 8, 9, 10, 11, 12, 13, 14, 15, 16, 17, 18, 19, 20, 21, 22] (by kernel_rfl) (by kernel_rfl) ?_
  refine WR.runk [0, 1, 2, 3, 4, 5, 6] [7, 8, 9, 10, 11, 12, 13, 14, 15, 16, 17, 18, 19, 20, 21, 22] [0, 1, 2, 17] (L' := [(0, .pointer (some ⟨b0, 0, none⟩)), (1, .int .i64 a1), (2, .int .u64 a2), (17, .bool (decide (a1 < 0)))]) (w' := w0) (by kernel_rfl) ?_
  refine WR.split 17 (b := decide (a1 < 0)) (by kernel_rfl) (fun hb1 => ?_) (fun hb1 => ?_)
  · replace H := ite_t H hb1
    refine WR.runk [7, 8, 9, 10, 11, 12, 13, 14, 15, 16, 17, 18, 19, 20, 21, 22] [] [0, 1, 2, 33] (L' := [(0, .pointer (some ⟨b0, 0, none⟩)), (1, .int .i64 a1), (2, .int .u64 a2), (33, .bool true)]) (w' := w0) (by kernel_rfl) ?_
    refine WR.nil ?_
    refine At.go ?_
    refine WC.condT (by kernel_rfl) (by kernel_rfl) (by kernel_rfl) ?_
    refine WC.seq (by kernel_rfl) ?_
    refine WC.reg [0] (by kernel_rfl) (by kernel_rfl) ?_
    refine WR.runk [0] [] [6] (L' := [(6, .bool false)]) (w' := w0) (by kernel_rfl) ?_
    refine WR.nil ?_
    refine At.go ?_
    refine WC.ret (by kernel_rfl) ?_
    refine At.thenRet ?_
    obtain rfl := Option.some.inj H
    have hS : Sat w0 B [O66 b0 p0] := hS.sel [0] (by kernel_rfl)
    exact At.body [.bool false] (by kernel_rfl) ⟨_, rfl, rfl, hS⟩
  · replace H := ite_f H hb1
    refine WR.runk [7, 8, 9, 10] [11, 12, 13, 14, 15, 16, 17, 18, 19, 20, 21, 22] [0, 1, 2, 17, 18, 21] (L' := [(0, .pointer (some ⟨b0, 0, none⟩)), (1, .int .i64 a1), (2, .int .u64 a2), (17, .bool false), (18, .int .i64 a1), (21, .pointer (some ⟨b0, 1, none⟩))]) (w' := w0) (by kernel_rfl) ?_
    obtain ⟨A2, c3, hS⟩ := O66.open hS
    have hS : Sat w0 B [pts b0 (.cells #[.int .i64 p0.1, .int .i64 p0.2.1, .slice A2 p0.2.2.length c3] 66 (0, 0)), osl 43 (r0 (.int .u64)) 1 A2 c3 p0.2.2] := hS
    refine WR.st (St.ofR (RSt.loadObj (t := 3) (k := 1) (v := .int .i64 p0.2.1) (.tmp 21) (by kernel_rfl) (by kernel_rfl) (by kernel_rfl) 0 hS rfl (by kernel_rfl) rfl ?_))
    refine WR.runk [12, 13, 14] [15, 16, 17, 18, 19, 20, 21, 22] [0, 1, 2, 25] (L' := [(0, .pointer (some ⟨b0, 0, none⟩)), (1, .int .i64 a1), (2, .int .u64 a2), (25, .bool (decide (a1 ≥ p0.2.1)))]) (w' := w0) (by kernel_rfl) ?_
    refine WR.split 25 (b := decide (a1 ≥ p0.2.1)) (by kernel_rfl) (fun hb4 => ?_) (fun hb4 => ?_)
    · replace H := ite_t H hb4
      refine WR.runk [15, 16, 17, 18, 19, 20, 21, 22] [] [0, 1, 2, 33] (L' := [(0, .pointer (some ⟨b0, 0, none⟩)), (1, .int .i64 a1), (2, .int .u64 a2), (33, .bool true)]) (w' := w0) (by kernel_rfl) ?_
      refine WR.nil ?_
      refine At.go ?_
      refine WC.condT (by kernel_rfl) (by kernel_rfl) (by kernel_rfl) ?_
      refine WC.seq (by kernel_rfl) ?_
      refine WC.reg [0] (by kernel_rfl) (by kernel_rfl) ?_
      refine WR.runk [0] [] [6] (L' := [(6, .bool false)]) (w' := w0) (by kernel_rfl) ?_
      refine WR.nil ?_
      refine At.go ?_
      refine WC.ret (by kernel_rfl) ?_
      refine At.thenRet ?_
      obtain rfl := Option.some.inj H
      have hS : Sat w0 B [pts b0 (.cells #[.int .i64 p0.1, .int .i64 p0.2.1, .slice A2 p0.2.2.length c3] 66 (0, 0)), osl 43 (r0 (.int .u64)) 1 A2 c3 p0.2.2] := hS.sel [0, 1] (by kernel_rfl)
      have hS : Sat w0 B [O66 b0 p0] := O66.close p0 A2 c3 hS
      have hS : Sat w0 B [O66 b0 p0] := hS.sel [0] (by kernel_rfl)
      exact At.body [.bool false] (by kernel_rfl) ⟨_, rfl, rfl, hS⟩
    · replace H := ite_f H hb4
      refine WR.runk [15, 16, 17, 18] [19, 20, 21, 22] [0, 1, 2, 25, 26, 29] (L' := [(0, .pointer (some ⟨b0, 0, none⟩)), (1, .int .i64 a1), (2, .int .u64 a2), (25, .bool false), (26, .int .u64 a2), (29, .pointer (some ⟨b0, 0, none⟩))]) (w' := w0) (by kernel_rfl) ?_
      refine WR.st (St.ofR (RSt.loadObj (t := 3) (k := 0) (v := .int .i64 p0.1) (.tmp 29) (by kernel_rfl) (by kernel_rfl) (by kernel_rfl) 0 hS rfl (by kernel_rfl) rfl ?_))
      refine WR.runk [] [20, 21, 22] [0, 1, 2, 25, 26, 30] (L' := [(0, .pointer (some ⟨b0, 0, none⟩)), (1, .int .i64 a1), (2, .int .u64 a2), (25, .bool false), (26, .int .u64 a2), (30, .int .i64 p0.1)]) (w' := w0) (by kernel_rfl) ?_
      obtain ⟨r5, e6, H⟩ := bind_ex H
      refine WR.st (St.call (by kernel_rfl) (f := 35) (args := #[.int .i64 p0.1]) (by kernel_rfl) (pack_mask.calls w0 p0.1 r5 e6) ?_)
      rintro _ w12 ⟨rfl, hS13⟩
      have hS : Sat w12 B [pts b0 (.cells #[.int .i64 p0.1, .int .i64 p0.2.1, .slice A2 p0.2.2.length c3] 66 (0, 0)), osl 43 (r0 (.int .u64)) 1 A2 c3 p0.2.2] := hS.ext hS13
      refine WR.runk [21, 22] [] [0, 1, 2, 33] (L' := [(0, .pointer (some ⟨b0, 0, none⟩)), (1, .int .i64 a1), (2, .int .u64 a2), (33, .bool (decide (a2 > r5)))]) (w' := w12) (by kernel_rfl) ?_
      refine WR.nil ?_
      refine At.go ?_
      refine WC.cond (by kernel_rfl) (decide (a2 > r5)) (by kernel_rfl) (by kernel_rfl) (fun hb14 => ?_) (fun hb14 => ?_)
      · replace H := ite_t H hb14
        refine WC.seq (by kernel_rfl) ?_
        refine WC.reg [0] (by kernel_rfl) (by kernel_rfl) ?_
        refine WR.runk [0] [] [6] (L' := [(6, .bool false)]) (w' := w12) (by kernel_rfl) ?_
        refine WR.nil ?_
        refine At.go ?_
        refine WC.ret (by kernel_rfl) ?_
        refine At.thenRet ?_
        obtain rfl := Option.some.inj H
        have hS : Sat w12 B [pts b0 (.cells #[.int .i64 p0.1, .int .i64 p0.2.1, .slice A2 p0.2.2.length c3] 66 (0, 0)), osl 43 (r0 (.int .u64)) 1 A2 c3 p0.2.2] := hS.sel [0, 1] (by kernel_rfl)
        have hS : Sat w12 B [O66 b0 p0] := O66.close p0 A2 c3 hS
        have hS : Sat w12 B [O66 b0 p0] := hS.sel [0] (by kernel_rfl)
        exact At.body [.bool false] (by kernel_rfl) ⟨_, rfl, rfl, hS⟩
      · replace H := ite_f H hb14
        refine WC.skip (by kernel_rfl) ?_
        refine At.go ?_
        refine WC.seq (by kernel_rfl) ?_
        refine WC.reg [0, 1, 2, 3, 4, 5, 6] (by kernel_rfl) (by kernel_rfl) ?_
        refine WR.runk [0, 1, 2, 3] [4, 5, 6] [0, 2, 34, 37] (L' := [(0, .pointer (some ⟨b0, 0, none⟩)), (2, .int .u64 a2), (34, .int .i64 a1), (37, .pointer (some ⟨b0, 0, none⟩))]) (w' := w12) (by kernel_rfl) ?_
        refine WR.st (St.ofR (RSt.loadObj (t := 3) (k := 0) (v := .int .i64 p0.1) (.tmp 37) (by kernel_rfl) (by kernel_rfl) (by kernel_rfl) 0 hS rfl (by kernel_rfl) rfl ?_))
        refine WR.runk [5, 6] [] [0, 2, 7] (L' := [(0, .pointer (some ⟨b0, 0, none⟩)), (2, .int .u64 a2), (7, .int .i64 (wi (a1 * p0.1)))]) (w' := w12) (by kernel_rfl) ?_
        refine WR.nil ?_
        refine At.go ?_
        refine WC.seq (by kernel_rfl) ?_
        refine WC.reg [0, 1, 2, 3, 4, 5] (by kernel_rfl) (by kernel_rfl) ?_
        refine WR.runk [0, 1, 2, 3, 4, 5] [] [0, 2, 8, 9] (L' := [(0, .pointer (some ⟨b0, 0, none⟩)), (2, .int .u64 a2), (8, .int .i64 (wi (Int.tdiv (wi (a1 * p0.1)) 64))), (9, .int .i64 (Int.tmod (wi (a1 * p0.1)) 64))]) (w' := w12) (by kernel_rfl) ?_
        refine WR.nil ?_
        refine At.go ?_
        refine WC.seq (by kernel_rfl) ?_
        refine WC.reg [0, 1, 2, 3, 4, 5] (by kernel_rfl) (by kernel_rfl) ?_
        refine WR.runk [0, 1, 2] [3, 4, 5] [0, 2, 8, 9, 46] (L' := [(0, .pointer (some ⟨b0, 0, none⟩)), (2, .int .u64 a2), (8, .int .i64 (wi (Int.tdiv (wi (a1 * p0.1)) 64))), (9, .int .i64 (Int.tmod (wi (a1 * p0.1)) 64)), (46, .pointer (some ⟨b0, 0, none⟩))]) (w' := w12) (by kernel_rfl) ?_
        refine WR.st (St.ofR (RSt.loadObj (t := 3) (k := 0) (v := .int .i64 p0.1) (.tmp 46) (by kernel_rfl) (by kernel_rfl) (by kernel_rfl) 0 hS rfl (by kernel_rfl) rfl ?_))
        refine WR.runk [] [4, 5] [0, 2, 8, 9, 47] (L' := [(0, .pointer (some ⟨b0, 0, none⟩)), (2, .int .u64 a2), (8, .int .i64 (wi (Int.tdiv (wi (a1 * p0.1)) 64))), (9, .int .i64 (Int.tmod (wi (a1 * p0.1)) 64)), (47, .int .i64 p0.1)]) (w' := w12) (by kernel_rfl) ?_
        obtain ⟨r15, e16, H⟩ := bind_ex H
        refine WR.st (St.call (by kernel_rfl) (f := 35) (args := #[.int .i64 p0.1]) (by kernel_rfl) (pack_mask.calls w12 p0.1 r15 e16) ?_)
        rintro _ w22 ⟨rfl, hS23⟩
        have hS : Sat w22 B [pts b0 (.cells #[.int .i64 p0.1, .int .i64 p0.2.1, .slice A2 p0.2.2.length c3] 66 (0, 0)), osl 43 (r0 (.int .u64)) 1 A2 c3 p0.2.2] := hS.ext hS23
        refine WR.runk [5] [] [0, 2, 8, 9, 10] (L' := [(0, .pointer (some ⟨b0, 0, none⟩)), (2, .int .u64 a2), (8, .int .i64 (wi (Int.tdiv (wi (a1 * p0.1)) 64))), (9, .int .i64 (Int.tmod (wi (a1 * p0.1)) 64)), (10, .int .u64 r15)]) (w' := w22) (by kernel_rfl) ?_
        refine WR.nil ?_
        refine At.go ?_
        refine WC.seq (by kernel_rfl) ?_
        refine WC.drawn (by kernel_rfl) (by kernel_rfl) 22 (by kernel_rfl) (fun w24 hw25 => ?_)
        have hS := hS.heap hw25.1 hw25.2
        refine WD.weaken [0, 2, 8, 9, 10] (L' := [(0, .pointer (some ⟨b0, 0, none⟩)), (2, .int .u64 a2), (8, .int .i64 (wi (Int.tdiv (wi (a1 * p0.1)) 64))), (9, .int .i64 (Int.tmod (wi (a1 * p0.1)) 64)), (10, .int .u64 r15)]) (by kernel_rfl) ?_
        refine WD.pure (i := 0) (v := .pointer (some ⟨b0, 0, none⟩)) (by kernel_rfl) (by kernel_rfl) (fun _ => by kernel_rfl) ?_
        refine WD.weaken [0, 2, 8, 9, 10, 49] (L' := [(0, .pointer (some ⟨b0, 0, none⟩)), (2, .int .u64 a2), (8, .int .i64 (wi (Int.tdiv (wi (a1 * p0.1)) 64))), (9, .int .i64 (Int.tmod (wi (a1 * p0.1)) 64)), (10, .int .u64 r15), (49, .pointer (some ⟨b0, 0, none⟩))]) (by kernel_rfl) ?_
        refine WD.pure (i := 1) (v := .pointer (some ⟨b0, 0, none⟩)) (by kernel_rfl) (by kernel_rfl) (fun _ => by kernel_rfl) ?_
        refine WD.weaken [0, 2, 8, 9, 10, 50] (L' := [(0, .pointer (some ⟨b0, 0, none⟩)), (2, .int .u64 a2), (8, .int .i64 (wi (Int.tdiv (wi (a1 * p0.1)) 64))), (9, .int .i64 (Int.tmod (wi (a1 * p0.1)) 64)), (10, .int .u64 r15), (50, .pointer (some ⟨b0, 0, none⟩))]) (by kernel_rfl) ?_
        refine WD.pure (i := 2) (v := .pointer (some ⟨b0, 2, none⟩)) (by kernel_rfl) (by kernel_rfl) (fun _ => by kernel_rfl) ?_
        refine WD.weaken [0, 2, 8, 9, 10, 51] (L' := [(0, .pointer (some ⟨b0, 0, none⟩)), (2, .int .u64 a2), (8, .int .i64 (wi (Int.tdiv (wi (a1 * p0.1)) 64))), (9, .int .i64 (Int.tmod (wi (a1 * p0.1)) 64)), (10, .int .u64 r15), (51, .pointer (some ⟨b0, 2, none⟩))]) (by kernel_rfl) ?_
        refine WD.ofR (i := 3) (by kernel_rfl) (RSt.loadObj (t := 35) (k := 2) (v := .slice A2 p0.2.2.length c3) (.tmp 51) (by kernel_rfl) (by kernel_rfl) (by kernel_rfl) 0 hS rfl (by kernel_rfl) rfl ?_)
        refine WD.weaken [0, 2, 8, 9, 10, 52] (L' := [(0, .pointer (some ⟨b0, 0, none⟩)), (2, .int .u64 a2), (8, .int .i64 (wi (Int.tdiv (wi (a1 * p0.1)) 64))), (9, .int .i64 (Int.tmod (wi (a1 * p0.1)) 64)), (10, .int .u64 r15), (52, .slice A2 p0.2.2.length c3)]) (by kernel_rfl) ?_
        refine WD.pure (i := 4) (v := .int .i64 (wi (Int.tdiv (wi (a1 * p0.1)) 64))) (by kernel_rfl) (by kernel_rfl) (fun _ => by kernel_rfl) ?_
        refine WD.weaken [0, 2, 8, 9, 10, 52, 53] (L' := [(0, .pointer (some ⟨b0, 0, none⟩)), (2, .int .u64 a2), (8, .int .i64 (wi (Int.tdiv (wi (a1 * p0.1)) 64))), (9, .int .i64 (Int.tmod (wi (a1 * p0.1)) 64)), (10, .int .u64 r15), (52, .slice A2 p0.2.2.length c3), (53, .int .i64 (wi (Int.tdiv (wi (a1 * p0.1)) 64)))]) (by kernel_rfl) ?_
        refine WD.pure (i := 5) (v := .pointer (some ⟨b0, 0, none⟩)) (by kernel_rfl) (by kernel_rfl) (fun _ => by kernel_rfl) ?_
        refine WD.weaken [0, 2, 8, 9, 10, 52, 53, 54] (L' := [(0, .pointer (some ⟨b0, 0, none⟩)), (2, .int .u64 a2), (8, .int .i64 (wi (Int.tdiv (wi (a1 * p0.1)) 64))), (9, .int .i64 (Int.tmod (wi (a1 * p0.1)) 64)), (10, .int .u64 r15), (52, .slice A2 p0.2.2.length c3), (53, .int .i64 (wi (Int.tdiv (wi (a1 * p0.1)) 64))), (54, .pointer (some ⟨b0, 0, none⟩))]) (by kernel_rfl) ?_
        refine WD.pure (i := 6) (v := .pointer (some ⟨b0, 0, none⟩)) (by kernel_rfl) (by kernel_rfl) (fun _ => by kernel_rfl) ?_
        refine WD.weaken [0, 2, 8, 9, 10, 52, 53, 55] (L' := [(0, .pointer (some ⟨b0, 0, none⟩)), (2, .int .u64 a2), (8, .int .i64 (wi (Int.tdiv (wi (a1 * p0.1)) 64))), (9, .int .i64 (Int.tmod (wi (a1 * p0.1)) 64)), (10, .int .u64 r15), (52, .slice A2 p0.2.2.length c3), (53, .int .i64 (wi (Int.tdiv (wi (a1 * p0.1)) 64))), (55, .pointer (some ⟨b0, 0, none⟩))]) (by kernel_rfl) ?_
        refine WD.pure (i := 7) (v := .pointer (some ⟨b0, 2, none⟩)) (by kernel_rfl) (by kernel_rfl) (fun _ => by kernel_rfl) ?_
        refine WD.weaken [0, 2, 8, 9, 10, 52, 53, 56] (L' := [(0, .pointer (some ⟨b0, 0, none⟩)), (2, .int .u64 a2), (8, .int .i64 (wi (Int.tdiv (wi (a1 * p0.1)) 64))), (9, .int .i64 (Int.tmod (wi (a1 * p0.1)) 64)), (10, .int .u64 r15), (52, .slice A2 p0.2.2.length c3), (53, .int .i64 (wi (Int.tdiv (wi (a1 * p0.1)) 64))), (56, .pointer (some ⟨b0, 2, none⟩))]) (by kernel_rfl) ?_
        refine WD.ofR (i := 8) (by kernel_rfl) (RSt.loadObj (t := 35) (k := 2) (v := .slice A2 p0.2.2.length c3) (.tmp 56) (by kernel_rfl) (by kernel_rfl) (by kernel_rfl) 0 hS rfl (by kernel_rfl) rfl ?_)
        refine WD.weaken [0, 2, 8, 9, 10, 52, 53, 57] (L' := [(0, .pointer (some ⟨b0, 0, none⟩)), (2, .int .u64 a2), (8, .int .i64 (wi (Int.tdiv (wi (a1 * p0.1)) 64))), (9, .int .i64 (Int.tmod (wi (a1 * p0.1)) 64)), (10, .int .u64 r15), (52, .slice A2 p0.2.2.length c3), (53, .int .i64 (wi (Int.tdiv (wi (a1 * p0.1)) 64))), (57, .slice A2 p0.2.2.length c3)]) (by kernel_rfl) ?_
        refine WD.pure (i := 9) (v := .int .i64 (wi (Int.tdiv (wi (a1 * p0.1)) 64))) (by kernel_rfl) (by kernel_rfl) (fun _ => by kernel_rfl) ?_
        refine WD.weaken [0, 2, 8, 9, 10, 52, 53, 57, 58] (L' := [(0, .pointer (some ⟨b0, 0, none⟩)), (2, .int .u64 a2), (8, .int .i64 (wi (Int.tdiv (wi (a1 * p0.1)) 64))), (9, .int .i64 (Int.tmod (wi (a1 * p0.1)) 64)), (10, .int .u64 r15), (52, .slice A2 p0.2.2.length c3), (53, .int .i64 (wi (Int.tdiv (wi (a1 * p0.1)) 64))), (57, .slice A2 p0.2.2.length c3), (58, .int .i64 (wi (Int.tdiv (wi (a1 * p0.1)) 64)))]) (by kernel_rfl) ?_
        obtain ⟨v26, e27, H⟩ := bind_ex H
        refine WD.ofP (i := 10) (by kernel_rfl) (PSt.idx (k := .i64) (.tmp 57) (.tmp 58) (by kernel_rfl) (by kernel_rfl) E35 (by kernel_rfl) (by kernel_rfl) (Sat.rdAt 1 hS rfl) e27 ?_)
        refine WD.weaken [0, 2, 8, 9, 10, 52, 53, 59] (L' := [(0, .pointer (some ⟨b0, 0, none⟩)), (2, .int .u64 a2), (8, .int .i64 (wi (Int.tdiv (wi (a1 * p0.1)) 64))), (9, .int .i64 (Int.tmod (wi (a1 * p0.1)) 64)), (10, .int .u64 r15), (52, .slice A2 p0.2.2.length c3), (53, .int .i64 (wi (Int.tdiv (wi (a1 * p0.1)) 64))), (59, .pointer (some (adr A2 (wi (Int.tdiv (wi (a1 * p0.1)) 64)).toNat 1)))]) (by kernel_rfl) ?_
        refine WD.ofR (i := 11) (by kernel_rfl) (RSt.loadInt (t := 43) (.tmp 59) (by kernel_rfl) (by kernel_rfl) (by kernel_rfl) (by kernel_rfl) (Sat.rdAt 1 hS rfl) e27 ?_)
        refine WD.weaken [0, 2, 8, 9, 10, 52, 53, 60] (L' := [(0, .pointer (some ⟨b0, 0, none⟩)), (2, .int .u64 a2), (8, .int .i64 (wi (Int.tdiv (wi (a1 * p0.1)) 64))), (9, .int .i64 (Int.tmod (wi (a1 * p0.1)) 64)), (10, .int .u64 r15), (52, .slice A2 p0.2.2.length c3), (53, .int .i64 (wi (Int.tdiv (wi (a1 * p0.1)) 64))), (60, .int .u64 v26)]) (by kernel_rfl) ?_
        refine WD.pure (i := 12) (v := .int .u64 r15) (by kernel_rfl) (by kernel_rfl) (fun _ => by kernel_rfl) ?_
        refine WD.weaken [0, 2, 8, 9, 10, 52, 53, 60, 61] (L' := [(0, .pointer (some ⟨b0, 0, none⟩)), (2, .int .u64 a2), (8, .int .i64 (wi (Int.tdiv (wi (a1 * p0.1)) 64))), (9, .int .i64 (Int.tmod (wi (a1 * p0.1)) 64)), (10, .int .u64 r15), (52, .slice A2 p0.2.2.length c3), (53, .int .i64 (wi (Int.tdiv (wi (a1 * p0.1)) 64))), (60, .int .u64 v26), (61, .int .u64 r15)]) (by kernel_rfl) ?_
        refine WD.pure (i := 13) (v := .int .i64 (Int.tmod (wi (a1 * p0.1)) 64)) (by kernel_rfl) (by kernel_rfl) (fun _ => by kernel_rfl) ?_
        refine WD.weaken [0, 2, 8, 9, 10, 52, 53, 60, 61, 62] (L' := [(0, .pointer (some ⟨b0, 0, none⟩)), (2, .int .u64 a2), (8, .int .i64 (wi (Int.tdiv (wi (a1 * p0.1)) 64))), (9, .int .i64 (Int.tmod (wi (a1 * p0.1)) 64)), (10, .int .u64 r15), (52, .slice A2 p0.2.2.length c3), (53, .int .i64 (wi (Int.tdiv (wi (a1 * p0.1)) 64))), (60, .int .u64 v26), (61, .int .u64 r15), (62, .int .i64 (Int.tmod (wi (a1 * p0.1)) 64))]) (by kernel_rfl) ?_
        obtain ⟨_, e28, H⟩ := bind_ex H
        refine WD.ofP (i := 14) (by kernel_rfl) (PSt.shift (k := .u64) (k2 := .i64) (t := 43) (t2 := 3) (a := r15) (b := (Int.tmod (wi (a1 * p0.1)) 64)) .shl (by decide) (.tmp 61) (.tmp 62) (by kernel_rfl) (by kernel_rfl) (by kernel_rfl) (by kernel_rfl) (of_decide_eq_true (chk?_some e28)) ?_)
        refine WD.weaken [0, 2, 8, 9, 10, 52, 53, 60, 63] (L' := [(0, .pointer (some ⟨b0, 0, none⟩)), (2, .int .u64 a2), (8, .int .i64 (wi (Int.tdiv (wi (a1 * p0.1)) 64))), (9, .int .i64 (Int.tmod (wi (a1 * p0.1)) 64)), (10, .int .u64 r15), (52, .slice A2 p0.2.2.length c3), (53, .int .i64 (wi (Int.tdiv (wi (a1 * p0.1)) 64))), (60, .int .u64 v26), (63, .int .u64 (ishl .u64 r15 (Int.tmod (wi (a1 * p0.1)) 64)))]) (by kernel_rfl) ?_
        refine WD.pure (i := 15) (v := .int .u64 (iandn .u64 v26 (ishl .u64 r15 (Int.tmod (wi (a1 * p0.1)) 64)))) (by kernel_rfl) (by kernel_rfl) (fun _ => by kernel_rfl) ?_
        refine WD.weaken [0, 2, 8, 9, 10, 52, 53, 64] (L' := [(0, .pointer (some ⟨b0, 0, none⟩)), (2, .int .u64 a2), (8, .int .i64 (wi (Int.tdiv (wi (a1 * p0.1)) 64))), (9, .int .i64 (Int.tmod (wi (a1 * p0.1)) 64)), (10, .int .u64 r15), (52, .slice A2 p0.2.2.length c3), (53, .int .i64 (wi (Int.tdiv (wi (a1 * p0.1)) 64))), (64, .int .u64 (iandn .u64 v26 (ishl .u64 r15 (Int.tmod (wi (a1 * p0.1)) 64))))]) (by kernel_rfl) ?_
        refine WD.pure (i := 16) (v := .int .u64 a2) (by kernel_rfl) (by kernel_rfl) (fun _ => by kernel_rfl) ?_
        refine WD.weaken [0, 2, 8, 9, 10, 52, 53, 64, 65] (L' := [(0, .pointer (some ⟨b0, 0, none⟩)), (2, .int .u64 a2), (8, .int .i64 (wi (Int.tdiv (wi (a1 * p0.1)) 64))), (9, .int .i64 (Int.tmod (wi (a1 * p0.1)) 64)), (10, .int .u64 r15), (52, .slice A2 p0.2.2.length c3), (53, .int .i64 (wi (Int.tdiv (wi (a1 * p0.1)) 64))), (64, .int .u64 (iandn .u64 v26 (ishl .u64 r15 (Int.tmod (wi (a1 * p0.1)) 64)))), (65, .int .u64 a2)]) (by kernel_rfl) ?_
        refine WD.pure (i := 17) (v := .int .i64 (Int.tmod (wi (a1 * p0.1)) 64)) (by kernel_rfl) (by kernel_rfl) (fun _ => by kernel_rfl) ?_
        refine WD.weaken [0, 2, 8, 9, 10, 52, 53, 64, 65, 66] (L' := [(0, .pointer (some ⟨b0, 0, none⟩)), (2, .int .u64 a2), (8, .int .i64 (wi (Int.tdiv (wi (a1 * p0.1)) 64))), (9, .int .i64 (Int.tmod (wi (a1 * p0.1)) 64)), (10, .int .u64 r15), (52, .slice A2 p0.2.2.length c3), (53, .int .i64 (wi (Int.tdiv (wi (a1 * p0.1)) 64))), (64, .int .u64 (iandn .u64 v26 (ishl .u64 r15 (Int.tmod (wi (a1 * p0.1)) 64)))), (65, .int .u64 a2), (66, .int .i64 (Int.tmod (wi (a1 * p0.1)) 64))]) (by kernel_rfl) ?_
        obtain ⟨_, e29, H⟩ := bind_ex H
        refine WD.ofP (i := 18) (by kernel_rfl) (PSt.shift (k := .u64) (k2 := .i64) (t := 43) (t2 := 3) (a := a2) (b := (Int.tmod (wi (a1 * p0.1)) 64)) .shl (by decide) (.tmp 65) (.tmp 66) (by kernel_rfl) (by kernel_rfl) (by kernel_rfl) (by kernel_rfl) (of_decide_eq_true (chk?_some e29)) ?_)
        refine WD.weaken [0, 2, 8, 9, 10, 52, 53, 64, 67] (L' := [(0, .pointer (some ⟨b0, 0, none⟩)), (2, .int .u64 a2), (8, .int .i64 (wi (Int.tdiv (wi (a1 * p0.1)) 64))), (9, .int .i64 (Int.tmod (wi (a1 * p0.1)) 64)), (10, .int .u64 r15), (52, .slice A2 p0.2.2.length c3), (53, .int .i64 (wi (Int.tdiv (wi (a1 * p0.1)) 64))), (64, .int .u64 (iandn .u64 v26 (ishl .u64 r15 (Int.tmod (wi (a1 * p0.1)) 64)))), (67, .int .u64 (ishl .u64 a2 (Int.tmod (wi (a1 * p0.1)) 64)))]) (by kernel_rfl) ?_
        refine WD.pure (i := 19) (v := .int .u64 (ior .u64 (iandn .u64 v26 (ishl .u64 r15 (Int.tmod (wi (a1 * p0.1)) 64))) (ishl .u64 a2 (Int.tmod (wi (a1 * p0.1)) 64)))) (by kernel_rfl) (by kernel_rfl) (fun _ => by kernel_rfl) ?_
        refine WD.weaken [0, 2, 8, 9, 10, 52, 53, 68] (L' := [(0, .pointer (some ⟨b0, 0, none⟩)), (2, .int .u64 a2), (8, .int .i64 (wi (Int.tdiv (wi (a1 * p0.1)) 64))), (9, .int .i64 (Int.tmod (wi (a1 * p0.1)) 64)), (10, .int .u64 r15), (52, .slice A2 p0.2.2.length c3), (53, .int .i64 (wi (Int.tdiv (wi (a1 * p0.1)) 64))), (68, .int .u64 (ior .u64 (iandn .u64 v26 (ishl .u64 r15 (Int.tmod (wi (a1 * p0.1)) 64))) (ishl .u64 a2 (Int.tmod (wi (a1 * p0.1)) 64))))]) (by kernel_rfl) ?_
        refine WD.ofP (i := 20) (by kernel_rfl) (PSt.idx (k := .i64) (.tmp 52) (.tmp 53) (by kernel_rfl) (by kernel_rfl) E35 (by kernel_rfl) (by kernel_rfl) (Sat.rdAt 1 hS rfl) e27 ?_)
        refine WD.weaken [0, 2, 8, 9, 10, 68, 69] (L' := [(0, .pointer (some ⟨b0, 0, none⟩)), (2, .int .u64 a2), (8, .int .i64 (wi (Int.tdiv (wi (a1 * p0.1)) 64))), (9, .int .i64 (Int.tmod (wi (a1 * p0.1)) 64)), (10, .int .u64 r15), (68, .int .u64 (ior .u64 (iandn .u64 v26 (ishl .u64 r15 (Int.tmod (wi (a1 * p0.1)) 64))) (ishl .u64 a2 (Int.tmod (wi (a1 * p0.1)) 64)))), (69, .pointer (some (adr A2 (wi (Int.tdiv (wi (a1 * p0.1)) 64)).toNat 1)))]) (by kernel_rfl) ?_
        have hS : Sat w24 B [osl 43 (r0 (.int .u64)) 1 A2 c3 p0.2.2, pts b0 (.cells #[.int .i64 p0.1, .int .i64 p0.2.1, .slice A2 p0.2.2.length c3] 66 (0, 0))] := hS.sel [1, 0] (by kernel_rfl)
        obtain ⟨y30, e31, H⟩ := bind_ex H
        refine WD.act (i := 21) (by kernel_rfl) (St.storeElem' (t := 43) (.tmp 69) (.tmp 68) (by kernel_rfl) (by kernel_rfl) (by kernel_rfl) hS (by kernel_rfl) (by kernel_rfl) rfl e31 rfl (fun w32 hS => ?_))
        refine ⟨(asked.anc (by kernel_rfl) (asked.anc (by kernel_rfl) (asked.anc (by kernel_rfl) (asked.nil _ _)))), ?_⟩
        have hl33 := set?_len e31
        have hS : Sat w32 B [osl 43 (r0 (.int .u64)) 1 A2 c3 y30, pts b0 (.cells #[.int .i64 p0.1, .int .i64 p0.2.1, .slice A2 y30.length c3] 66 (0, 0))] := by simpa only [hl33] using hS
        refine WD.weaken [0, 2, 8, 9, 10] (L' := [(0, .pointer (some ⟨b0, 0, none⟩)), (2, .int .u64 a2), (8, .int .i64 (wi (Int.tdiv (wi (a1 * p0.1)) 64))), (9, .int .i64 (Int.tmod (wi (a1 * p0.1)) 64)), (10, .int .u64 r15)]) (by kernel_rfl) ?_
        refine WD.nil (by kernel_rfl) ?_
        refine At.go ?_
        refine WC.seq (by kernel_rfl) ?_
        refine WC.seq (by kernel_rfl) ?_
        refine WC.reg [0, 1, 2, 3, 4, 5, 6] (by kernel_rfl) (by kernel_rfl) ?_
        refine WR.runk [0, 1, 2, 3] [4, 5, 6] [0, 2, 8, 9, 10, 70, 73] (L' := [(0, .pointer (some ⟨b0, 0, none⟩)), (2, .int .u64 a2), (8, .int .i64 (wi (Int.tdiv (wi (a1 * p0.1)) 64))), (9, .int .i64 (Int.tmod (wi (a1 * p0.1)) 64)), (10, .int .u64 r15), (70, .int .i64 (Int.tmod (wi (a1 * p0.1)) 64)), (73, .pointer (some ⟨b0, 0, none⟩))]) (w' := w32) (by kernel_rfl) ?_
        refine WR.st (St.ofR (RSt.loadObj (t := 3) (k := 0) (v := .int .i64 p0.1) (.tmp 73) (by kernel_rfl) (by kernel_rfl) (by kernel_rfl) 1 hS rfl (by kernel_rfl) rfl ?_))
        refine WR.runk [5, 6] [] [0, 2, 8, 9, 10, 76] (L' := [(0, .pointer (some ⟨b0, 0, none⟩)), (2, .int .u64 a2), (8, .int .i64 (wi (Int.tdiv (wi (a1 * p0.1)) 64))), (9, .int .i64 (Int.tmod (wi (a1 * p0.1)) 64)), (10, .int .u64 r15), (76, .bool (decide (wi ((Int.tmod (wi (a1 * p0.1)) 64) + p0.1) > 64)))]) (w' := w32) (by kernel_rfl) ?_
        refine WR.nil ?_
        refine At.go ?_
        refine WC.cond (by kernel_rfl) (decide (wi ((Int.tmod (wi (a1 * p0.1)) 64) + p0.1) > 64)) (by kernel_rfl) (by kernel_rfl) (fun hb34 => ?_) (fun hb34 => ?_)
        · replace H := ite_t H hb34
          refine WC.drawn (by kernel_rfl) (by kernel_rfl) 26 (by kernel_rfl) (fun w35 hw36 => ?_)
          have hS := hS.heap hw36.1 hw36.2
          refine WD.weaken [0, 2, 8, 9, 10] (L' := [(0, .pointer (some ⟨b0, 0, none⟩)), (2, .int .u64 a2), (8, .int .i64 (wi (Int.tdiv (wi (a1 * p0.1)) 64))), (9, .int .i64 (Int.tmod (wi (a1 * p0.1)) 64)), (10, .int .u64 r15)]) (by kernel_rfl) ?_
          refine WD.pure (i := 0) (v := .pointer (some ⟨b0, 0, none⟩)) (by kernel_rfl) (by kernel_rfl) (fun _ => by kernel_rfl) ?_
          refine WD.weaken [0, 2, 8, 9, 10, 77] (L' := [(0, .pointer (some ⟨b0, 0, none⟩)), (2, .int .u64 a2), (8, .int .i64 (wi (Int.tdiv (wi (a1 * p0.1)) 64))), (9, .int .i64 (Int.tmod (wi (a1 * p0.1)) 64)), (10, .int .u64 r15), (77, .pointer (some ⟨b0, 0, none⟩))]) (by kernel_rfl) ?_
          refine WD.pure (i := 1) (v := .pointer (some ⟨b0, 0, none⟩)) (by kernel_rfl) (by kernel_rfl) (fun _ => by kernel_rfl) ?_
          refine WD.weaken [0, 2, 8, 9, 10, 78] (L' := [(0, .pointer (some ⟨b0, 0, none⟩)), (2, .int .u64 a2), (8, .int .i64 (wi (Int.tdiv (wi (a1 * p0.1)) 64))), (9, .int .i64 (Int.tmod (wi (a1 * p0.1)) 64)), (10, .int .u64 r15), (78, .pointer (some ⟨b0, 0, none⟩))]) (by kernel_rfl) ?_
          refine WD.pure (i := 2) (v := .pointer (some ⟨b0, 2, none⟩)) (by kernel_rfl) (by kernel_rfl) (fun _ => by kernel_rfl) ?_
          refine WD.weaken [0, 2, 8, 9, 10, 79] (L' := [(0, .pointer (some ⟨b0, 0, none⟩)), (2, .int .u64 a2), (8, .int .i64 (wi (Int.tdiv (wi (a1 * p0.1)) 64))), (9, .int .i64 (Int.tmod (wi (a1 * p0.1)) 64)), (10, .int .u64 r15), (79, .pointer (some ⟨b0, 2, none⟩))]) (by kernel_rfl) ?_
          refine WD.ofR (i := 3) (by kernel_rfl) (RSt.loadObj (t := 35) (k := 2) (v := .slice A2 y30.length c3) (.tmp 79) (by kernel_rfl) (by kernel_rfl) (by kernel_rfl) 1 hS rfl (by kernel_rfl) rfl ?_)
          refine WD.weaken [0, 2, 8, 9, 10, 80] (L' := [(0, .pointer (some ⟨b0, 0, none⟩)), (2, .int .u64 a2), (8, .int .i64 (wi (Int.tdiv (wi (a1 * p0.1)) 64))), (9, .int .i64 (Int.tmod (wi (a1 * p0.1)) 64)), (10, .int .u64 r15), (80, .slice A2 y30.length c3)]) (by kernel_rfl) ?_
          refine WD.pure (i := 4) (v := .int .i64 (wi (Int.tdiv (wi (a1 * p0.1)) 64))) (by kernel_rfl) (by kernel_rfl) (fun _ => by kernel_rfl) ?_
          refine WD.weaken [0, 2, 8, 9, 10, 80, 81] (L' := [(0, .pointer (some ⟨b0, 0, none⟩)), (2, .int .u64 a2), (8, .int .i64 (wi (Int.tdiv (wi (a1 * p0.1)) 64))), (9, .int .i64 (Int.tmod (wi (a1 * p0.1)) 64)), (10, .int .u64 r15), (80, .slice A2 y30.length c3), (81, .int .i64 (wi (Int.tdiv (wi (a1 * p0.1)) 64)))]) (by kernel_rfl) ?_
          refine WD.pure (i := 5) (v := .int .i64 (wi ((wi (Int.tdiv (wi (a1 * p0.1)) 64)) + 1))) (by kernel_rfl) (by kernel_rfl) (fun _ => by kernel_rfl) ?_
          refine WD.weaken [0, 2, 8, 9, 10, 80, 82] (L' := [(0, .pointer (some ⟨b0, 0, none⟩)), (2, .int .u64 a2), (8, .int .i64 (wi (Int.tdiv (wi (a1 * p0.1)) 64))), (9, .int .i64 (Int.tmod (wi (a1 * p0.1)) 64)), (10, .int .u64 r15), (80, .slice A2 y30.length c3), (82, .int .i64 (wi ((wi (Int.tdiv (wi (a1 * p0.1)) 64)) + 1)))]) (by kernel_rfl) ?_
          refine WD.pure (i := 6) (v := .pointer (some ⟨b0, 0, none⟩)) (by kernel_rfl) (by kernel_rfl) (fun _ => by kernel_rfl) ?_
          refine WD.weaken [2, 8, 9, 10, 80, 82, 83] (L' := [(2, .int .u64 a2), (8, .int .i64 (wi (Int.tdiv (wi (a1 * p0.1)) 64))), (9, .int .i64 (Int.tmod (wi (a1 * p0.1)) 64)), (10, .int .u64 r15), (80, .slice A2 y30.length c3), (82, .int .i64 (wi ((wi (Int.tdiv (wi (a1 * p0.1)) 64)) + 1))), (83, .pointer (some ⟨b0, 0, none⟩))]) (by kernel_rfl) ?_
          refine WD.pure (i := 7) (v := .pointer (some ⟨b0, 0, none⟩)) (by kernel_rfl) (by kernel_rfl) (fun _ => by kernel_rfl) ?_
          refine WD.weaken [2, 8, 9, 10, 80, 82, 84] (L' := [(2, .int .u64 a2), (8, .int .i64 (wi (Int.tdiv (wi (a1 * p0.1)) 64))), (9, .int .i64 (Int.tmod (wi (a1 * p0.1)) 64)), (10, .int .u64 r15), (80, .slice A2 y30.length c3), (82, .int .i64 (wi ((wi (Int.tdiv (wi (a1 * p0.1)) 64)) + 1))), (84, .pointer (some ⟨b0, 0, none⟩))]) (by kernel_rfl) ?_
          refine WD.pure (i := 8) (v := .pointer (some ⟨b0, 2, none⟩)) (by kernel_rfl) (by kernel_rfl) (fun _ => by kernel_rfl) ?_
          refine WD.weaken [2, 8, 9, 10, 80, 82, 85] (L' := [(2, .int .u64 a2), (8, .int .i64 (wi (Int.tdiv (wi (a1 * p0.1)) 64))), (9, .int .i64 (Int.tmod (wi (a1 * p0.1)) 64)), (10, .int .u64 r15), (80, .slice A2 y30.length c3), (82, .int .i64 (wi ((wi (Int.tdiv (wi (a1 * p0.1)) 64)) + 1))), (85, .pointer (some ⟨b0, 2, none⟩))]) (by kernel_rfl) ?_
          refine WD.ofR (i := 9) (by kernel_rfl) (RSt.loadObj (t := 35) (k := 2) (v := .slice A2 y30.length c3) (.tmp 85) (by kernel_rfl) (by kernel_rfl) (by kernel_rfl) 1 hS rfl (by kernel_rfl) rfl ?_)
          refine WD.weaken [2, 8, 9, 10, 80, 82, 86] (L' := [(2, .int .u64 a2), (8, .int .i64 (wi (Int.tdiv (wi (a1 * p0.1)) 64))), (9, .int .i64 (Int.tmod (wi (a1 * p0.1)) 64)), (10, .int .u64 r15), (80, .slice A2 y30.length c3), (82, .int .i64 (wi ((wi (Int.tdiv (wi (a1 * p0.1)) 64)) + 1))), (86, .slice A2 y30.length c3)]) (by kernel_rfl) ?_
          refine WD.pure (i := 10) (v := .int .i64 (wi (Int.tdiv (wi (a1 * p0.1)) 64))) (by kernel_rfl) (by kernel_rfl) (fun _ => by kernel_rfl) ?_
          refine WD.weaken [2, 9, 10, 80, 82, 86, 87] (L' := [(2, .int .u64 a2), (9, .int .i64 (Int.tmod (wi (a1 * p0.1)) 64)), (10, .int .u64 r15), (80, .slice A2 y30.length c3), (82, .int .i64 (wi ((wi (Int.tdiv (wi (a1 * p0.1)) 64)) + 1))), (86, .slice A2 y30.length c3), (87, .int .i64 (wi (Int.tdiv (wi (a1 * p0.1)) 64)))]) (by kernel_rfl) ?_
          refine WD.pure (i := 11) (v := .int .i64 (wi ((wi (Int.tdiv (wi (a1 * p0.1)) 64)) + 1))) (by kernel_rfl) (by kernel_rfl) (fun _ => by kernel_rfl) ?_
          refine WD.weaken [2, 9, 10, 80, 82, 86, 88] (L' := [(2, .int .u64 a2), (9, .int .i64 (Int.tmod (wi (a1 * p0.1)) 64)), (10, .int .u64 r15), (80, .slice A2 y30.length c3), (82, .int .i64 (wi ((wi (Int.tdiv (wi (a1 * p0.1)) 64)) + 1))), (86, .slice A2 y30.length c3), (88, .int .i64 (wi ((wi (Int.tdiv (wi (a1 * p0.1)) 64)) + 1)))]) (by kernel_rfl) ?_
          obtain ⟨v37, e38, H⟩ := bind_ex H
          refine WD.ofP (i := 12) (by kernel_rfl) (PSt.idx (k := .i64) (.tmp 86) (.tmp 88) (by kernel_rfl) (by kernel_rfl) E35 (by kernel_rfl) (by kernel_rfl) (Sat.rdAt 0 hS rfl) e38 ?_)
          refine WD.weaken [2, 9, 10, 80, 82, 89] (L' := [(2, .int .u64 a2), (9, .int .i64 (Int.tmod (wi (a1 * p0.1)) 64)), (10, .int .u64 r15), (80, .slice A2 y30.length c3), (82, .int .i64 (wi ((wi (Int.tdiv (wi (a1 * p0.1)) 64)) + 1))), (89, .pointer (some (adr A2 (wi ((wi (Int.tdiv (wi (a1 * p0.1)) 64)) + 1)).toNat 1)))]) (by kernel_rfl) ?_
          refine WD.ofR (i := 13) (by kernel_rfl) (RSt.loadInt (t := 43) (.tmp 89) (by kernel_rfl) (by kernel_rfl) (by kernel_rfl) (by kernel_rfl) (Sat.rdAt 0 hS rfl) e38 ?_)
          refine WD.weaken [2, 9, 10, 80, 82, 90] (L' := [(2, .int .u64 a2), (9, .int .i64 (Int.tmod (wi (a1 * p0.1)) 64)), (10, .int .u64 r15), (80, .slice A2 y30.length c3), (82, .int .i64 (wi ((wi (Int.tdiv (wi (a1 * p0.1)) 64)) + 1))), (90, .int .u64 v37)]) (by kernel_rfl) ?_
          refine WD.pure (i := 14) (v := .int .u64 r15) (by kernel_rfl) (by kernel_rfl) (fun _ => by kernel_rfl) ?_
          refine WD.weaken [2, 9, 80, 82, 90, 91] (L' := [(2, .int .u64 a2), (9, .int .i64 (Int.tmod (wi (a1 * p0.1)) 64)), (80, .slice A2 y30.length c3), (82, .int .i64 (wi ((wi (Int.tdiv (wi (a1 * p0.1)) 64)) + 1))), (90, .int .u64 v37), (91, .int .u64 r15)]) (by kernel_rfl) ?_
          refine WD.pure (i := 15) (v := .int .i64 (Int.tmod (wi (a1 * p0.1)) 64)) (by kernel_rfl) (by kernel_rfl) (fun _ => by kernel_rfl) ?_
          refine WD.weaken [2, 9, 80, 82, 90, 91, 92] (L' := [(2, .int .u64 a2), (9, .int .i64 (Int.tmod (wi (a1 * p0.1)) 64)), (80, .slice A2 y30.length c3), (82, .int .i64 (wi ((wi (Int.tdiv (wi (a1 * p0.1)) 64)) + 1))), (90, .int .u64 v37), (91, .int .u64 r15), (92, .int .i64 (Int.tmod (wi (a1 * p0.1)) 64))]) (by kernel_rfl) ?_
          refine WD.pure (i := 16) (v := .int .i64 (wi (64 - (Int.tmod (wi (a1 * p0.1)) 64)))) (by kernel_rfl) (by kernel_rfl) (fun _ => by kernel_rfl) ?_
          refine WD.weaken [2, 9, 80, 82, 90, 91, 93] (L' := [(2, .int .u64 a2), (9, .int .i64 (Int.tmod (wi (a1 * p0.1)) 64)), (80, .slice A2 y30.length c3), (82, .int .i64 (wi ((wi (Int.tdiv (wi (a1 * p0.1)) 64)) + 1))), (90, .int .u64 v37), (91, .int .u64 r15), (93, .int .i64 (wi (64 - (Int.tmod (wi (a1 * p0.1)) 64))))]) (by kernel_rfl) ?_
          obtain ⟨_, e39, H⟩ := bind_ex H
          refine WD.ofP (i := 17) (by kernel_rfl) (PSt.shift (k := .u64) (k2 := .i64) (t := 43) (t2 := 3) (a := r15) (b := (wi (64 - (Int.tmod (wi (a1 * p0.1)) 64)))) .shr (by decide) (.tmp 91) (.tmp 93) (by kernel_rfl) (by kernel_rfl) (by kernel_rfl) (by kernel_rfl) (of_decide_eq_true (chk?_some e39)) ?_)
          refine WD.weaken [2, 9, 80, 82, 90, 94] (L' := [(2, .int .u64 a2), (9, .int .i64 (Int.tmod (wi (a1 * p0.1)) 64)), (80, .slice A2 y30.length c3), (82, .int .i64 (wi ((wi (Int.tdiv (wi (a1 * p0.1)) 64)) + 1))), (90, .int .u64 v37), (94, .int .u64 (ishr .u64 r15 (wi (64 - (Int.tmod (wi (a1 * p0.1)) 64)))))]) (by kernel_rfl) ?_
          refine WD.pure (i := 18) (v := .int .u64 (iandn .u64 v37 (ishr .u64 r15 (wi (64 - (Int.tmod (wi (a1 * p0.1)) 64)))))) (by kernel_rfl) (by kernel_rfl) (fun _ => by kernel_rfl) ?_
          refine WD.weaken [2, 9, 80, 82, 95] (L' := [(2, .int .u64 a2), (9, .int .i64 (Int.tmod (wi (a1 * p0.1)) 64)), (80, .slice A2 y30.length c3), (82, .int .i64 (wi ((wi (Int.tdiv (wi (a1 * p0.1)) 64)) + 1))), (95, .int .u64 (iandn .u64 v37 (ishr .u64 r15 (wi (64 - (Int.tmod (wi (a1 * p0.1)) 64))))))]) (by kernel_rfl) ?_
          refine WD.pure (i := 19) (v := .int .u64 a2) (by kernel_rfl) (by kernel_rfl) (fun _ => by kernel_rfl) ?_
          refine WD.weaken [9, 80, 82, 95, 96] (L' := [(9, .int .i64 (Int.tmod (wi (a1 * p0.1)) 64)), (80, .slice A2 y30.length c3), (82, .int .i64 (wi ((wi (Int.tdiv (wi (a1 * p0.1)) 64)) + 1))), (95, .int .u64 (iandn .u64 v37 (ishr .u64 r15 (wi (64 - (Int.tmod (wi (a1 * p0.1)) 64)))))), (96, .int .u64 a2)]) (by kernel_rfl) ?_
          refine WD.pure (i := 20) (v := .int .i64 (Int.tmod (wi (a1 * p0.1)) 64)) (by kernel_rfl) (by kernel_rfl) (fun _ => by kernel_rfl) ?_
          refine WD.weaken [80, 82, 95, 96, 97] (L' := [(80, .slice A2 y30.length c3), (82, .int .i64 (wi ((wi (Int.tdiv (wi (a1 * p0.1)) 64)) + 1))), (95, .int .u64 (iandn .u64 v37 (ishr .u64 r15 (wi (64 - (Int.tmod (wi (a1 * p0.1)) 64)))))), (96, .int .u64 a2), (97, .int .i64 (Int.tmod (wi (a1 * p0.1)) 64))]) (by kernel_rfl) ?_
          refine WD.pure (i := 21) (v := .int .i64 (wi (64 - (Int.tmod (wi (a1 * p0.1)) 64)))) (by kernel_rfl) (by kernel_rfl) (fun _ => by kernel_rfl) ?_
          refine WD.weaken [80, 82, 95, 96, 98] (L' := [(80, .slice A2 y30.length c3), (82, .int .i64 (wi ((wi (Int.tdiv (wi (a1 * p0.1)) 64)) + 1))), (95, .int .u64 (iandn .u64 v37 (ishr .u64 r15 (wi (64 - (Int.tmod (wi (a1 * p0.1)) 64)))))), (96, .int .u64 a2), (98, .int .i64 (wi (64 - (Int.tmod (wi (a1 * p0.1)) 64))))]) (by kernel_rfl) ?_
          obtain ⟨_, e40, H⟩ := bind_ex H
          refine WD.ofP (i := 22) (by kernel_rfl) (PSt.shift (k := .u64) (k2 := .i64) (t := 43) (t2 := 3) (a := a2) (b := (wi (64 - (Int.tmod (wi (a1 * p0.1)) 64)))) .shr (by decide) (.tmp 96) (.tmp 98) (by kernel_rfl) (by kernel_rfl) (by kernel_rfl) (by kernel_rfl) (of_decide_eq_true (chk?_some e40)) ?_)
          refine WD.weaken [80, 82, 95, 99] (L' := [(80, .slice A2 y30.length c3), (82, .int .i64 (wi ((wi (Int.tdiv (wi (a1 * p0.1)) 64)) + 1))), (95, .int .u64 (iandn .u64 v37 (ishr .u64 r15 (wi (64 - (Int.tmod (wi (a1 * p0.1)) 64)))))), (99, .int .u64 (ishr .u64 a2 (wi (64 - (Int.tmod (wi (a1 * p0.1)) 64)))))]) (by kernel_rfl) ?_
          refine WD.pure (i := 23) (v := .int .u64 (ior .u64 (iandn .u64 v37 (ishr .u64 r15 (wi (64 - (Int.tmod (wi (a1 * p0.1)) 64))))) (ishr .u64 a2 (wi (64 - (Int.tmod (wi (a1 * p0.1)) 64)))))) (by kernel_rfl) (by kernel_rfl) (fun _ => by kernel_rfl) ?_
          refine WD.weaken [80, 82, 100] (L' := [(80, .slice A2 y30.length c3), (82, .int .i64 (wi ((wi (Int.tdiv (wi (a1 * p0.1)) 64)) + 1))), (100, .int .u64 (ior .u64 (iandn .u64 v37 (ishr .u64 r15 (wi (64 - (Int.tmod (wi (a1 * p0.1)) 64))))) (ishr .u64 a2 (wi (64 - (Int.tmod (wi (a1 * p0.1)) 64))))))]) (by kernel_rfl) ?_
          refine WD.ofP (i := 24) (by kernel_rfl) (PSt.idx (k := .i64) (.tmp 80) (.tmp 82) (by kernel_rfl) (by kernel_rfl) E35 (by kernel_rfl) (by kernel_rfl) (Sat.rdAt 0 hS rfl) e38 ?_)
          refine WD.weaken [100, 101] (L' := [(100, .int .u64 (ior .u64 (iandn .u64 v37 (ishr .u64 r15 (wi (64 - (Int.tmod (wi (a1 * p0.1)) 64))))) (ishr .u64 a2 (wi (64 - (Int.tmod (wi (a1 * p0.1)) 64)))))), (101, .pointer (some (adr A2 (wi ((wi (Int.tdiv (wi (a1 * p0.1)) 64)) + 1)).toNat 1)))]) (by kernel_rfl) ?_
          obtain ⟨y41, e42, H⟩ := bind_ex H
          refine WD.act (i := 25) (by kernel_rfl) (St.storeElem' (t := 43) (.tmp 101) (.tmp 100) (by kernel_rfl) (by kernel_rfl) (by kernel_rfl) hS (by kernel_rfl) (by kernel_rfl) rfl e42 rfl (fun w43 hS => ?_))
          refine ⟨(asked.anc (by kernel_rfl) (asked.anc (by kernel_rfl) (asked.anc (by kernel_rfl) (asked.nil _ _)))), ?_⟩
          have hl44 := set?_len e42
          have hS : Sat w43 B [osl 43 (r0 (.int .u64)) 1 A2 c3 y41, pts b0 (.cells #[.int .i64 p0.1, .int .i64 p0.2.1, .slice A2 y41.length c3] 66 (0, 0))] := by simpa only [hl44] using hS
          refine WD.weaken [] (L' := []) (by kernel_rfl) ?_
          refine WD.nil (by kernel_rfl) ?_
          refine At.go ?_
          refine WC.seq (by kernel_rfl) ?_
          refine WC.reg [0] (by kernel_rfl) (by kernel_rfl) ?_
          refine WR.runk [0] [] [6] (L' := [(6, .bool true)]) (w' := w43) (by kernel_rfl) ?_
          refine WR.nil ?_
          refine At.go ?_
          refine WC.ret (by kernel_rfl) ?_
          obtain rfl := Option.some.inj H
          have hS : Sat w43 B [pts b0 (.cells #[.int .i64 p0.1, .int .i64 p0.2.1, .slice A2 y41.length c3] 66 (0, 0)), osl 43 (r0 (.int .u64)) 1 A2 c3 y41] := hS.sel [1, 0] (by kernel_rfl)
          have hS : Sat w43 B [O66 b0 (p0.1, p0.2.1, y41)] := O66.close (p0.1, p0.2.1, y41) A2 c3 hS
          have hS : Sat w43 B [O66 b0 (p0.1, p0.2.1, y41)] := hS.sel [0] (by kernel_rfl)
          exact At.body [.bool true] (by kernel_rfl) ⟨_, rfl, rfl, hS⟩
        · replace H := ite_f H hb34
          refine WC.skip (by kernel_rfl) ?_
          refine At.go ?_
          refine WC.seq (by kernel_rfl) ?_
          refine WC.reg [0] (by kernel_rfl) (by kernel_rfl) ?_
          refine WR.runk [0] [] [6] (L' := [(6, .bool true)]) (w' := w32) (by kernel_rfl) ?_
          refine WR.nil ?_
          refine At.go ?_
          refine WC.ret (by kernel_rfl) ?_
          obtain rfl := Option.some.inj H
          have hS : Sat w32 B [pts b0 (.cells #[.int .i64 p0.1, .int .i64 p0.2.1, .slice A2 y30.length c3] 66 (0, 0)), osl 43 (r0 (.int .u64)) 1 A2 c3 y30] := hS.sel [1, 0] (by kernel_rfl)
          have hS : Sat w32 B [O66 b0 (p0.1, p0.2.1, y30)] := O66.close (p0.1, p0.2.1, y30) A2 c3 hS
          have hS : Sat w32 B [O66 b0 (p0.1, p0.2.1, y30)] := hS.sel [0] (by kernel_rfl)
          exact At.body [.bool true] (by kernel_rfl) ⟨_, rfl, rfl, hS⟩
/-! ### 36 (*colophon/pack.Ints).Width -/
def pack_Ints_Width.f (p0 : Option (Int × Int × (List Int))) : Option Int := (match p0 with | none => some 0 | some y3 => some y3.1)
def pack_Ints_Width.post (w : World) (r : Int) (v : Value) (w' : World) : Prop := v = (.int .i64 r : Value) ∧ Sat w' (rf w) []
theorem pack_Ints_Width.calls (w0 : World) (v0 : Value) (p0 : Option (Int × Int × (List Int))) (R0 : rd (hp w0) (.ptr 66 (.pair (.int .i64) (.pair (.int .i64) (.slice 43 (.int .u64))))) [v0] p0) (r : Int) (H : pack_Ints_Width.f p0 = some r) :
    Calls Try.prog 36 #[v0] w0 (fun e w' => ∃ v, e = .returned v ∧ pack_Ints_Width.post w0 r v w') := by
  have hS : Sat w0 (rf w0) [] := Sat.start w0
  unfold pack_Ints_Width.f at H
  refine calls_of_WC (vs := [v0]) Try.func36 (c := C36) (n := 9) (by kernel_rfl) (by kernel_rfl) (by kernel_rfl) ?_
  refine WC.seq (by kernel_rfl) ?_
  refine WC.reg [0] (by kernel_rfl) (by kernel_rfl) ?_
  refine WR.runk [0] [] [0] (L' := [(0, v0)]) (w' := w0) (by kernel_rfl) ?_
  refine WR.nil ?_
  refine At.go ?_
  refine WC.seq (by kernel_rfl) ?_
  refine WC.seq (by kernel_rfl) ?_
  refine WC.reg [0, 1] (by kernel_rfl) (by kernel_rfl) ?_
  refine WR.runk [0] [1] [0, 3] (L' := [(0, v0), (3, v0)]) (w' := w0) (by kernel_rfl) ?_
  rcases opt_cases p0 with hr1 | ⟨y3, hr1⟩
  · rw [hr1] at H
    dsimp only at H
    have hx2 := rd_ptr_none R0 hr1
    try subst hx2
    refine WR.runk [1] [] [0, 4] (L' := [(0, .pointer none), (4, .bool true)]) (w' := w0) (by kernel_rfl) ?_
    refine WR.nil ?_
    refine At.go ?_
    refine WC.condT (by kernel_rfl) (by kernel_rfl) (by kernel_rfl) ?_
    refine WC.seq (by kernel_rfl) ?_
    refine WC.reg [0] (by kernel_rfl) (by kernel_rfl) ?_
    refine WR.runk [0] [] [2] (L' := [(2, .int .i64 0)]) (w' := w0) (by kernel_rfl) ?_
    refine WR.nil ?_
    refine At.go ?_
    refine WC.ret (by kernel_rfl) ?_
    refine At.thenRet ?_
    obtain rfl := Option.some.inj H
    have hS : Sat w0 (rf w0) [] := hS.sel [] (by kernel_rfl)
    exact At.body [.int .i64 0] (by kernel_rfl) ⟨_, rfl, rfl, hS⟩
  · rw [hr1] at H
    dsimp only at H
    obtain ⟨b4, fr5, A9, c10, hv6, hb7, R11⟩ := P66.open R0 hr1
    have R8 := R0
    rw [hv6, hr1] at R8
    try subst hv6
    replace R11 : rdS (r0 (.int .u64)) 1 (hp w0) A9 c10 y3.2.2 := R11
    refine WR.runk [1] [] [0, 4] (L' := [(0, .pointer (some ⟨b4, 0, none⟩)), (4, .bool false)]) (w' := w0) (by kernel_rfl) ?_
    refine WR.nil ?_
    refine At.go ?_
    refine WC.condF (by kernel_rfl) (by kernel_rfl) (by kernel_rfl) ?_
    refine WC.skip (by kernel_rfl) ?_
    refine At.go ?_
    refine WC.seq (by kernel_rfl) ?_
    refine WC.reg [0, 1, 2, 3, 4] (by kernel_rfl) (by kernel_rfl) ?_
    refine WR.runk [0, 1, 2] [3, 4] [7] (L' := [(7, .pointer (some ⟨b4, 0, none⟩))]) (w' := w0) (by kernel_rfl) ?_
    refine WR.st (St.ofR (RSt.loadRo (t := 3) (k := 0) (v := .int .i64 y3.1) (.tmp 7) (by kernel_rfl) (by kernel_rfl) (by kernel_rfl) hS.sub0 hb7 (by kernel_rfl) rfl ?_))
    refine WR.runk [4] [] [2] (L' := [(2, .int .i64 y3.1)]) (w' := w0) (by kernel_rfl) ?_
    refine WR.nil ?_
    refine At.go ?_
    refine WC.ret (by kernel_rfl) ?_
    obtain rfl := Option.some.inj H
    have hS : Sat w0 (rf w0) [] := hS.sel [] (by kernel_rfl)
    exact At.body [.int .i64 y3.1] (by kernel_rfl) ⟨_, rfl, rfl, hS⟩
/-! ### 37 (*colophon/pack.Ints).Len -/
def pack_Ints_Len.f (p0 : Option (Int × Int × (List Int))) : Option Int := (match p0 with | none => some 0 | some y3 => some y3.2.1)
def pack_Ints_Len.post (w : World) (r : Int) (v : Value) (w' : World) : Prop := v = (.int .i64 r : Value) ∧ Sat w' (rf w) []
theorem pack_Ints_Len.calls (w0 : World) (v0 : Value) (p0 : Option (Int × Int × (List Int))) (R0 : rd (hp w0) (.ptr 66 (.pair (.int .i64) (.pair (.int .i64) (.slice 43 (.int .u64))))) [v0] p0) (r : Int) (H : pack_Ints_Len.f p0 = some r) :
    Calls Try.prog 37 #[v0] w0 (fun e w' => ∃ v, e = .returned v ∧ pack_Ints_Len.post w0 r v w') := by
  have hS : Sat w0 (rf w0) [] := Sat.start w0
  unfold pack_Ints_Len.f at H
  refine calls_of_WC (vs := [v0]) Try.func37 (c := C37) (n := 9) (by kernel_rfl) (by kernel_rfl) (by kernel_rfl) ?_
  refine WC.seq (by kernel_rfl) ?_
  refine WC.reg [0] (by kernel_rfl) (by kernel_rfl) ?_
  refine WR.runk [0] [] [0] (L' := [(0, v0)]) (w' := w0) (by kernel_rfl) ?_
  refine WR.nil ?_
  refine At.go ?_
  refine WC.seq (by kernel_rfl) ?_
  refine WC.seq (by kernel_rfl) ?_
  refine WC.reg [0, 1] (by kernel_rfl) (by kernel_rfl) ?_
  refine WR.runk [0] [1] [0, 3] (L' := [(0, v0), (3, v0)]) (w' := w0) (by kernel_rfl) ?_
  rcases opt_cases p0 with hr1 | ⟨y3, hr1⟩
  · rw [hr1] at H
    dsimp only at H
    have hx2 := rd_ptr_none R0 hr1
    try subst hx2
    refine WR.runk [1] [] [0, 4] (L' := [(0, .pointer none), (4, .bool true)]) (w' := w0) (by kernel_rfl) ?_
    refine WR.nil ?_
    refine At.go ?_
    refine WC.condT (by kernel_rfl) (by kernel_rfl) (by kernel_rfl) ?_
    refine WC.seq (by kernel_rfl) ?_
    refine WC.reg [0] (by kernel_rfl) (by kernel_rfl) ?_
    refine WR.runk [0] [] [2] (L' := [(2, .int .i64 0)]) (w' := w0) (by kernel_rfl) ?_
    refine WR.nil ?_
    refine At.go ?_
    refine WC.ret (by kernel_rfl) ?_
    refine At.thenRet ?_
    obtain rfl := Option.some.inj H
    have hS : Sat w0 (rf w0) [] := hS.sel [] (by kernel_rfl)
    exact At.body [.int .i64 0] (by kernel_rfl) ⟨_, rfl, rfl, hS⟩
  · rw [hr1] at H
    dsimp only at H
    obtain ⟨b4, fr5, A9, c10, hv6, hb7, R11⟩ := P66.open R0 hr1
    have R8 := R0
    rw [hv6, hr1] at R8
    try subst hv6
    replace R11 : rdS (r0 (.int .u64)) 1 (hp w0) A9 c10 y3.2.2 := R11
    refine WR.runk [1] [] [0, 4] (L' := [(0, .pointer (some ⟨b4, 0, none⟩)), (4, .bool false)]) (w' := w0) (by kernel_rfl) ?_
    refine WR.nil ?_
    refine At.go ?_
    refine WC.condF (by kernel_rfl) (by kernel_rfl) (by kernel_rfl) ?_
    refine WC.skip (by kernel_rfl) ?_
    refine At.go ?_
    refine WC.seq (by kernel_rfl) ?_
    refine WC.reg [0, 1, 2, 3, 4] (by kernel_rfl) (by kernel_rfl) ?_
    refine WR.runk [0, 1, 2] [3, 4] [7] (L' := [(7, .pointer (some ⟨b4, 1, none⟩))]) (w' := w0) (by kernel_rfl) ?_
    refine WR.st (St.ofR (RSt.loadRo (t := 3) (k := 1) (v := .int .i64 y3.2.1) (.tmp 7) (by kernel_rfl) (by kernel_rfl) (by kernel_rfl) hS.sub0 hb7 (by kernel_rfl) rfl ?_))
    refine WR.runk [4] [] [2] (L' := [(2, .int .i64 y3.2.1)]) (w' := w0) (by kernel_rfl) ?_
    refine WR.nil ?_
    refine At.go ?_
    refine WC.ret (by kernel_rfl) ?_
    obtain rfl := Option.some.inj H
    have hS : Sat w0 (rf w0) [] := hS.sel [] (by kernel_rfl)
    exact At.body [.int .i64 y3.2.1] (by kernel_rfl) ⟨_, rfl, rfl, hS⟩
/-! ### 42 slices.Clone[[]uint64,uint64] -/
def slices_Clone.f (l0 : List Int) : Option (List Int) := ((app? 17592186044416 (([] : List Int) : List Int) l0).bind fun y5 => some y5)
def slices_Clone.post (w : World) (r : (List Int)) (v : Value) (w' : World) : Prop := ∃ (A0' : Option Addr) (c0' : Nat), v = (.slice A0' r.length c0' : Value) ∧ Sat w' (rf w) [osl 43 (r0 (.int .u64)) 1 A0' c0' r]
theorem slices_Clone.calls (w0 : World) (A0 : Option Addr) (c0 : Nat) (l0 : List Int) (R0 : rdS (r0 (.int .u64)) 1 (hp w0) A0 c0 l0) (r : (List Int)) (H : slices_Clone.f l0 = some r) :
    Calls Try.prog 42 #[.slice A0 l0.length c0] w0 (fun e w' => ∃ v, e = .returned v ∧ slices_Clone.post w0 r v w') := by
  have hS : Sat w0 (rf w0) [] := Sat.start w0
  unfold slices_Clone.f at H
  refine calls_of_WC (vs := [.slice A0 l0.length c0]) Try.func42 (c := C42) (n := 8) (by kernel_rfl) (by kernel_rfl) (by kernel_rfl) ?_
  refine WC.seq (by kernel_rfl) ?_
  refine WC.reg [0] (by kernel_rfl) (by kernel_rfl) ?_
  refine WR.runk [0] [] [0] (L' := [(0, .slice A0 l0.length c0)]) (w' := w0) (by kernel_rfl) ?_
  refine WR.nil ?_
  refine At.go ?_
  refine WC.seq (by kernel_rfl) ?_
  refine WC.seq (by kernel_rfl) ?_
  refine WC.reg [0, 1] (by kernel_rfl) (by kernel_rfl) ?_
  refine WR.runk [0] [1] [0, 3] (L' := [(0, .slice A0 l0.length c0), (3, .slice A0 l0.length c0)]) (w' := w0) (by kernel_rfl) ?_
  refine WR.st (St.ofP (PSt.eqNil (t := 35) (t2 := 35) (e := 43) (A := A0) (m := l0.length) (c := c0) .eql (by decide) (.tmp 3) (by kernel_rfl) (by kernel_rfl) (by kernel_rfl) (by kernel_rfl) ?_))
  refine WR.runk [] [] [0, 4] (L' := [(0, .slice A0 l0.length c0), (4, .bool A0.isNone)]) (w' := w0) (by kernel_rfl) ?_
  refine WR.nil ?_
  refine At.go ?_
  refine WC.cond (by kernel_rfl) A0.isNone (by kernel_rfl) (by kernel_rfl) (fun hb1 => ?_) (fun hb1 => ?_)
  · have hnl := rdS.isNone (rdS.up R0 hS.sub0) (by simpa using hb1)
    rw [hnl] at H
    refine WC.seq (by kernel_rfl) ?_
    refine WC.reg [0] (by kernel_rfl) (by kernel_rfl) ?_
    refine WR.runk [0] [] [2] (L' := [(2, .slice none 0 0)]) (w' := w0) (by kernel_rfl) ?_
    refine WR.nil ?_
    refine At.go ?_
    refine WC.ret (by kernel_rfl) ?_
    refine At.thenRet ?_
    obtain rfl := Option.some.inj (show some ([] : List Int) = some r from H)
    have hS := hS.addNil (α := Int) 43 (r0 (.int .u64)) 1
    have hS : Sat w0 (rf w0) [osl 43 (r0 (.int .u64)) 1 none 0 ([] : List Int)] := hS.sel [0] (by kernel_rfl)
    exact At.body [.slice none 0 0] (by kernel_rfl) ⟨_, rfl, _, _, rfl, hS⟩
  · refine WC.skip (by kernel_rfl) ?_
    refine At.go ?_
    refine WC.seq (by kernel_rfl) ?_
    refine WC.reg [0, 1, 2, 3] (by kernel_rfl) (by kernel_rfl) ?_
    refine WR.runk [] [0, 1, 2, 3] [0] (L' := [(0, .slice A0 l0.length c0)]) (w' := w0) (by kernel_rfl) ?_
    refine WR.st (St.box hS (by kernel_rfl) (.cells #[] 43) (fun b2 => .slice (some ⟨b2, 0, none⟩) 0 0) (fun _ => by kernel_rfl) (fun b2 w3 hS => ?_))
    refine WR.runk [1] [2, 3] [5, 6] (L' := [(5, .slice (some ⟨b2, 0, none⟩) 0 0), (6, .slice A0 l0.length c0)]) (w' := w3) (by kernel_rfl) ?_
    have hS : Sat w3 (rf w0) [osl 43 (r0 (.int .u64)) 1 (some ⟨b2, 0, none⟩) (([] : List Int) : List Int).length (([] : List Int) : List Int)] := Sat.toOsl' (r0 (.int .u64)) 1 (([] : List Int) : List Int) hS rfl (rdL.nil _ _)
    obtain ⟨y5, e4, H⟩ := bind_ex H
    refine WR.st (St.append' (.tmp 5) (.tmp 6) (by kernel_rfl) (by kernel_rfl) E35 (r0_one _) hS (by kernel_rfl) (by kernel_rfl) (rdS.up R0 hS.sub0) 17592186044416 (by kernel_rfl) (by kernel_rfl) e4 (fun A6 c7 w8 hS => ?_))
    refine WR.runk [3] [] [2] (L' := [(2, .slice A6 y5.length c7)]) (w' := w8) (by kernel_rfl) ?_
    refine WR.nil ?_
    refine At.go ?_
    refine WC.ret (by kernel_rfl) ?_
    obtain rfl := Option.some.inj H
    have hS : Sat w8 (rf w0) [osl 43 (r0 (.int .u64)) 1 A6 c7 y5] := hS.sel [0] (by kernel_rfl)
    exact At.body [.slice A6 y5.length c7] (by kernel_rfl) ⟨_, rfl, _, _, rfl, hS⟩
/-! ### 27 (*colophon/pack.Ints).Words -/
def pack_Ints_Words.f (p0 : Option (Int × Int × (List Int))) : Option (List Int) := (match p0 with | none => some ([] : List Int) | some y3 => ((slices_Clone.f y3.2.2).bind fun r12 => some r12))
def pack_Ints_Words.post (w : World) (r : (List Int)) (v : Value) (w' : World) : Prop := ∃ (A0' : Option Addr) (c0' : Nat), v = (.slice A0' r.length c0' : Value) ∧ Sat w' (rf w) [osl 43 (r0 (.int .u64)) 1 A0' c0' r]
theorem pack_Ints_Words.calls (w0 : World) (v0 : Value) (p0 : Option (Int × Int × (List Int))) (R0 : rd (hp w0) (.ptr 66 (.pair (.int .i64) (.pair (.int .i64) (.slice 43 (.int .u64))))) [v0] p0) (r : (List Int)) (H : pack_Ints_Words.f p0 = some r) :
    Calls Try.prog 27 #[v0] w0 (fun e w' => ∃ v, e = .returned v ∧ pack_Ints_Words.post w0 r v w') := by
  have hS : Sat w0 (rf w0) [] := Sat.start w0
  unfold pack_Ints_Words.f at H
  refine calls_of_WC (vs := [v0]) Try.func27 (c := C27) (n := 10) (by kernel_rfl) (by kernel_rfl) (by kernel_rfl) ?_
  refine WC.seq (by kernel_rfl) ?_
  refine WC.reg [0] (by kernel_rfl) (by kernel_rfl) ?_
  refine WR.runk [0] [] [0] (L' := [(0, v0)]) (w' := w0) (by kernel_rfl) ?_
  refine WR.nil ?_
  refine At.go ?_
  refine WC.seq (by kernel_rfl) ?_
  refine WC.seq (by kernel_rfl) ?_
  refine WC.reg [0, 1] (by kernel_rfl) (by kernel_rfl) ?_
  refine WR.runk [0] [1] [0, 3] (L' := [(0, v0), (3, v0)]) (w' := w0) (by kernel_rfl) ?_
  rcases opt_cases p0 with hr1 | ⟨y3, hr1⟩
  · rw [hr1] at H
    dsimp only at H
    have hx2 := rd_ptr_none R0 hr1
    try subst hx2
    refine WR.runk [1] [] [0, 4] (L' := [(0, .pointer none), (4, .bool true)]) (w' := w0) (by kernel_rfl) ?_
    refine WR.nil ?_
    refine At.go ?_
    refine WC.condT (by kernel_rfl) (by kernel_rfl) (by kernel_rfl) ?_
    refine WC.seq (by kernel_rfl) ?_
    refine WC.reg [0] (by kernel_rfl) (by kernel_rfl) ?_
    refine WR.runk [0] [] [2] (L' := [(2, .slice none 0 0)]) (w' := w0) (by kernel_rfl) ?_
    refine WR.nil ?_
    refine At.go ?_
    refine WC.ret (by kernel_rfl) ?_
    refine At.thenRet ?_
    obtain rfl := Option.some.inj H
    have hS := hS.addNil (α := Int) 43 (r0 (.int .u64)) 1
    have hS : Sat w0 (rf w0) [osl 43 (r0 (.int .u64)) 1 none 0 ([] : List Int)] := hS.sel [0] (by kernel_rfl)
    exact At.body [.slice none 0 0] (by kernel_rfl) ⟨_, rfl, _, _, rfl, hS⟩
  · rw [hr1] at H
    dsimp only at H
    obtain ⟨b4, fr5, A9, c10, hv6, hb7, R11⟩ := P66.open R0 hr1
    have R8 := R0
    rw [hv6, hr1] at R8
    try subst hv6
    replace R11 : rdS (r0 (.int .u64)) 1 (hp w0) A9 c10 y3.2.2 := R11
    refine WR.runk [1] [] [0, 4] (L' := [(0, .pointer (some ⟨b4, 0, none⟩)), (4, .bool false)]) (w' := w0) (by kernel_rfl) ?_
    refine WR.nil ?_
    refine At.go ?_
    refine WC.condF (by kernel_rfl) (by kernel_rfl) (by kernel_rfl) ?_
    refine WC.skip (by kernel_rfl) ?_
    refine At.go ?_
    refine WC.seq (by kernel_rfl) ?_
    refine WC.reg [0, 1, 2, 3, 4, 5] (by kernel_rfl) (by kernel_rfl) ?_
    refine WR.runk [0, 1, 2] [3, 4, 5] [7] (L' := [(7, .pointer (some ⟨b4, 2, none⟩))]) (w' := w0) (by kernel_rfl) ?_
    refine WR.st (St.ofR (RSt.loadRo (t := 35) (k := 2) (v := .slice A9 y3.2.2.length c10) (.tmp 7) (by kernel_rfl) (by kernel_rfl) (by kernel_rfl) hS.sub0 hb7 (by kernel_rfl) rfl ?_))
    refine WR.runk [] [4, 5] [8] (L' := [(8, .slice A9 y3.2.2.length c10)]) (w' := w0) (by kernel_rfl) ?_
    obtain ⟨r12, e13, H⟩ := bind_ex H
    refine WR.st (St.call (by kernel_rfl) (f := 42) (args := #[.slice A9 y3.2.2.length c10]) (by kernel_rfl) (slices_Clone.calls w0 A9 c10 y3.2.2 (rdS.up R11 hS.sub0) r12 e13) ?_)
    rintro _ w19 ⟨A21, c22, rfl, hS20⟩
    have hS : Sat w19 (rf w0) [osl 43 (r0 (.int .u64)) 1 A21 c22 r12] := hS.ext hS20
    refine WR.runk [5] [] [2] (L' := [(2, .slice A21 r12.length c22)]) (w' := w19) (by kernel_rfl) ?_
    refine WR.nil ?_
    refine At.go ?_
    refine WC.ret (by kernel_rfl) ?_
    obtain rfl := Option.some.inj H
    have hS : Sat w19 (rf w0) [osl 43 (r0 (.int .u64)) 1 A21 c22 r12] := hS.sel [0] (by kernel_rfl)
    exact At.body [.slice A21 r12.length c22] (by kernel_rfl) ⟨_, rfl, _, _, rfl, hS⟩
/-! ### 38 math/bits.OnesCount64 -/
def bits_OnesCount64.f (a0 : Int) : Option Int := some (iand .i64 (wi (IntKind.wrap .u64 ((IntKind.wrap .u64 ((IntKind.wrap .u64 ((iand .u64 (IntKind.wrap .u64 ((ishr .u64 (IntKind.wrap .u64 ((iand .u64 (ishr .u64 (IntKind.wrap .u64 ((iand .u64 (ishr .u64 a0 1) 6148914691236517205) + (iand .u64 a0 6148914691236517205))) 2) 3689348814741910323) + (iand .u64 (IntKind.wrap .u64 ((iand .u64 (ishr .u64 a0 1) 6148914691236517205) + (iand .u64 a0 6148914691236517205))) 3689348814741910323))) 4) + (IntKind.wrap .u64 ((iand .u64 (ishr .u64 (IntKind.wrap .u64 ((iand .u64 (ishr .u64 a0 1) 6148914691236517205) + (iand .u64 a0 6148914691236517205))) 2) 3689348814741910323) + (iand .u64 (IntKind.wrap .u64 ((iand .u64 (ishr .u64 a0 1) 6148914691236517205) + (iand .u64 a0 6148914691236517205))) 3689348814741910323))))) 1085102592571150095) + (ishr .u64 (iand .u64 (IntKind.wrap .u64 ((ishr .u64 (IntKind.wrap .u64 ((iand .u64 (ishr .u64 (IntKind.wrap .u64 ((iand .u64 (ishr .u64 a0 1) 6148914691236517205) + (iand .u64 a0 6148914691236517205))) 2) 3689348814741910323) + (iand .u64 (IntKind.wrap .u64 ((iand .u64 (ishr .u64 a0 1) 6148914691236517205) + (iand .u64 a0 6148914691236517205))) 3689348814741910323))) 4) + (IntKind.wrap .u64 ((iand .u64 (ishr .u64 (IntKind.wrap .u64 ((iand .u64 (ishr .u64 a0 1) 6148914691236517205) + (iand .u64 a0 6148914691236517205))) 2) 3689348814741910323) + (iand .u64 (IntKind.wrap .u64 ((iand .u64 (ishr .u64 a0 1) 6148914691236517205) + (iand .u64 a0 6148914691236517205))) 3689348814741910323))))) 1085102592571150095) 8))) + (ishr .u64 (IntKind.wrap .u64 ((iand .u64 (IntKind.wrap .u64 ((ishr .u64 (IntKind.wrap .u64 ((iand .u64 (ishr .u64 (IntKind.wrap .u64 ((iand .u64 (ishr .u64 a0 1) 6148914691236517205) + (iand .u64 a0 6148914691236517205))) 2) 3689348814741910323) + (iand .u64 (IntKind.wrap .u64 ((iand .u64 (ishr .u64 a0 1) 6148914691236517205) + (iand .u64 a0 6148914691236517205))) 3689348814741910323))) 4) + (IntKind.wrap .u64 ((iand .u64 (ishr .u64 (IntKind.wrap .u64 ((iand .u64 (ishr .u64 a0 1) 6148914691236517205) + (iand .u64 a0 6148914691236517205))) 2) 3689348814741910323) + (iand .u64 (IntKind.wrap .u64 ((iand .u64 (ishr .u64 a0 1) 6148914691236517205) + (iand .u64 a0 6148914691236517205))) 3689348814741910323))))) 1085102592571150095) + (ishr .u64 (iand .u64 (IntKind.wrap .u64 ((ishr .u64 (IntKind.wrap .u64 ((iand .u64 (ishr .u64 (IntKind.wrap .u64 ((iand .u64 (ishr .u64 a0 1) 6148914691236517205) + (iand .u64 a0 6148914691236517205))) 2) 3689348814741910323) + (iand .u64 (IntKind.wrap .u64 ((iand .u64 (ishr .u64 a0 1) 6148914691236517205) + (iand .u64 a0 6148914691236517205))) 3689348814741910323))) 4) + (IntKind.wrap .u64 ((iand .u64 (ishr .u64 (IntKind.wrap .u64 ((iand .u64 (ishr .u64 a0 1) 6148914691236517205) + (iand .u64 a0 6148914691236517205))) 2) 3689348814741910323) + (iand .u64 (IntKind.wrap .u64 ((iand .u64 (ishr .u64 a0 1) 6148914691236517205) + (iand .u64 a0 6148914691236517205))) 3689348814741910323))))) 1085102592571150095) 8))) 16))) + (ishr .u64 (IntKind.wrap .u64 ((IntKind.wrap .u64 ((iand .u64 (IntKind.wrap .u64 ((ishr .u64 (IntKind.wrap .u64 ((iand .u64 (ishr .u64 (IntKind.wrap .u64 ((iand .u64 (ishr .u64 a0 1) 6148914691236517205) + (iand .u64 a0 6148914691236517205))) 2) 3689348814741910323) + (iand .u64 (IntKind.wrap .u64 ((iand .u64 (ishr .u64 a0 1) 6148914691236517205) + (iand .u64 a0 6148914691236517205))) 3689348814741910323))) 4) + (IntKind.wrap .u64 ((iand .u64 (ishr .u64 (IntKind.wrap .u64 ((iand .u64 (ishr .u64 a0 1) 6148914691236517205) + (iand .u64 a0 6148914691236517205))) 2) 3689348814741910323) + (iand .u64 (IntKind.wrap .u64 ((iand .u64 (ishr .u64 a0 1) 6148914691236517205) + (iand .u64 a0 6148914691236517205))) 3689348814741910323))))) 1085102592571150095) + (ishr .u64 (iand .u64 (IntKind.wrap .u64 ((ishr .u64 (IntKind.wrap .u64 ((iand .u64 (ishr .u64 (IntKind.wrap .u64 ((iand .u64 (ishr .u64 a0 1) 6148914691236517205) + (iand .u64 a0 6148914691236517205))) 2) 3689348814741910323) + (iand .u64 (IntKind.wrap .u64 ((iand .u64 (ishr .u64 a0 1) 6148914691236517205) + (iand .u64 a0 6148914691236517205))) 3689348814741910323))) 4) + (IntKind.wrap .u64 ((iand .u64 (ishr .u64 (IntKind.wrap .u64 ((iand .u64 (ishr .u64 a0 1) 6148914691236517205) + (iand .u64 a0 6148914691236517205))) 2) 3689348814741910323) + (iand .u64 (IntKind.wrap .u64 ((iand .u64 (ishr .u64 a0 1) 6148914691236517205) + (iand .u64 a0 6148914691236517205))) 3689348814741910323))))) 1085102592571150095) 8))) + (ishr .u64 (IntKind.wrap .u64 ((iand .u64 (IntKind.wrap .u64 ((ishr .u64 (IntKind.wrap .u64 ((iand .u64 (ishr .u64 (IntKind.wrap .u64 ((iand .u64 (ishr .u64 a0 1) 6148914691236517205) + (iand .u64 a0 6148914691236517205))) 2) 3689348814741910323) + (iand .u64 (IntKind.wrap .u64 ((iand .u64 (ishr .u64 a0 1) 6148914691236517205) + (iand .u64 a0 6148914691236517205))) 3689348814741910323))) 4) + (IntKind.wrap .u64 ((iand .u64 (ishr .u64 (IntKind.wrap .u64 ((iand .u64 (ishr .u64 a0 1) 6148914691236517205) + (iand .u64 a0 6148914691236517205))) 2) 3689348814741910323) + (iand .u64 (IntKind.wrap .u64 ((iand .u64 (ishr .u64 a0 1) 6148914691236517205) + (iand .u64 a0 6148914691236517205))) 3689348814741910323))))) 1085102592571150095) + (ishr .u64 (iand .u64 (IntKind.wrap .u64 ((ishr .u64 (IntKind.wrap .u64 ((iand .u64 (ishr .u64 (IntKind.wrap .u64 ((iand .u64 (ishr .u64 a0 1) 6148914691236517205) + (iand .u64 a0 6148914691236517205))) 2) 3689348814741910323) + (iand .u64 (IntKind.wrap .u64 ((iand .u64 (ishr .u64 a0 1) 6148914691236517205) + (iand .u64 a0 6148914691236517205))) 3689348814741910323))) 4) + (IntKind.wrap .u64 ((iand .u64 (ishr .u64 (IntKind.wrap .u64 ((iand .u64 (ishr .u64 a0 1) 6148914691236517205) + (iand .u64 a0 6148914691236517205))) 2) 3689348814741910323) + (iand .u64 (IntKind.wrap .u64 ((iand .u64 (ishr .u64 a0 1) 6148914691236517205) + (iand .u64 a0 6148914691236517205))) 3689348814741910323))))) 1085102592571150095) 8))) 16))) 32)))) 127)
def bits_OnesCount64.post (w : World) (r : Int) (v : Value) (w' : World) : Prop := v = (.int .i64 r : Value) ∧ Sat w' (rf w) []
theorem bits_OnesCount64.calls (w0 : World) (a0 : Int) (r : Int) (H : bits_OnesCount64.f a0 = some r) :
    Calls Try.prog 38 #[.int .u64 a0] w0 (fun e w' => ∃ v, e = .returned v ∧ bits_OnesCount64.post w0 r v w') := by
  have hS : Sat w0 (rf w0) [] := Sat.start w0
  unfold bits_OnesCount64.f at H
  refine calls_of_WC (vs := [.int .u64 a0]) Try.func38 (c := C38) (n := 35) (by kernel_rfl) (by kernel_rfl) (by kernel_rfl) ?_
  refine WC.seq (by kernel_rfl) ?_
  refine WC.reg [0] (by kernel_rfl) (by kernel_rfl) ?_
  refine WR.runk [0] [] [0] (L' := [(0, .int .u64 a0)]) (w' := w0) (by kernel_rfl) ?_
  refine WR.nil ?_
  refine At.go ?_
  refine WC.seq (by kernel_rfl) ?_
  refine WC.reg [0, 1, 2, 3, 4, 5, 6] (by kernel_rfl) (by kernel_rfl) ?_
  refine WR.runk [0, 1, 2, 3, 4, 5, 6] [] [0] (L' := [(0, .int .u64 (IntKind.wrap .u64 ((iand .u64 (ishr .u64 a0 1) 6148914691236517205) + (iand .u64 a0 6148914691236517205))))]) (w' := w0) (by kernel_rfl) ?_
  refine WR.nil ?_
  refine At.go ?_
  refine WC.seq (by kernel_rfl) ?_
  refine WC.reg [0, 1, 2, 3, 4, 5, 6] (by kernel_rfl) (by kernel_rfl) ?_
  refine WR.runk [0, 1, 2, 3, 4, 5, 6] [] [0] (L' := [(0, .int .u64 (IntKind.wrap .u64 ((iand .u64 (ishr .u64 (IntKind.wrap .u64 ((iand .u64 (ishr .u64 a0 1) 6148914691236517205) + (iand .u64 a0 6148914691236517205))) 2) 3689348814741910323) + (iand .u64 (IntKind.wrap .u64 ((iand .u64 (ishr .u64 a0 1) 6148914691236517205) + (iand .u64 a0 6148914691236517205))) 3689348814741910323))))]) (w' := w0) (by kernel_rfl) ?_
  refine WR.nil ?_
  refine At.go ?_
  refine WC.seq (by kernel_rfl) ?_
  refine WC.reg [0, 1, 2, 3, 4, 5] (by kernel_rfl) (by kernel_rfl) ?_
  refine WR.runk [0, 1, 2, 3, 4, 5] [] [0] (L' := [(0, .int .u64 (iand .u64 (IntKind.wrap .u64 ((ishr .u64 (IntKind.wrap .u64 ((iand .u64 (ishr .u64 (IntKind.wrap .u64 ((iand .u64 (ishr .u64 a0 1) 6148914691236517205) + (iand .u64 a0 6148914691236517205))) 2) 3689348814741910323) + (iand .u64 (IntKind.wrap .u64 ((iand .u64 (ishr .u64 a0 1) 6148914691236517205) + (iand .u64 a0 6148914691236517205))) 3689348814741910323))) 4) + (IntKind.wrap .u64 ((iand .u64 (ishr .u64 (IntKind.wrap .u64 ((iand .u64 (ishr .u64 a0 1) 6148914691236517205) + (iand .u64 a0 6148914691236517205))) 2) 3689348814741910323) + (iand .u64 (IntKind.wrap .u64 ((iand .u64 (ishr .u64 a0 1) 6148914691236517205) + (iand .u64 a0 6148914691236517205))) 3689348814741910323))))) 1085102592571150095))]) (w' := w0) (by kernel_rfl) ?_
  refine WR.nil ?_
  refine At.go ?_
  refine WC.seq (by kernel_rfl) ?_
  refine WC.reg [0, 1, 2, 3, 4] (by kernel_rfl) (by kernel_rfl) ?_
  refine WR.runk [0, 1, 2, 3, 4] [] [0] (L' := [(0, .int .u64 (IntKind.wrap .u64 ((iand .u64 (IntKind.wrap .u64 ((ishr .u64 (IntKind.wrap .u64 ((iand .u64 (ishr .u64 (IntKind.wrap .u64 ((iand .u64 (ishr .u64 a0 1) 6148914691236517205) + (iand .u64 a0 6148914691236517205))) 2) 3689348814741910323) + (iand .u64 (IntKind.wrap .u64 ((iand .u64 (ishr .u64 a0 1) 6148914691236517205) + (iand .u64 a0 6148914691236517205))) 3689348814741910323))) 4) + (IntKind.wrap .u64 ((iand .u64 (ishr .u64 (IntKind.wrap .u64 ((iand .u64 (ishr .u64 a0 1) 6148914691236517205) + (iand .u64 a0 6148914691236517205))) 2) 3689348814741910323) + (iand .u64 (IntKind.wrap .u64 ((iand .u64 (ishr .u64 a0 1) 6148914691236517205) + (iand .u64 a0 6148914691236517205))) 3689348814741910323))))) 1085102592571150095) + (ishr .u64 (iand .u64 (IntKind.wrap .u64 ((ishr .u64 (IntKind.wrap .u64 ((iand .u64 (ishr .u64 (IntKind.wrap .u64 ((iand .u64 (ishr .u64 a0 1) 6148914691236517205) + (iand .u64 a0 6148914691236517205))) 2) 3689348814741910323) + (iand .u64 (IntKind.wrap .u64 ((iand .u64 (ishr .u64 a0 1) 6148914691236517205) + (iand .u64 a0 6148914691236517205))) 3689348814741910323))) 4) + (IntKind.wrap .u64 ((iand .u64 (ishr .u64 (IntKind.wrap .u64 ((iand .u64 (ishr .u64 a0 1) 6148914691236517205) + (iand .u64 a0 6148914691236517205))) 2) 3689348814741910323) + (iand .u64 (IntKind.wrap .u64 ((iand .u64 (ishr .u64 a0 1) 6148914691236517205) + (iand .u64 a0 6148914691236517205))) 3689348814741910323))))) 1085102592571150095) 8))))]) (w' := w0) (by kernel_rfl) ?_
  refine WR.nil ?_
  refine At.go ?_
  refine WC.seq (by kernel_rfl) ?_
  refine WC.reg [0, 1, 2, 3, 4] (by kernel_rfl) (by kernel_rfl) ?_
  refine WR.runk [0, 1, 2, 3, 4] [] [0] (L' := [(0, .int .u64 (IntKind.wrap .u64 ((IntKind.wrap .u64 ((iand .u64 (IntKind.wrap .u64 ((ishr .u64 (IntKind.wrap .u64 ((iand .u64 (ishr .u64 (IntKind.wrap .u64 ((iand .u64 (ishr .u64 a0 1) 6148914691236517205) + (iand .u64 a0 6148914691236517205))) 2) 3689348814741910323) + (iand .u64 (IntKind.wrap .u64 ((iand .u64 (ishr .u64 a0 1) 6148914691236517205) + (iand .u64 a0 6148914691236517205))) 3689348814741910323))) 4) + (IntKind.wrap .u64 ((iand .u64 (ishr .u64 (IntKind.wrap .u64 ((iand .u64 (ishr .u64 a0 1) 6148914691236517205) + (iand .u64 a0 6148914691236517205))) 2) 3689348814741910323) + (iand .u64 (IntKind.wrap .u64 ((iand .u64 (ishr .u64 a0 1) 6148914691236517205) + (iand .u64 a0 6148914691236517205))) 3689348814741910323))))) 1085102592571150095) + (ishr .u64 (iand .u64 (IntKind.wrap .u64 ((ishr .u64 (IntKind.wrap .u64 ((iand .u64 (ishr .u64 (IntKind.wrap .u64 ((iand .u64 (ishr .u64 a0 1) 6148914691236517205) + (iand .u64 a0 6148914691236517205))) 2) 3689348814741910323) + (iand .u64 (IntKind.wrap .u64 ((iand .u64 (ishr .u64 a0 1) 6148914691236517205) + (iand .u64 a0 6148914691236517205))) 3689348814741910323))) 4) + (IntKind.wrap .u64 ((iand .u64 (ishr .u64 (IntKind.wrap .u64 ((iand .u64 (ishr .u64 a0 1) 6148914691236517205) + (iand .u64 a0 6148914691236517205))) 2) 3689348814741910323) + (iand .u64 (IntKind.wrap .u64 ((iand .u64 (ishr .u64 a0 1) 6148914691236517205) + (iand .u64 a0 6148914691236517205))) 3689348814741910323))))) 1085102592571150095) 8))) + (ishr .u64 (IntKind.wrap .u64 ((iand .u64 (IntKind.wrap .u64 ((ishr .u64 (IntKind.wrap .u64 ((iand .u64 (ishr .u64 (IntKind.wrap .u64 ((iand .u64 (ishr .u64 a0 1) 6148914691236517205) + (iand .u64 a0 6148914691236517205))) 2) 3689348814741910323) + (iand .u64 (IntKind.wrap .u64 ((iand .u64 (ishr .u64 a0 1) 6148914691236517205) + (iand .u64 a0 6148914691236517205))) 3689348814741910323))) 4) + (IntKind.wrap .u64 ((iand .u64 (ishr .u64 (IntKind.wrap .u64 ((iand .u64 (ishr .u64 a0 1) 6148914691236517205) + (iand .u64 a0 6148914691236517205))) 2) 3689348814741910323) + (iand .u64 (IntKind.wrap .u64 ((iand .u64 (ishr .u64 a0 1) 6148914691236517205) + (iand .u64 a0 6148914691236517205))) 3689348814741910323))))) 1085102592571150095) + (ishr .u64 (iand .u64 (IntKind.wrap .u64 ((ishr .u64 (IntKind.wrap .u64 ((iand .u64 (ishr .u64 (IntKind.wrap .u64 ((iand .u64 (ishr .u64 a0 1) 6148914691236517205) + (iand .u64 a0 6148914691236517205))) 2) 3689348814741910323) + (iand .u64 (IntKind.wrap .u64 ((iand .u64 (ishr .u64 a0 1) 6148914691236517205) + (iand .u64 a0 6148914691236517205))) 3689348814741910323))) 4) + (IntKind.wrap .u64 ((iand .u64 (ishr .u64 (IntKind.wrap .u64 ((iand .u64 (ishr .u64 a0 1) 6148914691236517205) + (iand .u64 a0 6148914691236517205))) 2) 3689348814741910323) + (iand .u64 (IntKind.wrap .u64 ((iand .u64 (ishr .u64 a0 1) 6148914691236517205) + (iand .u64 a0 6148914691236517205))) 3689348814741910323))))) 1085102592571150095) 8))) 16))))]) (w' := w0) (by kernel_rfl) ?_
  refine WR.nil ?_
  refine At.go ?_
  refine WC.seq (by kernel_rfl) ?_
  refine WC.reg [0, 1, 2, 3, 4] (by kernel_rfl) (by kernel_rfl) ?_
  refine WR.runk [0, 1, 2, 3, 4] [] [0] (L' := [(0, .int .u64 (IntKind.wrap .u64 ((IntKind.wrap .u64 ((IntKind.wrap .u64 ((iand .u64 (IntKind.wrap .u64 ((ishr .u64 (IntKind.wrap .u64 ((iand .u64 (ishr .u64 (IntKind.wrap .u64 ((iand .u64 (ishr .u64 a0 1) 6148914691236517205) + (iand .u64 a0 6148914691236517205))) 2) 3689348814741910323) + (iand .u64 (IntKind.wrap .u64 ((iand .u64 (ishr .u64 a0 1) 6148914691236517205) + (iand .u64 a0 6148914691236517205))) 3689348814741910323))) 4) + (IntKind.wrap .u64 ((iand .u64 (ishr .u64 (IntKind.wrap .u64 ((iand .u64 (ishr .u64 a0 1) 6148914691236517205) + (iand .u64 a0 6148914691236517205))) 2) 3689348814741910323) + (iand .u64 (IntKind.wrap .u64 ((iand .u64 (ishr .u64 a0 1) 6148914691236517205) + (iand .u64 a0 6148914691236517205))) 3689348814741910323))))) 1085102592571150095) + (ishr .u64 (iand .u64 (IntKind.wrap .u64 ((ishr .u64 (IntKind.wrap .u64 ((iand .u64 (ishr .u64 (IntKind.wrap .u64 ((iand .u64 (ishr .u64 a0 1) 6148914691236517205) + (iand .u64 a0 6148914691236517205))) 2) 3689348814741910323) + (iand .u64 (IntKind.wrap .u64 ((iand .u64 (ishr .u64 a0 1) 6148914691236517205) + (iand .u64 a0 6148914691236517205))) 3689348814741910323))) 4) + (IntKind.wrap .u64 ((iand .u64 (ishr .u64 (IntKind.wrap .u64 ((iand .u64 (ishr .u64 a0 1) 6148914691236517205) + (iand .u64 a0 6148914691236517205))) 2) 3689348814741910323) + (iand .u64 (IntKind.wrap .u64 ((iand .u64 (ishr .u64 a0 1) 6148914691236517205) + (iand .u64 a0 6148914691236517205))) 3689348814741910323))))) 1085102592571150095) 8))) + (ishr .u64 (IntKind.wrap .u64 ((iand .u64 (IntKind.wrap .u64 ((ishr .u64 (IntKind.wrap .u64 ((iand .u64 (ishr .u64 (IntKind.wrap .u64 ((iand .u64 (ishr .u64 a0 1) 6148914691236517205) + (iand .u64 a0 6148914691236517205))) 2) 3689348814741910323) + (iand .u64 (IntKind.wrap .u64 ((iand .u64 (ishr .u64 a0 1) 6148914691236517205) + (iand .u64 a0 6148914691236517205))) 3689348814741910323))) 4) + (IntKind.wrap .u64 ((iand .u64 (ishr .u64 (IntKind.wrap .u64 ((iand .u64 (ishr .u64 a0 1) 6148914691236517205) + (iand .u64 a0 6148914691236517205))) 2) 3689348814741910323) + (iand .u64 (IntKind.wrap .u64 ((iand .u64 (ishr .u64 a0 1) 6148914691236517205) + (iand .u64 a0 6148914691236517205))) 3689348814741910323))))) 1085102592571150095) + (ishr .u64 (iand .u64 (IntKind.wrap .u64 ((ishr .u64 (IntKind.wrap .u64 ((iand .u64 (ishr .u64 (IntKind.wrap .u64 ((iand .u64 (ishr .u64 a0 1) 6148914691236517205) + (iand .u64 a0 6148914691236517205))) 2) 3689348814741910323) + (iand .u64 (IntKind.wrap .u64 ((iand .u64 (ishr .u64 a0 1) 6148914691236517205) + (iand .u64 a0 6148914691236517205))) 3689348814741910323))) 4) + (IntKind.wrap .u64 ((iand .u64 (ishr .u64 (IntKind.wrap .u64 ((iand .u64 (ishr .u64 a0 1) 6148914691236517205) + (iand .u64 a0 6148914691236517205))) 2) 3689348814741910323) + (iand .u64 (IntKind.wrap .u64 ((iand .u64 (ishr .u64 a0 1) 6148914691236517205) + (iand .u64 a0 6148914691236517205))) 3689348814741910323))))) 1085102592571150095) 8))) 16))) + (ishr .u64 (IntKind.wrap .u64 ((IntKind.wrap .u64 ((iand .u64 (IntKind.wrap .u64 ((ishr .u64 (IntKind.wrap .u64 ((iand .u64 (ishr .u64 (IntKind.wrap .u64 ((iand .u64 (ishr .u64 a0 1) 6148914691236517205) + (iand .u64 a0 6148914691236517205))) 2) 3689348814741910323) + (iand .u64 (IntKind.wrap .u64 ((iand .u64 (ishr .u64 a0 1) 6148914691236517205) + (iand .u64 a0 6148914691236517205))) 3689348814741910323))) 4) + (IntKind.wrap .u64 ((iand .u64 (ishr .u64 (IntKind.wrap .u64 ((iand .u64 (ishr .u64 a0 1) 6148914691236517205) + (iand .u64 a0 6148914691236517205))) 2) 3689348814741910323) + (iand .u64 (IntKind.wrap .u64 ((iand .u64 (ishr .u64 a0 1) 6148914691236517205) + (iand .u64 a0 6148914691236517205))) 3689348814741910323))))) 1085102592571150095) + (ishr .u64 (iand .u64 (IntKind.wrap .u64 ((ishr .u64 (IntKind.wrap .u64 ((iand .u64 (ishr .u64 (IntKind.wrap .u64 ((iand .u64 (ishr .u64 a0 1) 6148914691236517205) + (iand .u64 a0 6148914691236517205))) 2) 3689348814741910323) + (iand .u64 (IntKind.wrap .u64 ((iand .u64 (ishr .u64 a0 1) 6148914691236517205) + (iand .u64 a0 6148914691236517205))) 3689348814741910323))) 4) + (IntKind.wrap .u64 ((iand .u64 (ishr .u64 (IntKind.wrap .u64 ((iand .u64 (ishr .u64 a0 1) 6148914691236517205) + (iand .u64 a0 6148914691236517205))) 2) 3689348814741910323) + (iand .u64 (IntKind.wrap .u64 ((iand .u64 (ishr .u64 a0 1) 6148914691236517205) + (iand .u64 a0 6148914691236517205))) 3689348814741910323))))) 1085102592571150095) 8))) + (ishr .u64 (IntKind.wrap .u64 ((iand .u64 (IntKind.wrap .u64 ((ishr .u64 (IntKind.wrap .u64 ((iand .u64 (ishr .u64 (IntKind.wrap .u64 ((iand .u64 (ishr .u64 a0 1) 6148914691236517205) + (iand .u64 a0 6148914691236517205))) 2) 3689348814741910323) + (iand .u64 (IntKind.wrap .u64 ((iand .u64 (ishr .u64 a0 1) 6148914691236517205) + (iand .u64 a0 6148914691236517205))) 3689348814741910323))) 4) + (IntKind.wrap .u64 ((iand .u64 (ishr .u64 (IntKind.wrap .u64 ((iand .u64 (ishr .u64 a0 1) 6148914691236517205) + (iand .u64 a0 6148914691236517205))) 2) 3689348814741910323) + (iand .u64 (IntKind.wrap .u64 ((iand .u64 (ishr .u64 a0 1) 6148914691236517205) + (iand .u64 a0 6148914691236517205))) 3689348814741910323))))) 1085102592571150095) + (ishr .u64 (iand .u64 (IntKind.wrap .u64 ((ishr .u64 (IntKind.wrap .u64 ((iand .u64 (ishr .u64 (IntKind.wrap .u64 ((iand .u64 (ishr .u64 a0 1) 6148914691236517205) + (iand .u64 a0 6148914691236517205))) 2) 3689348814741910323) + (iand .u64 (IntKind.wrap .u64 ((iand .u64 (ishr .u64 a0 1) 6148914691236517205) + (iand .u64 a0 6148914691236517205))) 3689348814741910323))) 4) + (IntKind.wrap .u64 ((iand .u64 (ishr .u64 (IntKind.wrap .u64 ((iand .u64 (ishr .u64 a0 1) 6148914691236517205) + (iand .u64 a0 6148914691236517205))) 2) 3689348814741910323) + (iand .u64 (IntKind.wrap .u64 ((iand .u64 (ishr .u64 a0 1) 6148914691236517205) + (iand .u64 a0 6148914691236517205))) 3689348814741910323))))) 1085102592571150095) 8))) 16))) 32))))]) (w' := w0) (by kernel_rfl) ?_
  refine WR.nil ?_
  refine At.go ?_
  refine WC.seq (by kernel_rfl) ?_
  refine WC.reg [0, 1, 2, 3] (by kernel_rfl) (by kernel_rfl) ?_
  refine WR.runk [0, 1, 2, 3] [] [2] (L' := [(2, .int .i64 (iand .i64 (wi (IntKind.wrap .u64 ((IntKind.wrap .u64 ((IntKind.wrap .u64 ((iand .u64 (IntKind.wrap .u64 ((ishr .u64 (IntKind.wrap .u64 ((iand .u64 (ishr .u64 (IntKind.wrap .u64 ((iand .u64 (ishr .u64 a0 1) 6148914691236517205) + (iand .u64 a0 6148914691236517205))) 2) 3689348814741910323) + (iand .u64 (IntKind.wrap .u64 ((iand .u64 (ishr .u64 a0 1) 6148914691236517205) + (iand .u64 a0 6148914691236517205))) 3689348814741910323))) 4) + (IntKind.wrap .u64 ((iand .u64 (ishr .u64 (IntKind.wrap .u64 ((iand .u64 (ishr .u64 a0 1) 6148914691236517205) + (iand .u64 a0 6148914691236517205))) 2) 3689348814741910323) + (iand .u64 (IntKind.wrap .u64 ((iand .u64 (ishr .u64 a0 1) 6148914691236517205) + (iand .u64 a0 6148914691236517205))) 3689348814741910323))))) 1085102592571150095) + (ishr .u64 (iand .u64 (IntKind.wrap .u64 ((ishr .u64 (IntKind.wrap .u64 ((iand .u64 (ishr .u64 (IntKind.wrap .u64 ((iand .u64 (ishr .u64 a0 1) 6148914691236517205) + (iand .u64 a0 6148914691236517205))) 2) 3689348814741910323) + (iand .u64 (IntKind.wrap .u64 ((iand .u64 (ishr .u64 a0 1) 6148914691236517205) + (iand .u64 a0 6148914691236517205))) 3689348814741910323))) 4) + (IntKind.wrap .u64 ((iand .u64 (ishr .u64 (IntKind.wrap .u64 ((iand .u64 (ishr .u64 a0 1) 6148914691236517205) + (iand .u64 a0 6148914691236517205))) 2) 3689348814741910323) + (iand .u64 (IntKind.wrap .u64 ((iand .u64 (ishr .u64 a0 1) 6148914691236517205) + (iand .u64 a0 6148914691236517205))) 3689348814741910323))))) 1085102592571150095) 8))) + (ishr .u64 (IntKind.wrap .u64 ((iand .u64 (IntKind.wrap .u64 ((ishr .u64 (IntKind.wrap .u64 ((iand .u64 (ishr .u64 (IntKind.wrap .u64 ((iand .u64 (ishr .u64 a0 1) 6148914691236517205) + (iand .u64 a0 6148914691236517205))) 2) 3689348814741910323) + (iand .u64 (IntKind.wrap .u64 ((iand .u64 (ishr .u64 a0 1) 6148914691236517205) + (iand .u64 a0 6148914691236517205))) 3689348814741910323))) 4) + (IntKind.wrap .u64 ((iand .u64 (ishr .u64 (IntKind.wrap .u64 ((iand .u64 (ishr .u64 a0 1) 6148914691236517205) + (iand .u64 a0 6148914691236517205))) 2) 3689348814741910323) + (iand .u64 (IntKind.wrap .u64 ((iand .u64 (ishr .u64 a0 1) 6148914691236517205) + (iand .u64 a0 6148914691236517205))) 3689348814741910323))))) 1085102592571150095) + (ishr .u64 (iand .u64 (IntKind.wrap .u64 ((ishr .u64 (IntKind.wrap .u64 ((iand .u64 (ishr .u64 (IntKind.wrap .u64 ((iand .u64 (ishr .u64 a0 1) 6148914691236517205) + (iand .u64 a0 6148914691236517205))) 2) 3689348814741910323) + (iand .u64 (IntKind.wrap .u64 ((iand .u64 (ishr .u64 a0 1) 6148914691236517205) + (iand .u64 a0 6148914691236517205))) 3689348814741910323))) 4) + (IntKind.wrap .u64 ((iand .u64 (ishr .u64 (IntKind.wrap .u64 ((iand .u64 (ishr .u64 a0 1) 6148914691236517205) + (iand .u64 a0 6148914691236517205))) 2) 3689348814741910323) + (iand .u64 (IntKind.wrap .u64 ((iand .u64 (ishr .u64 a0 1) 6148914691236517205) + (iand .u64 a0 6148914691236517205))) 3689348814741910323))))) 1085102592571150095) 8))) 16))) + (ishr .u64 (IntKind.wrap .u64 ((IntKind.wrap .u64 ((iand .u64 (IntKind.wrap .u64 ((ishr .u64 (IntKind.wrap .u64 ((iand .u64 (ishr .u64 (IntKind.wrap .u64 ((iand .u64 (ishr .u64 a0 1) 6148914691236517205) + (iand .u64 a0 6148914691236517205))) 2) 3689348814741910323) + (iand .u64 (IntKind.wrap .u64 ((iand .u64 (ishr .u64 a0 1) 6148914691236517205) + (iand .u64 a0 6148914691236517205))) 3689348814741910323))) 4) + (IntKind.wrap .u64 ((iand .u64 (ishr .u64 (IntKind.wrap .u64 ((iand .u64 (ishr .u64 a0 1) 6148914691236517205) + (iand .u64 a0 6148914691236517205))) 2) 3689348814741910323) + (iand .u64 (IntKind.wrap .u64 ((iand .u64 (ishr .u64 a0 1) 6148914691236517205) + (iand .u64 a0 6148914691236517205))) 3689348814741910323))))) 1085102592571150095) + (ishr .u64 (iand .u64 (IntKind.wrap .u64 ((ishr .u64 (IntKind.wrap .u64 ((iand .u64 (ishr .u64 (IntKind.wrap .u64 ((iand .u64 (ishr .u64 a0 1) 6148914691236517205) + (iand .u64 a0 6148914691236517205))) 2) 3689348814741910323) + (iand .u64 (IntKind.wrap .u64 ((iand .u64 (ishr .u64 a0 1) 6148914691236517205) + (iand .u64 a0 6148914691236517205))) 3689348814741910323))) 4) + (IntKind.wrap .u64 ((iand .u64 (ishr .u64 (IntKind.wrap .u64 ((iand .u64 (ishr .u64 a0 1) 6148914691236517205) + (iand .u64 a0 6148914691236517205))) 2) 3689348814741910323) + (iand .u64 (IntKind.wrap .u64 ((iand .u64 (ishr .u64 a0 1) 6148914691236517205) + (iand .u64 a0 6148914691236517205))) 3689348814741910323))))) 1085102592571150095) 8))) + (ishr .u64 (IntKind.wrap .u64 ((iand .u64 (IntKind.wrap .u64 ((ishr .u64 (IntKind.wrap .u64 ((iand .u64 (ishr .u64 (IntKind.wrap .u64 ((iand .u64 (ishr .u64 a0 1) 6148914691236517205) + (iand .u64 a0 6148914691236517205))) 2) 3689348814741910323) + (iand .u64 (IntKind.wrap .u64 ((iand .u64 (ishr .u64 a0 1) 6148914691236517205) + (iand .u64 a0 6148914691236517205))) 3689348814741910323))) 4) + (IntKind.wrap .u64 ((iand .u64 (ishr .u64 (IntKind.wrap .u64 ((iand .u64 (ishr .u64 a0 1) 6148914691236517205) + (iand .u64 a0 6148914691236517205))) 2) 3689348814741910323) + (iand .u64 (IntKind.wrap .u64 ((iand .u64 (ishr .u64 a0 1) 6148914691236517205) + (iand .u64 a0 6148914691236517205))) 3689348814741910323))))) 1085102592571150095) + (ishr .u64 (iand .u64 (IntKind.wrap .u64 ((ishr .u64 (IntKind.wrap .u64 ((iand .u64 (ishr .u64 (IntKind.wrap .u64 ((iand .u64 (ishr .u64 a0 1) 6148914691236517205) + (iand .u64 a0 6148914691236517205))) 2) 3689348814741910323) + (iand .u64 (IntKind.wrap .u64 ((iand .u64 (ishr .u64 a0 1) 6148914691236517205) + (iand .u64 a0 6148914691236517205))) 3689348814741910323))) 4) + (IntKind.wrap .u64 ((iand .u64 (ishr .u64 (IntKind.wrap .u64 ((iand .u64 (ishr .u64 a0 1) 6148914691236517205) + (iand .u64 a0 6148914691236517205))) 2) 3689348814741910323) + (iand .u64 (IntKind.wrap .u64 ((iand .u64 (ishr .u64 a0 1) 6148914691236517205) + (iand .u64 a0 6148914691236517205))) 3689348814741910323))))) 1085102592571150095) 8))) 16))) 32)))) 127))]) (w' := w0) (by kernel_rfl) ?_
  refine WR.nil ?_
  refine At.go ?_
  refine WC.ret (by kernel_rfl) ?_
  obtain rfl := Option.some.inj H
  have hS : Sat w0 (rf w0) [] := hS.sel [] (by kernel_rfl)
  exact At.body [.int .i64 (iand .i64 (wi (IntKind.wrap .u64 ((IntKind.wrap .u64 ((IntKind.wrap .u64 ((iand .u64 (IntKind.wrap .u64 ((ishr .u64 (IntKind.wrap .u64 ((iand .u64 (ishr .u64 (IntKind.wrap .u64 ((iand .u64 (ishr .u64 a0 1) 6148914691236517205) + (iand .u64 a0 6148914691236517205))) 2) 3689348814741910323) + (iand .u64 (IntKind.wrap .u64 ((iand .u64 (ishr .u64 a0 1) 6148914691236517205) + (iand .u64 a0 6148914691236517205))) 3689348814741910323))) 4) + (IntKind.wrap .u64 ((iand .u64 (ishr .u64 (IntKind.wrap .u64 ((iand .u64 (ishr .u64 a0 1) 6148914691236517205) + (iand .u64 a0 6148914691236517205))) 2) 3689348814741910323) + (iand .u64 (IntKind.wrap .u64 ((iand .u64 (ishr .u64 a0 1) 6148914691236517205) + (iand .u64 a0 6148914691236517205))) 3689348814741910323))))) 1085102592571150095) + (ishr .u64 (iand .u64 (IntKind.wrap .u64 ((ishr .u64 (IntKind.wrap .u64 ((iand .u64 (ishr .u64 (IntKind.wrap .u64 ((iand .u64 (ishr .u64 a0 1) 6148914691236517205) + (iand .u64 a0 6148914691236517205))) 2) 3689348814741910323) + (iand .u64 (IntKind.wrap .u64 ((iand .u64 (ishr .u64 a0 1) 6148914691236517205) + (iand .u64 a0 6148914691236517205))) 3689348814741910323))) 4) + (IntKind.wrap .u64 ((iand .u64 (ishr .u64 (IntKind.wrap .u64 ((iand .u64 (ishr .u64 a0 1) 6148914691236517205) + (iand .u64 a0 6148914691236517205))) 2) 3689348814741910323) + (iand .u64 (IntKind.wrap .u64 ((iand .u64 (ishr .u64 a0 1) 6148914691236517205) + (iand .u64 a0 6148914691236517205))) 3689348814741910323))))) 1085102592571150095) 8))) + (ishr .u64 (IntKind.wrap .u64 ((iand .u64 (IntKind.wrap .u64 ((ishr .u64 (IntKind.wrap .u64 ((iand .u64 (ishr .u64 (IntKind.wrap .u64 ((iand .u64 (ishr .u64 a0 1) 6148914691236517205) + (iand .u64 a0 6148914691236517205))) 2) 3689348814741910323) + (iand .u64 (IntKind.wrap .u64 ((iand .u64 (ishr .u64 a0 1) 6148914691236517205) + (iand .u64 a0 6148914691236517205))) 3689348814741910323))) 4) + (IntKind.wrap .u64 ((iand .u64 (ishr .u64 (IntKind.wrap .u64 ((iand .u64 (ishr .u64 a0 1) 6148914691236517205) + (iand .u64 a0 6148914691236517205))) 2) 3689348814741910323) + (iand .u64 (IntKind.wrap .u64 ((iand .u64 (ishr .u64 a0 1) 6148914691236517205) + (iand .u64 a0 6148914691236517205))) 3689348814741910323))))) 1085102592571150095) + (ishr .u64 (iand .u64 (IntKind.wrap .u64 ((ishr .u64 (IntKind.wrap .u64 ((iand .u64 (ishr .u64 (IntKind.wrap .u64 ((iand .u64 (ishr .u64 a0 1) 6148914691236517205) + (iand .u64 a0 6148914691236517205))) 2) 3689348814741910323) + (iand .u64 (IntKind.wrap .u64 ((iand .u64 (ishr .u64 a0 1) 6148914691236517205) + (iand .u64 a0 6148914691236517205))) 3689348814741910323))) 4) + (IntKind.wrap .u64 ((iand .u64 (ishr .u64 (IntKind.wrap .u64 ((iand .u64 (ishr .u64 a0 1) 6148914691236517205) + (iand .u64 a0 6148914691236517205))) 2) 3689348814741910323) + (iand .u64 (IntKind.wrap .u64 ((iand .u64 (ishr .u64 a0 1) 6148914691236517205) + (iand .u64 a0 6148914691236517205))) 3689348814741910323))))) 1085102592571150095) 8))) 16))) + (ishr .u64 (IntKind.wrap .u64 ((IntKind.wrap .u64 ((iand .u64 (IntKind.wrap .u64 ((ishr .u64 (IntKind.wrap .u64 ((iand .u64 (ishr .u64 (IntKind.wrap .u64 ((iand .u64 (ishr .u64 a0 1) 6148914691236517205) + (iand .u64 a0 6148914691236517205))) 2) 3689348814741910323) + (iand .u64 (IntKind.wrap .u64 ((iand .u64 (ishr .u64 a0 1) 6148914691236517205) + (iand .u64 a0 6148914691236517205))) 3689348814741910323))) 4) + (IntKind.wrap .u64 ((iand .u64 (ishr .u64 (IntKind.wrap .u64 ((iand .u64 (ishr .u64 a0 1) 6148914691236517205) + (iand .u64 a0 6148914691236517205))) 2) 3689348814741910323) + (iand .u64 (IntKind.wrap .u64 ((iand .u64 (ishr .u64 a0 1) 6148914691236517205) + (iand .u64 a0 6148914691236517205))) 3689348814741910323))))) 1085102592571150095) + (ishr .u64 (iand .u64 (IntKind.wrap .u64 ((ishr .u64 (IntKind.wrap .u64 ((iand .u64 (ishr .u64 (IntKind.wrap .u64 ((iand .u64 (ishr .u64 a0 1) 6148914691236517205) + (iand .u64 a0 6148914691236517205))) 2) 3689348814741910323) + (iand .u64 (IntKind.wrap .u64 ((iand .u64 (ishr .u64 a0 1) 6148914691236517205) + (iand .u64 a0 6148914691236517205))) 3689348814741910323))) 4) + (IntKind.wrap .u64 ((iand .u64 (ishr .u64 (IntKind.wrap .u64 ((iand .u64 (ishr .u64 a0 1) 6148914691236517205) + (iand .u64 a0 6148914691236517205))) 2) 3689348814741910323) + (iand .u64 (IntKind.wrap .u64 ((iand .u64 (ishr .u64 a0 1) 6148914691236517205) + (iand .u64 a0 6148914691236517205))) 3689348814741910323))))) 1085102592571150095) 8))) + (ishr .u64 (IntKind.wrap .u64 ((iand .u64 (IntKind.wrap .u64 ((ishr .u64 (IntKind.wrap .u64 ((iand .u64 (ishr .u64 (IntKind.wrap .u64 ((iand .u64 (ishr .u64 a0 1) 6148914691236517205) + (iand .u64 a0 6148914691236517205))) 2) 3689348814741910323) + (iand .u64 (IntKind.wrap .u64 ((iand .u64 (ishr .u64 a0 1) 6148914691236517205) + (iand .u64 a0 6148914691236517205))) 3689348814741910323))) 4) + (IntKind.wrap .u64 ((iand .u64 (ishr .u64 (IntKind.wrap .u64 ((iand .u64 (ishr .u64 a0 1) 6148914691236517205) + (iand .u64 a0 6148914691236517205))) 2) 3689348814741910323) + (iand .u64 (IntKind.wrap .u64 ((iand .u64 (ishr .u64 a0 1) 6148914691236517205) + (iand .u64 a0 6148914691236517205))) 3689348814741910323))))) 1085102592571150095) + (ishr .u64 (iand .u64 (IntKind.wrap .u64 ((ishr .u64 (IntKind.wrap .u64 ((iand .u64 (ishr .u64 (IntKind.wrap .u64 ((iand .u64 (ishr .u64 a0 1) 6148914691236517205) + (iand .u64 a0 6148914691236517205))) 2) 3689348814741910323) + (iand .u64 (IntKind.wrap .u64 ((iand .u64 (ishr .u64 a0 1) 6148914691236517205) + (iand .u64 a0 6148914691236517205))) 3689348814741910323))) 4) + (IntKind.wrap .u64 ((iand .u64 (ishr .u64 (IntKind.wrap .u64 ((iand .u64 (ishr .u64 a0 1) 6148914691236517205) + (iand .u64 a0 6148914691236517205))) 2) 3689348814741910323) + (iand .u64 (IntKind.wrap .u64 ((iand .u64 (ishr .u64 a0 1) 6148914691236517205) + (iand .u64 a0 6148914691236517205))) 3689348814741910323))))) 1085102592571150095) 8))) 16))) 32)))) 127)] (by kernel_rfl) ⟨_, rfl, rfl, hS⟩
/-! ### 24 colophon/rank.New -/
def rank_New.l1 (r31 : (List Int)) : Nat → Int → (List Int) → Int → Option ((List Int) × Int)
  | 0, _, _, _ => none
  | k + 1, x25_l1, q44p2_l1, q44p3_l1 => (if decide (x25_l1 < (r31.length : Int)) then ((at? r31 x25_l1).bind fun v46 => (if ((Int.tmod x25_l1 8) == 0) then ((app? 17592186044416 q44p2_l1 ([q44p3_l1] : List Int)).bind fun y54 => ((bits_OnesCount64.f v46).bind fun r61 => rank_New.l1 r31 k (wi (x25_l1 + 1)) y54 (wi (q44p3_l1 + r61)))) else ((bits_OnesCount64.f v46).bind fun r73 => rank_New.l1 r31 k (wi (x25_l1 + 1)) q44p2_l1 (wi (q44p3_l1 + r73))))) else some (q44p2_l1, q44p3_l1))
def rank_New.f (p0 : Option (Int × Int × (List Int))) : Option ((Option (Int × (List Int) × (List Int) × Int)) × Int) := (match p0 with | none => some (none, 1) | some y3 => ((pack_Ints_Width.f (some y3)).bind fun r12 => (if (r12 != 1) then some (none, 2) else ((pack_Ints_Len.f (some y3)).bind fun r22 => ((pack_Ints_Words.f (some y3)).bind fun r31 => ((rank_New.l1 r31 FU 0 ([] : List Int) 0).bind fun o83 => some (some (r22, r31, o83.1, o83.2), 0)))))))
def rank_New.post (w : World) (r : (Option (Int × (List Int) × (List Int) × Int)) × Int) (v : Value) (w' : World) : Prop := ∃ (v0 : Value), v = .tuple #[v0, .int .i64 r.2] ∧ Sat w' (rf w) [optP O68 v0 r.1]
theorem rank_New.l1_ok {Q} (w0 : World) (r22 : Int) (r31 : (List Int)) (A40 : Option Addr) (c41 : Nat) (b42 : Nat) (out : (List Int) × Int) (hn0 : ∀ (Aq44p2_q : Option Addr) (cq44p2_q : Nat) (w : World), Sat w (rf w0) [pts b42 (.cells #[.int .i64 r22, .slice A40 r31.length c41, .slice Aq44p2_q out.1.length cq44p2_q, .int .i64 out.2] 68 (0, 0)), osl 3 (r0 (.int .i64)) 1 Aq44p2_q cq44p2_q out.1, osl 43 (r0 (.int .u64)) 1 A40 c41 r31] → At Q (.exit 1) 57 [(4, .pointer (some ⟨b42, 0, none⟩))] w) :
    ∀ (k : Nat) (x25_l1 : Int) (q44p2_l1 : List Int) (q44p3_l1 : Int) (Aq44p2_l1 : Option Addr) (cq44p2_l1 : Nat) (w : World), Sat w (rf w0) [osl 43 (r0 (.int .u64)) 1 A40 c41 r31, pts b42 (.cells #[.int .i64 r22, .slice A40 r31.length c41, .slice Aq44p2_l1 q44p2_l1.length cq44p2_l1, .int .i64 q44p3_l1] 68 (0, 0)), osl 3 (r0 (.int .i64)) 1 Aq44p2_l1 cq44p2_l1 q44p2_l1] → rank_New.l1 r31 k x25_l1 q44p2_l1 q44p3_l1 = some out → WL Try.prog (cbody (cbody (cr (cl (cr (cr (cr C24))))))) Q 57 [(4, .pointer (some ⟨b42, 0, none⟩)), (23, .slice A40 r31.length c41), (24, .int .i64 (r31.length : Int)), (25, .int .i64 x25_l1)] w := by
  intro k
  induction k with
  | zero => intro x25_l1 q44p2_l1 q44p3_l1 Aq44p2_l1 cq44p2_l1 w hS H; exact absurd (show none = some out from H) (by simp)
  | succ k ih =>
    intro x25_l1 q44p2_l1 q44p3_l1 Aq44p2_l1 cq44p2_l1 w hS H
    unfold rank_New.l1 at H
    refine WL.round ?_
    refine WC.seq (by kernel_rfl) ?_
    refine WC.reg [0] (by kernel_rfl) (by kernel_rfl) ?_
    refine WR.runk [0] [] [4, 23, 24, 25, 26] (L' := [(4, .pointer (some ⟨b42, 0, none⟩)), (23, .slice A40 r31.length c41), (24, .int .i64 (r31.length : Int)), (25, .int .i64 x25_l1), (26, .bool (decide (x25_l1 < (r31.length : Int))))]) (w' := w) (by kernel_rfl) ?_
    refine WR.nil ?_
    refine At.go ?_
    refine WC.seq (by kernel_rfl) ?_
    refine WC.cond (by kernel_rfl) (decide (x25_l1 < (r31.length : Int))) (by kernel_rfl) (by kernel_rfl) (fun hb45 => ?_) (fun hb45 => ?_)
    · replace H := ite_t H hb45
      refine WC.skip (by kernel_rfl) ?_
      refine At.go ?_
      refine WC.seq (by kernel_rfl) ?_
      refine WC.block (by kernel_rfl) ?_
      refine WC.seq (by kernel_rfl) ?_
      refine WC.reg [0, 1, 2, 3, 4] (by kernel_rfl) (by kernel_rfl) ?_
      refine WR.runk [0] [1, 2, 3, 4] [4, 23, 24, 25, 27] (L' := [(4, .pointer (some ⟨b42, 0, none⟩)), (23, .slice A40 r31.length c41), (24, .int .i64 (r31.length : Int)), (25, .int .i64 x25_l1), (27, .int .i64 x25_l1)]) (w' := w) (by kernel_rfl) ?_
      obtain ⟨v46, e47, H⟩ := bind_ex H
      refine WR.st (St.ofP (PSt.idx (k := .i64) (.tmp 23) (.tmp 25) (by kernel_rfl) (by kernel_rfl) E35 (by kernel_rfl) (by kernel_rfl) (Sat.rdAt 0 hS rfl) e47 ?_))
      refine WR.runk [] [2, 3, 4] [4, 23, 24, 25, 27, 28] (L' := [(4, .pointer (some ⟨b42, 0, none⟩)), (23, .slice A40 r31.length c41), (24, .int .i64 (r31.length : Int)), (25, .int .i64 x25_l1), (27, .int .i64 x25_l1), (28, .pointer (some (adr A40 x25_l1.toNat 1)))]) (w' := w) (by kernel_rfl) ?_
      refine WR.st (St.ofR (RSt.loadInt (t := 43) (.tmp 28) (by kernel_rfl) (by kernel_rfl) (by kernel_rfl) (by kernel_rfl) (Sat.rdAt 0 hS rfl) e47 ?_))
      refine WR.runk [3, 4] [] [4, 5, 6, 23, 24, 25] (L' := [(4, .pointer (some ⟨b42, 0, none⟩)), (5, .int .i64 x25_l1), (6, .int .u64 v46), (23, .slice A40 r31.length c41), (24, .int .i64 (r31.length : Int)), (25, .int .i64 x25_l1)]) (w' := w) (by kernel_rfl) ?_
      refine WR.nil ?_
      refine At.go ?_
      refine WC.seq (by kernel_rfl) ?_
      refine WC.seq (by kernel_rfl) ?_
      refine WC.reg [0, 1, 2] (by kernel_rfl) (by kernel_rfl) ?_
      refine WR.runk [0, 1, 2] [] [4, 6, 23, 24, 25, 32] (L' := [(4, .pointer (some ⟨b42, 0, none⟩)), (6, .int .u64 v46), (23, .slice A40 r31.length c41), (24, .int .i64 (r31.length : Int)), (25, .int .i64 x25_l1), (32, .bool ((Int.tmod x25_l1 8) == 0))]) (w' := w) (by kernel_rfl) ?_
      refine WR.nil ?_
      refine At.go ?_
      refine WC.cond (by kernel_rfl) ((Int.tmod x25_l1 8) == 0) (by kernel_rfl) (by kernel_rfl) (fun hb48 => ?_) (fun hb48 => ?_)
      · replace H := ite_t H hb48
        refine WC.drawn (by kernel_rfl) (by kernel_rfl) 14 (by kernel_rfl) (fun w49 hw50 => ?_)
        have hS := hS.heap hw50.1 hw50.2
        refine WD.weaken [4, 6, 23, 24, 25] (L' := [(4, .pointer (some ⟨b42, 0, none⟩)), (6, .int .u64 v46), (23, .slice A40 r31.length c41), (24, .int .i64 (r31.length : Int)), (25, .int .i64 x25_l1)]) (by kernel_rfl) ?_
        refine WD.pure (i := 0) (v := .pointer (some ⟨b42, 0, none⟩)) (by kernel_rfl) (by kernel_rfl) (fun _ => by kernel_rfl) ?_
        refine WD.weaken [4, 6, 23, 24, 25, 33] (L' := [(4, .pointer (some ⟨b42, 0, none⟩)), (6, .int .u64 v46), (23, .slice A40 r31.length c41), (24, .int .i64 (r31.length : Int)), (25, .int .i64 x25_l1), (33, .pointer (some ⟨b42, 0, none⟩))]) (by kernel_rfl) ?_
        refine WD.pure (i := 1) (v := .pointer (some ⟨b42, 0, none⟩)) (by kernel_rfl) (by kernel_rfl) (fun _ => by kernel_rfl) ?_
        refine WD.weaken [4, 6, 23, 24, 25, 33, 34] (L' := [(4, .pointer (some ⟨b42, 0, none⟩)), (6, .int .u64 v46), (23, .slice A40 r31.length c41), (24, .int .i64 (r31.length : Int)), (25, .int .i64 x25_l1), (33, .pointer (some ⟨b42, 0, none⟩)), (34, .pointer (some ⟨b42, 0, none⟩))]) (by kernel_rfl) ?_
        refine WD.pure (i := 2) (v := .pointer (some ⟨b42, 0, none⟩)) (by kernel_rfl) (by kernel_rfl) (fun _ => by kernel_rfl) ?_
        refine WD.weaken [4, 6, 23, 24, 25, 33, 35] (L' := [(4, .pointer (some ⟨b42, 0, none⟩)), (6, .int .u64 v46), (23, .slice A40 r31.length c41), (24, .int .i64 (r31.length : Int)), (25, .int .i64 x25_l1), (33, .pointer (some ⟨b42, 0, none⟩)), (35, .pointer (some ⟨b42, 0, none⟩))]) (by kernel_rfl) ?_
        refine WD.pure (i := 3) (v := .pointer (some ⟨b42, 2, none⟩)) (by kernel_rfl) (by kernel_rfl) (fun _ => by kernel_rfl) ?_
        refine WD.weaken [4, 6, 23, 24, 25, 33, 36] (L' := [(4, .pointer (some ⟨b42, 0, none⟩)), (6, .int .u64 v46), (23, .slice A40 r31.length c41), (24, .int .i64 (r31.length : Int)), (25, .int .i64 x25_l1), (33, .pointer (some ⟨b42, 0, none⟩)), (36, .pointer (some ⟨b42, 2, none⟩))]) (by kernel_rfl) ?_
        refine WD.ofR (i := 4) (by kernel_rfl) (RSt.loadObj (t := 22) (k := 2) (v := .slice Aq44p2_l1 q44p2_l1.length cq44p2_l1) (.tmp 36) (by kernel_rfl) (by kernel_rfl) (by kernel_rfl) 1 hS rfl (by kernel_rfl) rfl ?_)
        refine WD.weaken [4, 6, 23, 24, 25, 33, 37] (L' := [(4, .pointer (some ⟨b42, 0, none⟩)), (6, .int .u64 v46), (23, .slice A40 r31.length c41), (24, .int .i64 (r31.length : Int)), (25, .int .i64 x25_l1), (33, .pointer (some ⟨b42, 0, none⟩)), (37, .slice Aq44p2_l1 q44p2_l1.length cq44p2_l1)]) (by kernel_rfl) ?_
        refine WD.pure (i := 5) (v := .pointer (some ⟨b42, 0, none⟩)) (by kernel_rfl) (by kernel_rfl) (fun _ => by kernel_rfl) ?_
        refine WD.weaken [4, 6, 23, 24, 25, 33, 37, 38] (L' := [(4, .pointer (some ⟨b42, 0, none⟩)), (6, .int .u64 v46), (23, .slice A40 r31.length c41), (24, .int .i64 (r31.length : Int)), (25, .int .i64 x25_l1), (33, .pointer (some ⟨b42, 0, none⟩)), (37, .slice Aq44p2_l1 q44p2_l1.length cq44p2_l1), (38, .pointer (some ⟨b42, 0, none⟩))]) (by kernel_rfl) ?_
        refine WD.pure (i := 6) (v := .pointer (some ⟨b42, 0, none⟩)) (by kernel_rfl) (by kernel_rfl) (fun _ => by kernel_rfl) ?_
        refine WD.weaken [4, 6, 23, 24, 25, 33, 37, 39] (L' := [(4, .pointer (some ⟨b42, 0, none⟩)), (6, .int .u64 v46), (23, .slice A40 r31.length c41), (24, .int .i64 (r31.length : Int)), (25, .int .i64 x25_l1), (33, .pointer (some ⟨b42, 0, none⟩)), (37, .slice Aq44p2_l1 q44p2_l1.length cq44p2_l1), (39, .pointer (some ⟨b42, 0, none⟩))]) (by kernel_rfl) ?_
        refine WD.pure (i := 7) (v := .pointer (some ⟨b42, 3, none⟩)) (by kernel_rfl) (by kernel_rfl) (fun _ => by kernel_rfl) ?_
        refine WD.weaken [4, 6, 23, 24, 25, 33, 37, 40] (L' := [(4, .pointer (some ⟨b42, 0, none⟩)), (6, .int .u64 v46), (23, .slice A40 r31.length c41), (24, .int .i64 (r31.length : Int)), (25, .int .i64 x25_l1), (33, .pointer (some ⟨b42, 0, none⟩)), (37, .slice Aq44p2_l1 q44p2_l1.length cq44p2_l1), (40, .pointer (some ⟨b42, 3, none⟩))]) (by kernel_rfl) ?_
        refine WD.ofR (i := 8) (by kernel_rfl) (RSt.loadObj (t := 3) (k := 3) (v := .int .i64 q44p3_l1) (.tmp 40) (by kernel_rfl) (by kernel_rfl) (by kernel_rfl) 1 hS rfl (by kernel_rfl) rfl ?_)
        refine WD.weaken [4, 6, 23, 24, 25, 33, 37, 41] (L' := [(4, .pointer (some ⟨b42, 0, none⟩)), (6, .int .u64 v46), (23, .slice A40 r31.length c41), (24, .int .i64 (r31.length : Int)), (25, .int .i64 x25_l1), (33, .pointer (some ⟨b42, 0, none⟩)), (37, .slice Aq44p2_l1 q44p2_l1.length cq44p2_l1), (41, .int .i64 q44p3_l1)]) (by kernel_rfl) ?_
        refine WD.act (i := 9) (by kernel_rfl) (St.box hS (by kernel_rfl) (.cells #[.int .i64 q44p3_l1] 3) (fun b51 => .slice (some ⟨b51, 0, none⟩) 1 1) (fun _ => by kernel_rfl) (fun b51 w52 hS => ?_))
        refine ⟨(asked.anc (by kernel_rfl) (asked.cons (RSt.run (n := 57) (RSt.loadObj (t := 22) (k := 2) (v := .slice Aq44p2_l1 q44p2_l1.length cq44p2_l1) (.tmp 36) (by kernel_rfl) (by kernel_rfl) (by kernel_rfl) 2 hS rfl (by kernel_rfl) rfl rfl)) (asked.nil _ _))), ?_⟩
        refine WD.weaken [4, 6, 23, 24, 25, 33, 37, 42] (L' := [(4, .pointer (some ⟨b42, 0, none⟩)), (6, .int .u64 v46), (23, .slice A40 r31.length c41), (24, .int .i64 (r31.length : Int)), (25, .int .i64 x25_l1), (33, .pointer (some ⟨b42, 0, none⟩)), (37, .slice Aq44p2_l1 q44p2_l1.length cq44p2_l1), (42, .slice (some ⟨b51, 0, none⟩) 1 1)]) (by kernel_rfl) ?_
        have hS : Sat w52 (rf w0) [osl 3 (r0 (.int .i64)) 1 Aq44p2_l1 cq44p2_l1 q44p2_l1, pts b51 (.cells #[.int .i64 q44p3_l1] 3 (0, 0)), osl 43 (r0 (.int .u64)) 1 A40 c41 r31, pts b42 (.cells #[.int .i64 r22, .slice A40 r31.length c41, .slice Aq44p2_l1 q44p2_l1.length cq44p2_l1, .int .i64 q44p3_l1] 68 (0, 0))] := hS.sel [3, 0, 1, 2] (by kernel_rfl)
        obtain ⟨y54, e53, H⟩ := bind_ex H
        refine WD.act (i := 10) (by kernel_rfl) (St.append' (.tmp 37) (.tmp 42) (by kernel_rfl) (by kernel_rfl) E22 (r0_one _) hS (by kernel_rfl) (by kernel_rfl) (Sat.ptsAt 1 (r0 (.int .i64)) 1 ([q44p3_l1] : List Int) hS rfl rfl (rdL.cons1 rfl (rdL.nil _ _))) 17592186044416 (by kernel_rfl) (by kernel_rfl) e53 (fun A55 c56 w57 hS => ?_))
        refine ⟨(asked.anc (by kernel_rfl) (asked.anc (by kernel_rfl) (asked.nil _ _))), ?_⟩
        refine WD.weaken [4, 6, 23, 24, 25, 33, 43] (L' := [(4, .pointer (some ⟨b42, 0, none⟩)), (6, .int .u64 v46), (23, .slice A40 r31.length c41), (24, .int .i64 (r31.length : Int)), (25, .int .i64 x25_l1), (33, .pointer (some ⟨b42, 0, none⟩)), (43, .slice A55 y54.length c56)]) (by kernel_rfl) ?_
        refine WD.pure (i := 11) (v := .pointer (some ⟨b42, 0, none⟩)) (by kernel_rfl) (by kernel_rfl) (fun _ => by kernel_rfl) ?_
        refine WD.weaken [4, 6, 23, 24, 25, 43, 44] (L' := [(4, .pointer (some ⟨b42, 0, none⟩)), (6, .int .u64 v46), (23, .slice A40 r31.length c41), (24, .int .i64 (r31.length : Int)), (25, .int .i64 x25_l1), (43, .slice A55 y54.length c56), (44, .pointer (some ⟨b42, 0, none⟩))]) (by kernel_rfl) ?_
        refine WD.pure (i := 12) (v := .pointer (some ⟨b42, 2, none⟩)) (by kernel_rfl) (by kernel_rfl) (fun _ => by kernel_rfl) ?_
        refine WD.weaken [4, 6, 23, 24, 25, 43, 45] (L' := [(4, .pointer (some ⟨b42, 0, none⟩)), (6, .int .u64 v46), (23, .slice A40 r31.length c41), (24, .int .i64 (r31.length : Int)), (25, .int .i64 x25_l1), (43, .slice A55 y54.length c56), (45, .pointer (some ⟨b42, 2, none⟩))]) (by kernel_rfl) ?_
        have hS : Sat w57 (rf w0) [pts b42 (.cells #[.int .i64 r22, .slice A40 r31.length c41, .slice Aq44p2_l1 q44p2_l1.length cq44p2_l1, .int .i64 q44p3_l1] 68 (0, 0)), osl 3 (r0 (.int .i64)) 1 A55 c56 y54, pts b51 (.cells #[.int .i64 q44p3_l1] 3 (0, 0)), osl 43 (r0 (.int .u64)) 1 A40 c41 r31] := hS.sel [3, 0, 1, 2] (by kernel_rfl)
        refine WD.act (i := 13) (by kernel_rfl) (St.storeObj (t := 22) (k := 2) (cur' := #[.int .i64 r22, .slice A40 r31.length c41, .slice A55 y54.length c56, .int .i64 q44p3_l1]) (.tmp 45) (.tmp 43) (by kernel_rfl) (by kernel_rfl) (by kernel_rfl) hS (by kernel_rfl) (by kernel_rfl) (by kernel_rfl) rfl rfl (fun w58 hS => ?_))
        refine ⟨(asked.anc (by kernel_rfl) (asked.anc (by kernel_rfl) (asked.nil _ _))), ?_⟩
        refine WD.weaken [4, 6, 23, 24, 25] (L' := [(4, .pointer (some ⟨b42, 0, none⟩)), (6, .int .u64 v46), (23, .slice A40 r31.length c41), (24, .int .i64 (r31.length : Int)), (25, .int .i64 x25_l1)]) (by kernel_rfl) ?_
        refine WD.nil (by kernel_rfl) ?_
        refine At.go ?_
        refine WC.drawn (by kernel_rfl) (by kernel_rfl) 10 (by kernel_rfl) (fun w59 hw60 => ?_)
        have hS := hS.heap hw60.1 hw60.2
        refine WD.weaken [4, 6, 23, 24, 25] (L' := [(4, .pointer (some ⟨b42, 0, none⟩)), (6, .int .u64 v46), (23, .slice A40 r31.length c41), (24, .int .i64 (r31.length : Int)), (25, .int .i64 x25_l1)]) (by kernel_rfl) ?_
        refine WD.pure (i := 0) (v := .pointer (some ⟨b42, 0, none⟩)) (by kernel_rfl) (by kernel_rfl) (fun _ => by kernel_rfl) ?_
        refine WD.weaken [4, 6, 23, 24, 25, 46] (L' := [(4, .pointer (some ⟨b42, 0, none⟩)), (6, .int .u64 v46), (23, .slice A40 r31.length c41), (24, .int .i64 (r31.length : Int)), (25, .int .i64 x25_l1), (46, .pointer (some ⟨b42, 0, none⟩))]) (by kernel_rfl) ?_
        refine WD.pure (i := 1) (v := .pointer (some ⟨b42, 0, none⟩)) (by kernel_rfl) (by kernel_rfl) (fun _ => by kernel_rfl) ?_
        refine WD.weaken [4, 6, 23, 24, 25, 46, 47] (L' := [(4, .pointer (some ⟨b42, 0, none⟩)), (6, .int .u64 v46), (23, .slice A40 r31.length c41), (24, .int .i64 (r31.length : Int)), (25, .int .i64 x25_l1), (46, .pointer (some ⟨b42, 0, none⟩)), (47, .pointer (some ⟨b42, 0, none⟩))]) (by kernel_rfl) ?_
        refine WD.pure (i := 2) (v := .pointer (some ⟨b42, 3, none⟩)) (by kernel_rfl) (by kernel_rfl) (fun _ => by kernel_rfl) ?_
        refine WD.weaken [4, 6, 23, 24, 25, 46, 48] (L' := [(4, .pointer (some ⟨b42, 0, none⟩)), (6, .int .u64 v46), (23, .slice A40 r31.length c41), (24, .int .i64 (r31.length : Int)), (25, .int .i64 x25_l1), (46, .pointer (some ⟨b42, 0, none⟩)), (48, .pointer (some ⟨b42, 3, none⟩))]) (by kernel_rfl) ?_
        refine WD.ofR (i := 3) (by kernel_rfl) (RSt.loadObj (t := 3) (k := 3) (v := .int .i64 q44p3_l1) (.tmp 48) (by kernel_rfl) (by kernel_rfl) (by kernel_rfl) 0 hS rfl (by kernel_rfl) rfl ?_)
        refine WD.weaken [4, 6, 23, 24, 25, 46, 49] (L' := [(4, .pointer (some ⟨b42, 0, none⟩)), (6, .int .u64 v46), (23, .slice A40 r31.length c41), (24, .int .i64 (r31.length : Int)), (25, .int .i64 x25_l1), (46, .pointer (some ⟨b42, 0, none⟩)), (49, .int .i64 q44p3_l1)]) (by kernel_rfl) ?_
        refine WD.pure (i := 4) (v := .int .u64 v46) (by kernel_rfl) (by kernel_rfl) (fun _ => by kernel_rfl) ?_
        refine WD.weaken [4, 23, 24, 25, 46, 49, 50] (L' := [(4, .pointer (some ⟨b42, 0, none⟩)), (23, .slice A40 r31.length c41), (24, .int .i64 (r31.length : Int)), (25, .int .i64 x25_l1), (46, .pointer (some ⟨b42, 0, none⟩)), (49, .int .i64 q44p3_l1), (50, .int .u64 v46)]) (by kernel_rfl) ?_
        obtain ⟨r61, e62, H⟩ := bind_ex H
        refine WD.act (i := 5) (by kernel_rfl) (St.call (by kernel_rfl) (f := 38) (args := #[.int .u64 v46]) (by kernel_rfl) (bits_OnesCount64.calls w59 v46 r61 e62) ?_)
        rintro _ w68 ⟨rfl, hS69⟩
        have hS : Sat w68 (rf w0) [pts b42 (.cells #[.int .i64 r22, .slice A40 r31.length c41, .slice A55 y54.length c56, .int .i64 q44p3_l1] 68 (0, 0)), osl 3 (r0 (.int .i64)) 1 A55 c56 y54, pts b51 (.cells #[.int .i64 q44p3_l1] 3 (0, 0)), osl 43 (r0 (.int .u64)) 1 A40 c41 r31] := hS.ext hS69
        refine ⟨(asked.cons (RSt.run (n := 57) (RSt.loadObj (t := 3) (k := 3) (v := .int .i64 q44p3_l1) (.tmp 48) (by kernel_rfl) (by kernel_rfl) (by kernel_rfl) 0 hS rfl (by kernel_rfl) rfl rfl)) (asked.nil _ _)), ?_⟩
        refine WD.weaken [4, 23, 24, 25, 46, 49, 51] (L' := [(4, .pointer (some ⟨b42, 0, none⟩)), (23, .slice A40 r31.length c41), (24, .int .i64 (r31.length : Int)), (25, .int .i64 x25_l1), (46, .pointer (some ⟨b42, 0, none⟩)), (49, .int .i64 q44p3_l1), (51, .int .i64 r61)]) (by kernel_rfl) ?_
        refine WD.pure (i := 6) (v := .int .i64 (wi (q44p3_l1 + r61))) (by kernel_rfl) (by kernel_rfl) (fun _ => by kernel_rfl) ?_
        refine WD.weaken [4, 23, 24, 25, 46, 52] (L' := [(4, .pointer (some ⟨b42, 0, none⟩)), (23, .slice A40 r31.length c41), (24, .int .i64 (r31.length : Int)), (25, .int .i64 x25_l1), (46, .pointer (some ⟨b42, 0, none⟩)), (52, .int .i64 (wi (q44p3_l1 + r61)))]) (by kernel_rfl) ?_
        refine WD.pure (i := 7) (v := .pointer (some ⟨b42, 0, none⟩)) (by kernel_rfl) (by kernel_rfl) (fun _ => by kernel_rfl) ?_
        refine WD.weaken [4, 23, 24, 25, 52, 53] (L' := [(4, .pointer (some ⟨b42, 0, none⟩)), (23, .slice A40 r31.length c41), (24, .int .i64 (r31.length : Int)), (25, .int .i64 x25_l1), (52, .int .i64 (wi (q44p3_l1 + r61))), (53, .pointer (some ⟨b42, 0, none⟩))]) (by kernel_rfl) ?_
        refine WD.pure (i := 8) (v := .pointer (some ⟨b42, 3, none⟩)) (by kernel_rfl) (by kernel_rfl) (fun _ => by kernel_rfl) ?_
        refine WD.weaken [4, 23, 24, 25, 52, 54] (L' := [(4, .pointer (some ⟨b42, 0, none⟩)), (23, .slice A40 r31.length c41), (24, .int .i64 (r31.length : Int)), (25, .int .i64 x25_l1), (52, .int .i64 (wi (q44p3_l1 + r61))), (54, .pointer (some ⟨b42, 3, none⟩))]) (by kernel_rfl) ?_
        refine WD.act (i := 9) (by kernel_rfl) (St.storeObj (t := 3) (k := 3) (cur' := #[.int .i64 r22, .slice A40 r31.length c41, .slice A55 y54.length c56, .int .i64 (wi (q44p3_l1 + r61))]) (.tmp 54) (.tmp 52) (by kernel_rfl) (by kernel_rfl) (by kernel_rfl) hS (by kernel_rfl) (by kernel_rfl) (by kernel_rfl) rfl rfl (fun w70 hS => ?_))
        refine ⟨(asked.anc (by kernel_rfl) (asked.nil _ _)), ?_⟩
        refine WD.weaken [4, 23, 24, 25] (L' := [(4, .pointer (some ⟨b42, 0, none⟩)), (23, .slice A40 r31.length c41), (24, .int .i64 (r31.length : Int)), (25, .int .i64 x25_l1)]) (by kernel_rfl) ?_
        refine WD.nil (by kernel_rfl) ?_
        refine At.blockNormal ?_
        refine At.go ?_
        refine WC.reg [0, 1] (by kernel_rfl) (by kernel_rfl) ?_
        refine WR.runk [0, 1] [] [4, 23, 24, 25] (L' := [(4, .pointer (some ⟨b42, 0, none⟩)), (23, .slice A40 r31.length c41), (24, .int .i64 (r31.length : Int)), (25, .int .i64 (wi (x25_l1 + 1)))]) (w' := w70) (by kernel_rfl) ?_
        refine WR.nil ?_
        have hS : Sat w70 (rf w0) [osl 43 (r0 (.int .u64)) 1 A40 c41 r31, pts b42 (.cells #[.int .i64 r22, .slice A40 r31.length c41, .slice A55 y54.length c56, .int .i64 (wi (q44p3_l1 + r61))] 68 (0, 0)), osl 3 (r0 (.int .i64)) 1 A55 c56 y54] := hS.sel [3, 0, 1] (by kernel_rfl)
        refine At.again ?_
        refine WL.weaken [4, 23, 24, 25] (L' := [(4, .pointer (some ⟨b42, 0, none⟩)), (23, .slice A40 r31.length c41), (24, .int .i64 (r31.length : Int)), (25, .int .i64 (wi (x25_l1 + 1)))]) (by kernel_rfl) ?_
        exact ih (wi (x25_l1 + 1)) y54 (wi (q44p3_l1 + r61)) A55 c56 _ hS H
      · replace H := ite_f H hb48
        refine WC.skip (by kernel_rfl) ?_
        refine At.go ?_
        refine WC.drawn (by kernel_rfl) (by kernel_rfl) 10 (by kernel_rfl) (fun w71 hw72 => ?_)
        have hS := hS.heap hw72.1 hw72.2
        refine WD.weaken [4, 6, 23, 24, 25] (L' := [(4, .pointer (some ⟨b42, 0, none⟩)), (6, .int .u64 v46), (23, .slice A40 r31.length c41), (24, .int .i64 (r31.length : Int)), (25, .int .i64 x25_l1)]) (by kernel_rfl) ?_
        refine WD.pure (i := 0) (v := .pointer (some ⟨b42, 0, none⟩)) (by kernel_rfl) (by kernel_rfl) (fun _ => by kernel_rfl) ?_
        refine WD.weaken [4, 6, 23, 24, 25, 46] (L' := [(4, .pointer (some ⟨b42, 0, none⟩)), (6, .int .u64 v46), (23, .slice A40 r31.length c41), (24, .int .i64 (r31.length : Int)), (25, .int .i64 x25_l1), (46, .pointer (some ⟨b42, 0, none⟩))]) (by kernel_rfl) ?_
        refine WD.pure (i := 1) (v := .pointer (some ⟨b42, 0, none⟩)) (by kernel_rfl) (by kernel_rfl) (fun _ => by kernel_rfl) ?_
        refine WD.weaken [4, 6, 23, 24, 25, 46, 47] (L' := [(4, .pointer (some ⟨b42, 0, none⟩)), (6, .int .u64 v46), (23, .slice A40 r31.length c41), (24, .int .i64 (r31.length : Int)), (25, .int .i64 x25_l1), (46, .pointer (some ⟨b42, 0, none⟩)), (47, .pointer (some ⟨b42, 0, none⟩))]) (by kernel_rfl) ?_
        refine WD.pure (i := 2) (v := .pointer (some ⟨b42, 3, none⟩)) (by kernel_rfl) (by kernel_rfl) (fun _ => by kernel_rfl) ?_
        refine WD.weaken [4, 6, 23, 24, 25, 46, 48] (L' := [(4, .pointer (some ⟨b42, 0, none⟩)), (6, .int .u64 v46), (23, .slice A40 r31.length c41), (24, .int .i64 (r31.length : Int)), (25, .int .i64 x25_l1), (46, .pointer (some ⟨b42, 0, none⟩)), (48, .pointer (some ⟨b42, 3, none⟩))]) (by kernel_rfl) ?_
        refine WD.ofR (i := 3) (by kernel_rfl) (RSt.loadObj (t := 3) (k := 3) (v := .int .i64 q44p3_l1) (.tmp 48) (by kernel_rfl) (by kernel_rfl) (by kernel_rfl) 1 hS rfl (by kernel_rfl) rfl ?_)
        refine WD.weaken [4, 6, 23, 24, 25, 46, 49] (L' := [(4, .pointer (some ⟨b42, 0, none⟩)), (6, .int .u64 v46), (23, .slice A40 r31.length c41), (24, .int .i64 (r31.length : Int)), (25, .int .i64 x25_l1), (46, .pointer (some ⟨b42, 0, none⟩)), (49, .int .i64 q44p3_l1)]) (by kernel_rfl) ?_
        refine WD.pure (i := 4) (v := .int .u64 v46) (by kernel_rfl) (by kernel_rfl) (fun _ => by kernel_rfl) ?_
        refine WD.weaken [4, 23, 24, 25, 46, 49, 50] (L' := [(4, .pointer (some ⟨b42, 0, none⟩)), (23, .slice A40 r31.length c41), (24, .int .i64 (r31.length : Int)), (25, .int .i64 x25_l1), (46, .pointer (some ⟨b42, 0, none⟩)), (49, .int .i64 q44p3_l1), (50, .int .u64 v46)]) (by kernel_rfl) ?_
        obtain ⟨r73, e74, H⟩ := bind_ex H
        refine WD.act (i := 5) (by kernel_rfl) (St.call (by kernel_rfl) (f := 38) (args := #[.int .u64 v46]) (by kernel_rfl) (bits_OnesCount64.calls w71 v46 r73 e74) ?_)
        rintro _ w80 ⟨rfl, hS81⟩
        have hS : Sat w80 (rf w0) [osl 43 (r0 (.int .u64)) 1 A40 c41 r31, pts b42 (.cells #[.int .i64 r22, .slice A40 r31.length c41, .slice Aq44p2_l1 q44p2_l1.length cq44p2_l1, .int .i64 q44p3_l1] 68 (0, 0)), osl 3 (r0 (.int .i64)) 1 Aq44p2_l1 cq44p2_l1 q44p2_l1] := hS.ext hS81
        refine ⟨(asked.cons (RSt.run (n := 57) (RSt.loadObj (t := 3) (k := 3) (v := .int .i64 q44p3_l1) (.tmp 48) (by kernel_rfl) (by kernel_rfl) (by kernel_rfl) 1 hS rfl (by kernel_rfl) rfl rfl)) (asked.nil _ _)), ?_⟩
        refine WD.weaken [4, 23, 24, 25, 46, 49, 51] (L' := [(4, .pointer (some ⟨b42, 0, none⟩)), (23, .slice A40 r31.length c41), (24, .int .i64 (r31.length : Int)), (25, .int .i64 x25_l1), (46, .pointer (some ⟨b42, 0, none⟩)), (49, .int .i64 q44p3_l1), (51, .int .i64 r73)]) (by kernel_rfl) ?_
        refine WD.pure (i := 6) (v := .int .i64 (wi (q44p3_l1 + r73))) (by kernel_rfl) (by kernel_rfl) (fun _ => by kernel_rfl) ?_
        refine WD.weaken [4, 23, 24, 25, 46, 52] (L' := [(4, .pointer (some ⟨b42, 0, none⟩)), (23, .slice A40 r31.length c41), (24, .int .i64 (r31.length : Int)), (25, .int .i64 x25_l1), (46, .pointer (some ⟨b42, 0, none⟩)), (52, .int .i64 (wi (q44p3_l1 + r73)))]) (by kernel_rfl) ?_
        refine WD.pure (i := 7) (v := .pointer (some ⟨b42, 0, none⟩)) (by kernel_rfl) (by kernel_rfl) (fun _ => by kernel_rfl) ?_
        refine WD.weaken [4, 23, 24, 25, 52, 53] (L' := [(4, .pointer (some ⟨b42, 0, none⟩)), (23, .slice A40 r31.length c41), (24, .int .i64 (r31.length : Int)), (25, .int .i64 x25_l1), (52, .int .i64 (wi (q44p3_l1 + r73))), (53, .pointer (some ⟨b42, 0, none⟩))]) (by kernel_rfl) ?_
        refine WD.pure (i := 8) (v := .pointer (some ⟨b42, 3, none⟩)) (by kernel_rfl) (by kernel_rfl) (fun _ => by kernel_rfl) ?_
        refine WD.weaken [4, 23, 24, 25, 52, 54] (L' := [(4, .pointer (some ⟨b42, 0, none⟩)), (23, .slice A40 r31.length c41), (24, .int .i64 (r31.length : Int)), (25, .int .i64 x25_l1), (52, .int .i64 (wi (q44p3_l1 + r73))), (54, .pointer (some ⟨b42, 3, none⟩))]) (by kernel_rfl) ?_
        have hS : Sat w80 (rf w0) [pts b42 (.cells #[.int .i64 r22, .slice A40 r31.length c41, .slice Aq44p2_l1 q44p2_l1.length cq44p2_l1, .int .i64 q44p3_l1] 68 (0, 0)), osl 43 (r0 (.int .u64)) 1 A40 c41 r31, osl 3 (r0 (.int .i64)) 1 Aq44p2_l1 cq44p2_l1 q44p2_l1] := hS.sel [1, 0, 2] (by kernel_rfl)
        refine WD.act (i := 9) (by kernel_rfl) (St.storeObj (t := 3) (k := 3) (cur' := #[.int .i64 r22, .slice A40 r31.length c41, .slice Aq44p2_l1 q44p2_l1.length cq44p2_l1, .int .i64 (wi (q44p3_l1 + r73))]) (.tmp 54) (.tmp 52) (by kernel_rfl) (by kernel_rfl) (by kernel_rfl) hS (by kernel_rfl) (by kernel_rfl) (by kernel_rfl) rfl rfl (fun w82 hS => ?_))
        refine ⟨(asked.anc (by kernel_rfl) (asked.nil _ _)), ?_⟩
        refine WD.weaken [4, 23, 24, 25] (L' := [(4, .pointer (some ⟨b42, 0, none⟩)), (23, .slice A40 r31.length c41), (24, .int .i64 (r31.length : Int)), (25, .int .i64 x25_l1)]) (by kernel_rfl) ?_
        refine WD.nil (by kernel_rfl) ?_
        refine At.blockNormal ?_
        refine At.go ?_
        refine WC.reg [0, 1] (by kernel_rfl) (by kernel_rfl) ?_
        refine WR.runk [0, 1] [] [4, 23, 24, 25] (L' := [(4, .pointer (some ⟨b42, 0, none⟩)), (23, .slice A40 r31.length c41), (24, .int .i64 (r31.length : Int)), (25, .int .i64 (wi (x25_l1 + 1)))]) (w' := w82) (by kernel_rfl) ?_
        refine WR.nil ?_
        have hS : Sat w82 (rf w0) [osl 43 (r0 (.int .u64)) 1 A40 c41 r31, pts b42 (.cells #[.int .i64 r22, .slice A40 r31.length c41, .slice Aq44p2_l1 q44p2_l1.length cq44p2_l1, .int .i64 (wi (q44p3_l1 + r73))] 68 (0, 0)), osl 3 (r0 (.int .i64)) 1 Aq44p2_l1 cq44p2_l1 q44p2_l1] := hS.sel [1, 0, 2] (by kernel_rfl)
        refine At.again ?_
        refine WL.weaken [4, 23, 24, 25] (L' := [(4, .pointer (some ⟨b42, 0, none⟩)), (23, .slice A40 r31.length c41), (24, .int .i64 (r31.length : Int)), (25, .int .i64 (wi (x25_l1 + 1)))]) (by kernel_rfl) ?_
        exact ih (wi (x25_l1 + 1)) q44p2_l1 (wi (q44p3_l1 + r73)) Aq44p2_l1 cq44p2_l1 _ hS H
    · replace H := ite_f H hb45
      refine WC.exit (by kernel_rfl) ?_
      refine At.thenExit ?_
      refine At.thenExit ?_
      obtain rfl := Option.some.inj H
      have hS : Sat w (rf w0) [pts b42 (.cells #[.int .i64 r22, .slice A40 r31.length c41, .slice Aq44p2_l1 q44p2_l1.length cq44p2_l1, .int .i64 q44p3_l1] 68 (0, 0)), osl 3 (r0 (.int .i64)) 1 Aq44p2_l1 cq44p2_l1 q44p2_l1, osl 43 (r0 (.int .u64)) 1 A40 c41 r31] := hS.sel [1, 2, 0] (by kernel_rfl)
      refine At.weaken [4] (L' := [(4, .pointer (some ⟨b42, 0, none⟩))]) (by kernel_rfl) ?_
      exact hn0 Aq44p2_l1 cq44p2_l1 _ hS
theorem rank_New.calls (w0 : World) (v0 : Value) (p0 : Option (Int × Int × (List Int))) (R0 : rd (hp w0) (.ptr 66 (.pair (.int .i64) (.pair (.int .i64) (.slice 43 (.int .u64))))) [v0] p0) (r : (Option (Int × (List Int) × (List Int) × Int)) × Int) (H : rank_New.f p0 = some r) :
    Calls Try.prog 24 #[v0] w0 (fun e w' => ∃ v, e = .returned v ∧ rank_New.post w0 r v w') := by
  have hS : Sat w0 (rf w0) [] := Sat.start w0
  unfold rank_New.f at H
  refine calls_of_WC (vs := [v0]) Try.func24 (c := C24) (n := 57) (by kernel_rfl) (by kernel_rfl) (by kernel_rfl) ?_
  refine WC.seq (by kernel_rfl) ?_
  refine WC.reg [0, 1] (by kernel_rfl) (by kernel_rfl) ?_
  refine WR.runk [0, 1] [] [0] (L' := [(0, v0)]) (w' := w0) (by kernel_rfl) ?_
  refine WR.nil ?_
  refine At.go ?_
  refine WC.seq (by kernel_rfl) ?_
  refine WC.block (by kernel_rfl) ?_
  refine WC.seq (by kernel_rfl) ?_
  refine WC.reg [0, 1, 2] (by kernel_rfl) (by kernel_rfl) ?_
  refine WR.runk [0] [1, 2] [0, 8] (L' := [(0, v0), (8, v0)]) (w' := w0) (by kernel_rfl) ?_
  rcases opt_cases p0 with hr1 | ⟨y3, hr1⟩
  · rw [hr1] at H
    dsimp only at H
    have hx2 := rd_ptr_none R0 hr1
    try subst hx2
    refine WR.runk [1, 2] [] [0, 7] (L' := [(0, .pointer none), (7, .bool true)]) (w' := w0) (by kernel_rfl) ?_
    refine WR.nil ?_
    refine At.go ?_
    refine WC.condT (by kernel_rfl) (by kernel_rfl) (by kernel_rfl) ?_
    refine WC.seq (by kernel_rfl) ?_
    refine WC.reg [0, 1] (by kernel_rfl) (by kernel_rfl) ?_
    refine WR.runk [0, 1] [] [2, 3] (L' := [(2, .pointer none), (3, .int .i64 1)]) (w' := w0) (by kernel_rfl) ?_
    refine WR.nil ?_
    refine At.go ?_
    refine WC.ret (by kernel_rfl) ?_
    refine At.blockRet ?_
    refine At.thenRet ?_
    obtain rfl := Option.some.inj H
    have hS := optP.nil (O := O68) hS
    have hS : Sat w0 (rf w0) [optP O68 (.pointer none) none] := hS.sel [0] (by kernel_rfl)
    exact At.body [.pointer none, .int .i64 1] (by kernel_rfl) ⟨_, rfl, _, rfl, hS⟩
  · rw [hr1] at H
    dsimp only at H
    obtain ⟨b4, fr5, A9, c10, hv6, hb7, R11⟩ := P66.open R0 hr1
    have R8 := R0
    rw [hv6, hr1] at R8
    try subst hv6
    replace R11 : rdS (r0 (.int .u64)) 1 (hp w0) A9 c10 y3.2.2 := R11
    refine WR.runk [1, 2] [] [0, 7] (L' := [(0, .pointer (some ⟨b4, 0, none⟩)), (7, .bool false)]) (w' := w0) (by kernel_rfl) ?_
    refine WR.nil ?_
    refine At.go ?_
    refine WC.condF (by kernel_rfl) (by kernel_rfl) (by kernel_rfl) ?_
    refine WC.seq (by kernel_rfl) ?_
    refine WC.reg [0, 1, 2, 3] (by kernel_rfl) (by kernel_rfl) ?_
    refine WR.runk [0] [1, 2, 3] [0, 11] (L' := [(0, .pointer (some ⟨b4, 0, none⟩)), (11, .pointer (some ⟨b4, 0, none⟩))]) (w' := w0) (by kernel_rfl) ?_
    obtain ⟨r12, e13, H⟩ := bind_ex H
    refine WR.st (St.call (by kernel_rfl) (f := 36) (args := #[.pointer (some ⟨b4, 0, none⟩)]) (by kernel_rfl) (pack_Ints_Width.calls w0 (.pointer (some ⟨b4, 0, none⟩)) (some y3) (rd.mono hS.sub0 _ _ _ R8) r12 e13) ?_)
    rintro _ w19 ⟨rfl, hS20⟩
    have hS : Sat w19 (rf w0) [] := hS.ext hS20
    refine WR.runk [2, 3] [] [0, 10] (L' := [(0, .pointer (some ⟨b4, 0, none⟩)), (10, .bool (r12 != 1))]) (w' := w19) (by kernel_rfl) ?_
    refine WR.nil ?_
    refine At.go ?_
    refine WC.cond (by kernel_rfl) (r12 != 1) (by kernel_rfl) (by kernel_rfl) (fun hb21 => ?_) (fun hb21 => ?_)
    · replace H := ite_t H hb21
      refine WC.seq (by kernel_rfl) ?_
      refine WC.reg [0, 1] (by kernel_rfl) (by kernel_rfl) ?_
      refine WR.runk [0, 1] [] [2, 3] (L' := [(2, .pointer none), (3, .int .i64 2)]) (w' := w19) (by kernel_rfl) ?_
      refine WR.nil ?_
      refine At.go ?_
      refine WC.ret (by kernel_rfl) ?_
      refine At.blockRet ?_
      refine At.thenRet ?_
      obtain rfl := Option.some.inj H
      have hS := optP.nil (O := O68) hS
      have hS : Sat w19 (rf w0) [optP O68 (.pointer none) none] := hS.sel [0] (by kernel_rfl)
      exact At.body [.pointer none, .int .i64 2] (by kernel_rfl) ⟨_, rfl, _, rfl, hS⟩
    · replace H := ite_f H hb21
      refine WC.skip (by kernel_rfl) ?_
      refine At.blockNormal ?_
      refine At.go ?_
      refine WC.seq (by kernel_rfl) ?_
      refine WC.reg [0, 1, 2, 3, 4, 5, 6] (by kernel_rfl) (by kernel_rfl) ?_
      refine WR.runk [0] [1, 2, 3, 4, 5, 6] [0, 14] (L' := [(0, .pointer (some ⟨b4, 0, none⟩)), (14, .pointer (some ⟨b4, 0, none⟩))]) (w' := w19) (by kernel_rfl) ?_
      obtain ⟨r22, e23, H⟩ := bind_ex H
      refine WR.st (St.call (by kernel_rfl) (f := 37) (args := #[.pointer (some ⟨b4, 0, none⟩)]) (by kernel_rfl) (pack_Ints_Len.calls w19 (.pointer (some ⟨b4, 0, none⟩)) (some y3) (rd.mono hS.sub0 _ _ _ R8) r22 e23) ?_)
      rintro _ w29 ⟨rfl, hS30⟩
      have hS : Sat w29 (rf w0) [] := hS.ext hS30
      refine WR.runk [2] [3, 4, 5, 6] [15, 16] (L' := [(15, .int .i64 r22), (16, .pointer (some ⟨b4, 0, none⟩))]) (w' := w29) (by kernel_rfl) ?_
      obtain ⟨r31, e32, H⟩ := bind_ex H
      refine WR.st (St.call (by kernel_rfl) (f := 27) (args := #[.pointer (some ⟨b4, 0, none⟩)]) (by kernel_rfl) (pack_Ints_Words.calls w29 (.pointer (some ⟨b4, 0, none⟩)) (some y3) (rd.mono hS.sub0 _ _ _ R8) r31 e32) ?_)
      rintro _ w38 ⟨A40, c41, rfl, hS39⟩
      have hS : Sat w38 (rf w0) [osl 43 (r0 (.int .u64)) 1 A40 c41 r31] := hS.ext hS39
      refine WR.runk [4] [5, 6] [18] (L' := [(18, .agg #[.int .i64 r22, .slice A40 r31.length c41, .slice none 0 0, .int .i64 0])]) (w' := w38) (by kernel_rfl) ?_
      refine WR.st (St.box hS (by kernel_rfl) (.cells #[.int .i64 r22, .slice A40 r31.length c41, .slice none 0 0, .int .i64 0] 68) (fun b42 => .pointer (some ⟨b42, 0, none⟩)) (fun _ => by kernel_rfl) (fun b42 w43 hS => ?_))
      refine WR.runk [6] [] [4] (L' := [(4, .pointer (some ⟨b42, 0, none⟩))]) (w' := w43) (by kernel_rfl) ?_
      refine WR.nil ?_
      refine At.go ?_
      refine WC.seq (by kernel_rfl) ?_
      refine WC.seq (by kernel_rfl) ?_
      refine WC.reg [0, 1, 2, 3, 4, 5] (by kernel_rfl) (by kernel_rfl) ?_
      refine WR.runk [0, 1, 2] [3, 4, 5] [4, 22] (L' := [(4, .pointer (some ⟨b42, 0, none⟩)), (22, .pointer (some ⟨b42, 1, none⟩))]) (w' := w43) (by kernel_rfl) ?_
      refine WR.st (St.ofR (RSt.loadObj (t := 35) (k := 1) (v := .slice A40 r31.length c41) (.tmp 22) (by kernel_rfl) (by kernel_rfl) (by kernel_rfl) 0 hS rfl (by kernel_rfl) rfl ?_))
      refine WR.runk [4, 5] [] [4, 23, 24, 25] (L' := [(4, .pointer (some ⟨b42, 0, none⟩)), (23, .slice A40 r31.length c41), (24, .int .i64 (r31.length : Int)), (25, .int .i64 0)]) (w' := w43) (by kernel_rfl) ?_
      refine WR.nil ?_
      refine At.go ?_
      refine WC.block (by kernel_rfl) ?_
      have hS := hS.addNil (α := Int) 3 (r0 (.int .i64)) 1
      have hS : Sat w43 (rf w0) [osl 43 (r0 (.int .u64)) 1 A40 c41 r31, pts b42 (.cells #[.int .i64 r22, .slice A40 r31.length c41, .slice none 0 0, .int .i64 0] 68 (0, 0)), osl 3 (r0 (.int .i64)) 1 none 0 ([] : List Int)] := hS.sel [2, 1, 0] (by kernel_rfl)
      obtain ⟨o83, e84, H⟩ := bind_ex H
      refine WC.loop (by kernel_rfl) ?_
      refine WL.weaken [4, 23, 24, 25] (L' := [(4, .pointer (some ⟨b42, 0, none⟩)), (23, .slice A40 r31.length c41), (24, .int .i64 (r31.length : Int)), (25, .int .i64 0)]) (by kernel_rfl) ?_
      refine rank_New.l1_ok w0 r22 r31 A40 c41 b42 o83 (fun Aq44p2_q85 cq44p2_q85 w86 hS => ?_) FU 0 ([] : List Int) 0 none 0 _ hS e84
      refine At.hit ?_
      refine At.go ?_
      refine WC.seq (by kernel_rfl) ?_
      refine WC.reg [0, 1, 2] (by kernel_rfl) (by kernel_rfl) ?_
      refine WR.runk [0, 1, 2] [] [2, 3] (L' := [(2, .pointer (some ⟨b42, 0, none⟩)), (3, .int .i64 0)]) (w' := w86) (by kernel_rfl) ?_
      refine WR.nil ?_
      refine At.go ?_
      refine WC.ret (by kernel_rfl) ?_
      obtain rfl := Option.some.inj H
      have hS : Sat w86 (rf w0) [pts b42 (.cells #[.int .i64 r22, .slice A40 r31.length c41, .slice Aq44p2_q85 o83.1.length cq44p2_q85, .int .i64 o83.2] 68 (0, 0)), osl 43 (r0 (.int .u64)) 1 A40 c41 r31, osl 3 (r0 (.int .i64)) 1 Aq44p2_q85 cq44p2_q85 o83.1] := hS.sel [0, 2, 1] (by kernel_rfl)
      have hS : Sat w86 (rf w0) [O68 b42 (r22, r31, o83.1, o83.2)] := O68.close (r22, r31, o83.1, o83.2) A40 c41 Aq44p2_q85 cq44p2_q85 hS
      have hS : Sat w86 (rf w0) [optP O68 (.pointer (some ⟨b42, 0, none⟩)) (some (r22, r31, o83.1, o83.2))] := optP.mk hS
      have hS : Sat w86 (rf w0) [optP O68 (.pointer (some ⟨b42, 0, none⟩)) (some (r22, r31, o83.1, o83.2))] := hS.sel [0] (by kernel_rfl)
      exact At.body [.pointer (some ⟨b42, 0, none⟩), .int .i64 0] (by kernel_rfl) ⟨_, rfl, _, rfl, hS⟩
end Go.Proofs.Ytomeiphaohjeoaa
