/-
  Printed by gen.py (my own tool): for each Go function a plain Lean function and the proof that a call of it does what that function says.
-/
import Derived.Test.YtmdemfbkdbilpaaProg
import Derived.Test.YtmdemfbkdbilpaaGM
set_option linter.unusedVariables false
set_option linter.unusedSimpArgs false
set_option maxRecDepth 100000
namespace Go.Proofs.Ytmdemfbkdbilpaa
open Go Go.Gol
theorem E22 : ElemInfo Try.prog 22 3 1 8 := ElemInfo.mk' (.int .i64 0) (by kernel_rfl) (by kernel_rfl) rfl
theorem E63 : ElemInfo Try.prog 63 22 1 24 := ElemInfo.mk' (.slice none 0 0) (by kernel_rfl) (by kernel_rfl) rfl
theorem E70 : ElemInfo Try.prog 70 55 1 8 := ElemInfo.mk' (.int .u64 0) (by kernel_rfl) (by kernel_rfl) rfl
theorem E33 : ElemInfo Try.prog 33 34 1 24 := ElemInfo.mk' (.slice none 0 0) (by kernel_rfl) (by kernel_rfl) rfl
theorem E34 : ElemInfo Try.prog 34 5 1 1 := ElemInfo.mk' (.int .u8 0) (by kernel_rfl) (by kernel_rfl) rfl
noncomputable abbrev C28 : Code := Try.f28.body.getD .skip
noncomputable abbrev C30 : Code := Try.f30.body.getD .skip
noncomputable abbrev C29 : Code := Try.f29.body.getD .skip
noncomputable abbrev C17 : Code := Try.f17.body.getD .skip
noncomputable abbrev C18 : Code := Try.f18.body.getD .skip
noncomputable abbrev C31 : Code := Try.f31.body.getD .skip
noncomputable abbrev C43 : Code := Try.f43.body.getD .skip
noncomputable abbrev C32 : Code := Try.f32.body.getD .skip
noncomputable abbrev C19 : Code := Try.f19.body.getD .skip
noncomputable abbrev C33 : Code := Try.f33.body.getD .skip
noncomputable abbrev C20 : Code := Try.f20.body.getD .skip
noncomputable abbrev C34 : Code := Try.f34.body.getD .skip
noncomputable abbrev C21 : Code := Try.f21.body.getD .skip
noncomputable abbrev C35 : Code := Try.f35.body.getD .skip
noncomputable abbrev C36 : Code := Try.f36.body.getD .skip
noncomputable abbrev C44 : Code := Try.f44.body.getD .skip
noncomputable abbrev C37 : Code := Try.f37.body.getD .skip
noncomputable abbrev C38 : Code := Try.f38.body.getD .skip
noncomputable abbrev C22 : Code := Try.f22.body.getD .skip
noncomputable abbrev C8 : Code := Try.f8.body.getD .skip
noncomputable abbrev C46 : Code := Try.f46.body.getD .skip
noncomputable abbrev C47 : Code := Try.f47.body.getD .skip
noncomputable abbrev C45 : Code := Try.f45.body.getD .skip
noncomputable abbrev C49 : Code := Try.f49.body.getD .skip
noncomputable abbrev C50 : Code := Try.f50.body.getD .skip
noncomputable abbrev C51 : Code := Try.f51.body.getD .skip
noncomputable abbrev C48 : Code := Try.f48.body.getD .skip
noncomputable abbrev C39 : Code := Try.f39.body.getD .skip
noncomputable abbrev C23 : Code := Try.f23.body.getD .skip
noncomputable abbrev C11 : Code := Try.f11.body.getD .skip
noncomputable abbrev C10 : Code := Try.f10.body.getD .skip
noncomputable abbrev C7 : Code := Try.f7.body.getD .skip
noncomputable abbrev C9 : Code := Try.f9.body.getD .skip
noncomputable abbrev C3 : Code := Try.f3.body.getD .skip
noncomputable abbrev C12 : Code := Try.f12.body.getD .skip
noncomputable abbrev C15 : Code := Try.f15.body.getD .skip
noncomputable abbrev C40 : Code := Try.f40.body.getD .skip
noncomputable abbrev C24 : Code := Try.f24.body.getD .skip
noncomputable abbrev C25 : Code := Try.f25.body.getD .skip
noncomputable abbrev C41 : Code := Try.f41.body.getD .skip
noncomputable abbrev C26 : Code := Try.f26.body.getD .skip
noncomputable abbrev C13 : Code := Try.f13.body.getD .skip
noncomputable abbrev C27 : Code := Try.f27.body.getD .skip
noncomputable abbrev C14 : Code := Try.f14.body.getD .skip
noncomputable abbrev C16 : Code := Try.f16.body.getD .skip
noncomputable abbrev C4 : Code := Try.f4.body.getD .skip
noncomputable abbrev C5 : Code := Try.f5.body.getD .skip
def O76 (b : Nat) (x : Int × (List Int) × (List Int) × Int) : HP := fun H => ∃ a : (Option Addr × Nat) × (Option Addr × Nat), SepL [pts b (.cells #[.int .i64 x.1, .slice a.1.1 x.2.1.length a.1.2, .slice a.2.1 x.2.2.1.length a.2.2, .int .i64 x.2.2.2] 76 (0, 0)), osl 55 (r0 (.int .u64)) 1 a.1.1 a.1.2 x.2.1, osl 3 (r0 (.int .i64)) 1 a.2.1 a.2.2 x.2.2.1] H
theorem O76.open {w : World} {B : Rf} {cs : List HP} {b : Nat} {x : Int × (List Int) × (List Int) × Int} (h : Sat w B (O76 b x :: cs)) : ∃ (A0 : Option Addr) (c0 : Nat) (A1 : Option Addr) (c1 : Nat), Sat w B ([pts b (.cells #[.int .i64 x.1, .slice A0 x.2.1.length c0, .slice A1 x.2.2.1.length c1, .int .i64 x.2.2.2] 76 (0, 0)), osl 55 (r0 (.int .u64)) 1 A0 c0 x.2.1, osl 3 (r0 (.int .i64)) 1 A1 c1 x.2.2.1] ++ cs) := by
  obtain ⟨a, h⟩ := Sat.ex h
  exact ⟨a.1.1, a.1.2, a.2.1, a.2.2, Sat.op h⟩
theorem O76.close {w : World} {B : Rf} {cs : List HP} {b : Nat} (x : Int × (List Int) × (List Int) × Int) (A0 : Option Addr) (c0 : Nat) (A1 : Option Addr) (c1 : Nat) (h : Sat w B ([pts b (.cells #[.int .i64 x.1, .slice A0 x.2.1.length c0, .slice A1 x.2.2.1.length c1, .int .i64 x.2.2.2] 76 (0, 0)), osl 55 (r0 (.int .u64)) 1 A0 c0 x.2.1, osl 3 (r0 (.int .i64)) 1 A1 c1 x.2.2.1] ++ cs)) : Sat w B (O76 b x :: cs) := Sat.mono1 (c := SepL [pts b (.cells #[.int .i64 x.1, .slice A0 x.2.1.length c0, .slice A1 x.2.2.1.length c1, .int .i64 x.2.2.2] 76 (0, 0)), osl 55 (r0 (.int .u64)) 1 A0 c0 x.2.1, osl 3 (r0 (.int .i64)) 1 A1 c1 x.2.2.1]) (fun H h => ⟨((A0, c0), (A1, c1)), h⟩) (Sat.cl _ h)
theorem P76.open {H : Heap} {v : Value} {o : Option (Int × (List Int) × (List Int) × Int)} (h : Gol.rd H (.ptr 76 (.pair (.int .i64) (.pair (.slice 55 (.int .u64)) (.pair (.slice 3 (.int .i64)) (.int .i64))))) [v] o) {y : Int × (List Int) × (List Int) × Int} (e : o = some y) : ∃ (b : Nat) (fr : Nat × Nat) (A0 : Option Addr) (c0 : Nat) (A1 : Option Addr) (c1 : Nat), v = .pointer (some ⟨b, 0, none⟩) ∧ H b = some (.cells #[.int .i64 y.1, .slice A0 y.2.1.length c0, .slice A1 y.2.2.1.length c1, .int .i64 y.2.2.2] 76 fr) ∧ rdS (r0 (.int .u64)) 1 H A0 c0 y.2.1 ∧ rdS (r0 (.int .i64)) 1 H A1 c1 y.2.2.1 := by
  obtain ⟨b, cells, fr, hv, hb, hr⟩ := rd_ptr_some h e
  obtain ⟨_, _, e0, g0, z0, ⟨_, _, e1, g1, ⟨A0, c0, z1, R0⟩, ⟨_, _, e2, g2, ⟨A1, c1, z2, R1⟩, z3⟩⟩⟩ := hr
  have z0' := z0; replace z0' : _ = ([.int .i64 y.1] : List Value) := z0'
  have z1' := z1; replace z1' : _ = ([.slice A0 y.2.1.length c0] : List Value) := z1'
  have z2' := z2; replace z2' : _ = ([.slice A1 y.2.2.1.length c1] : List Value) := z2'
  have z3' := z3; replace z3' : _ = ([.int .i64 y.2.2.2] : List Value) := z3'
  have hc : cells = #[.int .i64 y.1, .slice A0 y.2.1.length c0, .slice A1 y.2.2.1.length c1, .int .i64 y.2.2.2] := by apply Array.ext'; rw [e0, z0', e1, z1', e2, z2', z3']; rfl
  subst hc
  exact ⟨b, fr, A0, c0, A1, c1, hv, hb, R0, R1⟩
theorem P76.mk {H : Heap} {b : Nat} {fr : Nat × Nat} {y : Int × (List Int) × (List Int) × Int} {A0 : Option Addr} {c0 : Nat} {A1 : Option Addr} {c1 : Nat} (hb : H b = some (.cells #[.int .i64 y.1, .slice A0 y.2.1.length c0, .slice A1 y.2.2.1.length c1, .int .i64 y.2.2.2] 76 fr)) (R0 : rdS (r0 (.int .u64)) 1 H A0 c0 y.2.1) (R1 : rdS (r0 (.int .i64)) 1 H A1 c1 y.2.2.1) : Gol.rd H (.ptr 76 (.pair (.int .i64) (.pair (.slice 55 (.int .u64)) (.pair (.slice 3 (.int .i64)) (.int .i64))))) [.pointer (some ⟨b, 0, none⟩)] (some y) := ⟨b, _, fr, rfl, hb, ⟨[.int .i64 y.1], [.slice A0 y.2.1.length c0, .slice A1 y.2.2.1.length c1, .int .i64 y.2.2.2], rfl, rfl, rfl, ⟨[.slice A0 y.2.1.length c0], [.slice A1 y.2.2.1.length c1, .int .i64 y.2.2.2], rfl, rfl, ⟨A0, c0, rfl, (rdS.r0up R0)⟩, ⟨[.slice A1 y.2.2.1.length c1], [.int .i64 y.2.2.2], rfl, rfl, ⟨A1, c1, rfl, (rdS.r0up R1)⟩, rfl⟩⟩⟩⟩
theorem O76.rd (b : Nat) (x : Int × (List Int) × (List Int) × Int) (H : Heap) (h : O76 b x H) : Gol.rd H (.ptr 76 (.pair (.int .i64) (.pair (.slice 55 (.int .u64)) (.pair (.slice 3 (.int .i64)) (.int .i64))))) [.pointer (some ⟨b, 0, none⟩)] (some x) := by
  obtain ⟨a, h⟩ := h
  exact P76.mk (SepL.blockAt 0 h rfl) (SepL.rdAt 1 h rfl) (SepL.rdAt 2 h rfl)
def O58 (b : Nat) (x : Int × (Option (Int × (List Int) × (List Int) × Int))) : HP := fun H => ∃ a : Value, SepL [pts b (.cells #[.int .i64 x.1, a] 58 (0, 0)), optP O76 a x.2] H
theorem O58.open {w : World} {B : Rf} {cs : List HP} {b : Nat} {x : Int × (Option (Int × (List Int) × (List Int) × Int))} (h : Sat w B (O58 b x :: cs)) : ∃ (v0 : Value), Sat w B ([pts b (.cells #[.int .i64 x.1, v0] 58 (0, 0)), optP O76 v0 x.2] ++ cs) := by
  obtain ⟨a, h⟩ := Sat.ex h
  exact ⟨a, Sat.op h⟩
theorem O58.close {w : World} {B : Rf} {cs : List HP} {b : Nat} (x : Int × (Option (Int × (List Int) × (List Int) × Int))) (v0 : Value) (h : Sat w B ([pts b (.cells #[.int .i64 x.1, v0] 58 (0, 0)), optP O76 v0 x.2] ++ cs)) : Sat w B (O58 b x :: cs) := Sat.mono1 (c := SepL [pts b (.cells #[.int .i64 x.1, v0] 58 (0, 0)), optP O76 v0 x.2]) (fun H h => ⟨v0, h⟩) (Sat.cl _ h)
theorem P58.open {H : Heap} {v : Value} {o : Option (Int × (Option (Int × (List Int) × (List Int) × Int)))} (h : Gol.rd H (.ptr 58 (.pair (.int .i64) (.ptr 76 (.pair (.int .i64) (.pair (.slice 55 (.int .u64)) (.pair (.slice 3 (.int .i64)) (.int .i64))))))) [v] o) {y : Int × (Option (Int × (List Int) × (List Int) × Int))} (e : o = some y) : ∃ (b : Nat) (fr : Nat × Nat) (v0 : Value), v = .pointer (some ⟨b, 0, none⟩) ∧ H b = some (.cells #[.int .i64 y.1, v0] 58 fr) ∧ Gol.rd H (.ptr 76 (.pair (.int .i64) (.pair (.slice 55 (.int .u64)) (.pair (.slice 3 (.int .i64)) (.int .i64))))) [v0] y.2 := by
  obtain ⟨b, cells, fr, hv, hb, hr⟩ := rd_ptr_some h e
  obtain ⟨_, _, e0, g0, z0, S0⟩ := hr
  obtain ⟨v0, z1⟩ := rd_ptr_one S0
  rw [z1] at S0
  have z0' := z0; replace z0' : _ = ([.int .i64 y.1] : List Value) := z0'
  have z1' := z1; replace z1' : _ = ([v0] : List Value) := z1'
  have hc : cells = #[.int .i64 y.1, v0] := by apply Array.ext'; rw [e0, z0', z1']; rfl
  subst hc
  exact ⟨b, fr, v0, hv, hb, S0⟩
theorem P58.mk {H : Heap} {b : Nat} {fr : Nat × Nat} {y : Int × (Option (Int × (List Int) × (List Int) × Int))} {v0 : Value} (hb : H b = some (.cells #[.int .i64 y.1, v0] 58 fr)) (R0 : Gol.rd H (.ptr 76 (.pair (.int .i64) (.pair (.slice 55 (.int .u64)) (.pair (.slice 3 (.int .i64)) (.int .i64))))) [v0] y.2) : Gol.rd H (.ptr 58 (.pair (.int .i64) (.ptr 76 (.pair (.int .i64) (.pair (.slice 55 (.int .u64)) (.pair (.slice 3 (.int .i64)) (.int .i64))))))) [.pointer (some ⟨b, 0, none⟩)] (some y) := ⟨b, _, fr, rfl, hb, ⟨[.int .i64 y.1], [v0], rfl, rfl, rfl, R0⟩⟩
theorem O58.rd (b : Nat) (x : Int × (Option (Int × (List Int) × (List Int) × Int))) (H : Heap) (h : O58 b x H) : Gol.rd H (.ptr 58 (.pair (.int .i64) (.ptr 76 (.pair (.int .i64) (.pair (.slice 55 (.int .u64)) (.pair (.slice 3 (.int .i64)) (.int .i64))))))) [.pointer (some ⟨b, 0, none⟩)] (some x) := by
  obtain ⟨a, h⟩ := h
  exact P58.mk (SepL.blockAt 0 h rfl) (SepL.rdAny 1 h rfl (fun _ h => optP.rdd (t := 76) (κ := (.pair (.int .i64) (.pair (.slice 55 (.int .u64)) (.pair (.slice 3 (.int .i64)) (.int .i64))))) (O := O76) O76.rd h))
def O65 (b : Nat) (x : (List Int) × (List (List Int))) : HP := fun H => ∃ a : (Option Addr × Nat) × (Option Addr × Nat), SepL [pts b (.cells #[.slice a.1.1 x.1.length a.1.2, .slice a.2.1 x.2.length a.2.2] 65 (0, 0)), osl 3 (r0 (.int .i64)) 1 a.1.1 a.1.2 x.1, orw 22 (Esl 3 (.int .i64)) 1 a.2.1 a.2.2 x.2] H
theorem O65.open {w : World} {B : Rf} {cs : List HP} {b : Nat} {x : (List Int) × (List (List Int))} (h : Sat w B (O65 b x :: cs)) : ∃ (A0 : Option Addr) (c0 : Nat) (A1 : Option Addr) (c1 : Nat), Sat w B ([pts b (.cells #[.slice A0 x.1.length c0, .slice A1 x.2.length c1] 65 (0, 0)), osl 3 (r0 (.int .i64)) 1 A0 c0 x.1, orw 22 (Esl 3 (.int .i64)) 1 A1 c1 x.2] ++ cs) := by
  obtain ⟨a, h⟩ := Sat.ex h
  exact ⟨a.1.1, a.1.2, a.2.1, a.2.2, Sat.op h⟩
theorem O65.close {w : World} {B : Rf} {cs : List HP} {b : Nat} (x : (List Int) × (List (List Int))) (A0 : Option Addr) (c0 : Nat) (A1 : Option Addr) (c1 : Nat) (h : Sat w B ([pts b (.cells #[.slice A0 x.1.length c0, .slice A1 x.2.length c1] 65 (0, 0)), osl 3 (r0 (.int .i64)) 1 A0 c0 x.1, orw 22 (Esl 3 (.int .i64)) 1 A1 c1 x.2] ++ cs)) : Sat w B (O65 b x :: cs) := Sat.mono1 (c := SepL [pts b (.cells #[.slice A0 x.1.length c0, .slice A1 x.2.length c1] 65 (0, 0)), osl 3 (r0 (.int .i64)) 1 A0 c0 x.1, orw 22 (Esl 3 (.int .i64)) 1 A1 c1 x.2]) (fun H h => ⟨((A0, c0), (A1, c1)), h⟩) (Sat.cl _ h)
theorem P65.open {H : Heap} {v : Value} {o : Option ((List Int) × (List (List Int)))} (h : Gol.rd H (.ptr 65 (.pair (.slice 3 (.int .i64)) (.slice 22 (.slice 3 (.int .i64))))) [v] o) {y : (List Int) × (List (List Int))} (e : o = some y) : ∃ (b : Nat) (fr : Nat × Nat) (A0 : Option Addr) (c0 : Nat) (A1 : Option Addr) (c1 : Nat), v = .pointer (some ⟨b, 0, none⟩) ∧ H b = some (.cells #[.slice A0 y.1.length c0, .slice A1 y.2.length c1] 65 fr) ∧ rdS (r0 (.int .i64)) 1 H A0 c0 y.1 ∧ rdS (Gol.rd H (.slice 3 (.int .i64))) 1 H A1 c1 y.2 := by
  obtain ⟨b, cells, fr, hv, hb, hr⟩ := rd_ptr_some h e
  obtain ⟨_, _, e0, g0, ⟨A0, c0, z0, R0⟩, ⟨A1, c1, z1, R1⟩⟩ := hr
  have z0' := z0; replace z0' : _ = ([.slice A0 y.1.length c0] : List Value) := z0'
  have z1' := z1; replace z1' : _ = ([.slice A1 y.2.length c1] : List Value) := z1'
  have hc : cells = #[.slice A0 y.1.length c0, .slice A1 y.2.length c1] := by apply Array.ext'; rw [e0, z0', z1']; rfl
  subst hc
  exact ⟨b, fr, A0, c0, A1, c1, hv, hb, R0, R1⟩
theorem P65.mk {H : Heap} {b : Nat} {fr : Nat × Nat} {y : (List Int) × (List (List Int))} {A0 : Option Addr} {c0 : Nat} {A1 : Option Addr} {c1 : Nat} (hb : H b = some (.cells #[.slice A0 y.1.length c0, .slice A1 y.2.length c1] 65 fr)) (R0 : rdS (r0 (.int .i64)) 1 H A0 c0 y.1) (R1 : rdS (Gol.rd H (.slice 3 (.int .i64))) 1 H A1 c1 y.2) : Gol.rd H (.ptr 65 (.pair (.slice 3 (.int .i64)) (.slice 22 (.slice 3 (.int .i64))))) [.pointer (some ⟨b, 0, none⟩)] (some y) := ⟨b, _, fr, rfl, hb, ⟨[.slice A0 y.1.length c0], [.slice A1 y.2.length c1], rfl, rfl, ⟨A0, c0, rfl, (rdS.r0up R0)⟩, ⟨A1, c1, rfl, R1⟩⟩⟩
theorem O65.rd (b : Nat) (x : (List Int) × (List (List Int))) (H : Heap) (h : O65 b x H) : Gol.rd H (.ptr 65 (.pair (.slice 3 (.int .i64)) (.slice 22 (.slice 3 (.int .i64))))) [.pointer (some ⟨b, 0, none⟩)] (some x) := by
  obtain ⟨a, h⟩ := h
  exact P65.mk (SepL.blockAt 0 h rfl) (SepL.rdAt 1 h rfl) (SepL.rdAnyS 2 h rfl (fun _ h => orw.rdS (κ := (.slice 3 (.int .i64))) (Esl.rd (e := 3) (κ := (.int .i64))) h))
def O72 (b : Nat) (x : Int × Int × (List Int)) : HP := fun H => ∃ a : (Option Addr × Nat), SepL [pts b (.cells #[.int .i64 x.1, .int .i64 x.2.1, .slice a.1 x.2.2.length a.2] 72 (0, 0)), osl 55 (r0 (.int .u64)) 1 a.1 a.2 x.2.2] H
theorem O72.open {w : World} {B : Rf} {cs : List HP} {b : Nat} {x : Int × Int × (List Int)} (h : Sat w B (O72 b x :: cs)) : ∃ (A0 : Option Addr) (c0 : Nat), Sat w B ([pts b (.cells #[.int .i64 x.1, .int .i64 x.2.1, .slice A0 x.2.2.length c0] 72 (0, 0)), osl 55 (r0 (.int .u64)) 1 A0 c0 x.2.2] ++ cs) := by
  obtain ⟨a, h⟩ := Sat.ex h
  exact ⟨a.1, a.2, Sat.op h⟩
theorem O72.close {w : World} {B : Rf} {cs : List HP} {b : Nat} (x : Int × Int × (List Int)) (A0 : Option Addr) (c0 : Nat) (h : Sat w B ([pts b (.cells #[.int .i64 x.1, .int .i64 x.2.1, .slice A0 x.2.2.length c0] 72 (0, 0)), osl 55 (r0 (.int .u64)) 1 A0 c0 x.2.2] ++ cs)) : Sat w B (O72 b x :: cs) := Sat.mono1 (c := SepL [pts b (.cells #[.int .i64 x.1, .int .i64 x.2.1, .slice A0 x.2.2.length c0] 72 (0, 0)), osl 55 (r0 (.int .u64)) 1 A0 c0 x.2.2]) (fun H h => ⟨(A0, c0), h⟩) (Sat.cl _ h)
theorem P72.open {H : Heap} {v : Value} {o : Option (Int × Int × (List Int))} (h : Gol.rd H (.ptr 72 (.pair (.int .i64) (.pair (.int .i64) (.slice 55 (.int .u64))))) [v] o) {y : Int × Int × (List Int)} (e : o = some y) : ∃ (b : Nat) (fr : Nat × Nat) (A0 : Option Addr) (c0 : Nat), v = .pointer (some ⟨b, 0, none⟩) ∧ H b = some (.cells #[.int .i64 y.1, .int .i64 y.2.1, .slice A0 y.2.2.length c0] 72 fr) ∧ rdS (r0 (.int .u64)) 1 H A0 c0 y.2.2 := by
  obtain ⟨b, cells, fr, hv, hb, hr⟩ := rd_ptr_some h e
  obtain ⟨_, _, e0, g0, z0, ⟨_, _, e1, g1, z1, ⟨A0, c0, z2, R0⟩⟩⟩ := hr
  have z0' := z0; replace z0' : _ = ([.int .i64 y.1] : List Value) := z0'
  have z1' := z1; replace z1' : _ = ([.int .i64 y.2.1] : List Value) := z1'
  have z2' := z2; replace z2' : _ = ([.slice A0 y.2.2.length c0] : List Value) := z2'
  have hc : cells = #[.int .i64 y.1, .int .i64 y.2.1, .slice A0 y.2.2.length c0] := by apply Array.ext'; rw [e0, z0', e1, z1', z2']; rfl
  subst hc
  exact ⟨b, fr, A0, c0, hv, hb, R0⟩
theorem P72.mk {H : Heap} {b : Nat} {fr : Nat × Nat} {y : Int × Int × (List Int)} {A0 : Option Addr} {c0 : Nat} (hb : H b = some (.cells #[.int .i64 y.1, .int .i64 y.2.1, .slice A0 y.2.2.length c0] 72 fr)) (R0 : rdS (r0 (.int .u64)) 1 H A0 c0 y.2.2) : Gol.rd H (.ptr 72 (.pair (.int .i64) (.pair (.int .i64) (.slice 55 (.int .u64))))) [.pointer (some ⟨b, 0, none⟩)] (some y) := ⟨b, _, fr, rfl, hb, ⟨[.int .i64 y.1], [.int .i64 y.2.1, .slice A0 y.2.2.length c0], rfl, rfl, rfl, ⟨[.int .i64 y.2.1], [.slice A0 y.2.2.length c0], rfl, rfl, rfl, ⟨A0, c0, rfl, (rdS.r0up R0)⟩⟩⟩⟩
theorem O72.rd (b : Nat) (x : Int × Int × (List Int)) (H : Heap) (h : O72 b x H) : Gol.rd H (.ptr 72 (.pair (.int .i64) (.pair (.int .i64) (.slice 55 (.int .u64))))) [.pointer (some ⟨b, 0, none⟩)] (some x) := by
  obtain ⟨a, h⟩ := h
  exact P72.mk (SepL.blockAt 0 h rfl) (SepL.rdAt 1 h rfl)
/-! ### 28 slices.Clone[[]int,int] -/
def slices_Clone_28.f (l0 : List Int) : Option (List Int) := ((app? 17592186044416 (([] : List Int) : List Int) l0).bind fun y5 => some y5)
def slices_Clone_28.post (w : World) (r : (List Int)) (v : Value) (w' : World) : Prop := ∃ (A0' : Option Addr) (c0' : Nat), v = (.slice A0' r.length c0' : Value) ∧ Sat w' (rf w) [osl 3 (r0 (.int .i64)) 1 A0' c0' r]
theorem slices_Clone_28.calls (w0 : World) (A0 : Option Addr) (c0 : Nat) (l0 : List Int) (R0 : rdS (r0 (.int .i64)) 1 (hp w0) A0 c0 l0) (r : (List Int)) (H : slices_Clone_28.f l0 = some r) :
    Calls Try.prog 28 #[.slice A0 l0.length c0] w0 (fun e w' => ∃ v, e = .returned v ∧ slices_Clone_28.post w0 r v w') := by
  have hS : Sat w0 (rf w0) [] := Sat.start w0
  unfold slices_Clone_28.f at H
  refine calls_of_WC (vs := [.slice A0 l0.length c0]) Try.func28 (c := C28) (n := 8) (by kernel_rfl) (by kernel_rfl) (by kernel_rfl) ?_
  refine WC.seq (by kernel_rfl) ?_
  refine WC.reg [0] (by kernel_rfl) (by kernel_rfl) ?_
  refine WR.runk [0] [] [0] (L' := [(0, .slice A0 l0.length c0)]) (w' := w0) (by kernel_rfl) ?_
  refine WR.nil ?_
  refine At.go ?_
  refine WC.seq (by kernel_rfl) ?_
  refine WC.seq (by kernel_rfl) ?_
  refine WC.reg [0, 1] (by kernel_rfl) (by kernel_rfl) ?_
  refine WR.runk [0] [1] [0, 3] (L' := [(0, .slice A0 l0.length c0), (3, .slice A0 l0.length c0)]) (w' := w0) (by kernel_rfl) ?_
  refine WR.st (St.ofP (PSt.eqNil (t := 22) (t2 := 22) (e := 3) (A := A0) (m := l0.length) (c := c0) .eql (by decide) (.tmp 3) (by kernel_rfl) (by kernel_rfl) (by kernel_rfl) (by kernel_rfl) ?_))
  refine WR.runk [] [] [0, 4] (L' := [(0, .slice A0 l0.length c0), (4, .bool A0.isNone)]) (w' := w0) (by kernel_rfl) ?_
  refine WR.nil ?_
  refine At.go ?_
  refine WC.cond (by kernel_rfl) A0.isNone (by kernel_rfl) (by kernel_rfl) (fun hb1 => ?_) (fun hb1 => ?_)
  · have hnl := rdS.isNone (rdS.up R0 hS.sub0) (by simpa using hb1)
    rw [hnl] at H
    refine WC.seq (by kernel_rfl) ?_
    refine WC.reg [0] (by kernel_rfl) (by kernel_rfl) ?_
    refine WR.runk [0] [] [2] (L' := [(2, .slice none 0 0)]) (w' := w0) (by kernel_rfl) ?_
    refine WR.nil ?_
    refine At.go ?_
    refine WC.ret (by kernel_rfl) ?_
    refine At.thenRet ?_
    obtain rfl := Option.some.inj (show some ([] : List Int) = some r from H)
    have hS := hS.addNil (α := Int) 3 (r0 (.int .i64)) 1
    have hS : Sat w0 (rf w0) [osl 3 (r0 (.int .i64)) 1 none 0 ([] : List Int)] := hS.sel [0] (by kernel_rfl)
    exact At.body [.slice none 0 0] (by kernel_rfl) ⟨_, rfl, _, _, rfl, hS⟩
  · refine WC.skip (by kernel_rfl) ?_
    refine At.go ?_
    refine WC.seq (by kernel_rfl) ?_
    refine WC.reg [0, 1, 2, 3] (by kernel_rfl) (by kernel_rfl) ?_
    refine WR.runk [] [0, 1, 2, 3] [0] (L' := [(0, .slice A0 l0.length c0)]) (w' := w0) (by kernel_rfl) ?_
    refine WR.st (St.box hS (by kernel_rfl) (.cells #[] 3) (fun b2 => .slice (some ⟨b2, 0, none⟩) 0 0) (fun _ => by kernel_rfl) (fun b2 w3 hS => ?_))
    refine WR.runk [1] [2, 3] [5, 6] (L' := [(5, .slice (some ⟨b2, 0, none⟩) 0 0), (6, .slice A0 l0.length c0)]) (w' := w3) (by kernel_rfl) ?_
    have hS : Sat w3 (rf w0) [osl 3 (r0 (.int .i64)) 1 (some ⟨b2, 0, none⟩) (([] : List Int) : List Int).length (([] : List Int) : List Int)] := Sat.toOsl' (r0 (.int .i64)) 1 (([] : List Int) : List Int) hS rfl (rdL.nil _ _)
    obtain ⟨y5, e4, H⟩ := bind_ex H
    refine WR.st (St.append' (.tmp 5) (.tmp 6) (by kernel_rfl) (by kernel_rfl) E22 (r0_one _) hS (by kernel_rfl) (by kernel_rfl) (rdS.up R0 hS.sub0) 17592186044416 (by kernel_rfl) (by kernel_rfl) e4 (fun A6 c7 w8 hS => ?_))
    refine WR.runk [3] [] [2] (L' := [(2, .slice A6 y5.length c7)]) (w' := w8) (by kernel_rfl) ?_
    refine WR.nil ?_
    refine At.go ?_
    refine WC.ret (by kernel_rfl) ?_
    obtain rfl := Option.some.inj H
    have hS : Sat w8 (rf w0) [osl 3 (r0 (.int .i64)) 1 A6 c7 y5] := hS.sel [0] (by kernel_rfl)
    exact At.body [.slice A6 y5.length c7] (by kernel_rfl) ⟨_, rfl, _, _, rfl, hS⟩
/-! ### 30 (*colophon/rmq.Table).better -/
def rmq_Table_better.f (p0 : Option ((List Int) × (List (List Int)))) (a1 : Int) (a2 : Int) : Option Int := (if decide (a1 < 0) then some a2 else (if decide (a2 < 0) then some a1 else (p0.bind fun y7 => ((at? y7.1 a1).bind fun v19 => ((at? y7.1 a2).bind fun v21 => (if decide (v19 < v21) then some a1 else (if (v19 == v21) then (if decide (a1 < a2) then some a1 else some a2) else some a2)))))))
def rmq_Table_better.post (w : World) (r : Int) (v : Value) (w' : World) : Prop := v = (.int .i64 r : Value) ∧ Sat w' (rf w) []
theorem rmq_Table_better.calls (w0 : World) (v0 : Value) (p0 : Option ((List Int) × (List (List Int)))) (R0 : rd (hp w0) (.ptr 65 (.pair (.slice 3 (.int .i64)) (.slice 22 (.slice 3 (.int .i64))))) [v0] p0) (a1 : Int) (a2 : Int) (r : Int) (H : rmq_Table_better.f p0 a1 a2 = some r) :
    Calls Try.prog 30 #[v0, .int .i64 a1, .int .i64 a2] w0 (fun e w' => ∃ v, e = .returned v ∧ rmq_Table_better.post w0 r v w') := by
  have hS : Sat w0 (rf w0) [] := Sat.start w0
  unfold rmq_Table_better.f at H
  refine calls_of_WC (vs := [v0, .int .i64 a1, .int .i64 a2]) Try.func30 (c := C30) (n := 55) (by kernel_rfl) (by kernel_rfl) (by kernel_rfl) ?_
  refine WC.seq (by kernel_rfl) ?_
  refine WC.reg [0] (by kernel_rfl) (by kernel_rfl) ?_
  refine WR.runk [0] [] [0, 1, 2] (L' := [(0, v0), (1, .int .i64 a1), (2, .int .i64 a2)]) (w' := w0) (by kernel_rfl) ?_
  refine WR.nil ?_
  refine At.go ?_
  refine WC.seq (by kernel_rfl) ?_
  refine WC.block (by kernel_rfl) ?_
  refine WC.seq (by kernel_rfl) ?_
  refine WC.reg [0, 1, 2] (by kernel_rfl) (by kernel_rfl) ?_
  refine WR.runk [0, 1, 2] [] [0, 1, 2, 7] (L' := [(0, v0), (1, .int .i64 a1), (2, .int .i64 a2), (7, .bool (decide (a1 < 0)))]) (w' := w0) (by kernel_rfl) ?_
  refine WR.nil ?_
  refine At.go ?_
  refine WC.cond (by kernel_rfl) (decide (a1 < 0)) (by kernel_rfl) (by kernel_rfl) (fun hb1 => ?_) (fun hb1 => ?_)
  · replace H := ite_t H hb1
    refine WC.seq (by kernel_rfl) ?_
    refine WC.reg [0, 1] (by kernel_rfl) (by kernel_rfl) ?_
    refine WR.runk [0, 1] [] [6] (L' := [(6, .int .i64 a2)]) (w' := w0) (by kernel_rfl) ?_
    refine WR.nil ?_
    refine At.go ?_
    refine WC.ret (by kernel_rfl) ?_
    refine At.blockRet ?_
    refine At.thenRet ?_
    obtain rfl := Option.some.inj H
    have hS : Sat w0 (rf w0) [] := hS.sel [] (by kernel_rfl)
    exact At.body [.int .i64 a2] (by kernel_rfl) ⟨_, rfl, rfl, hS⟩
  · replace H := ite_f H hb1
    refine WC.seq (by kernel_rfl) ?_
    refine WC.drawn (by kernel_rfl) (by kernel_rfl) 42 (by kernel_rfl) (fun w2 hw3 => ?_)
    have hS := hS.heap hw3.1 hw3.2
    refine WD.weaken [0, 1, 2] (L' := [(0, v0), (1, .int .i64 a1), (2, .int .i64 a2)]) (by kernel_rfl) ?_
    refine WD.pure (i := 0) (v := .int .i64 a2) (by kernel_rfl) (by kernel_rfl) (fun _ => by kernel_rfl) ?_
    refine WD.weaken [0, 1, 2, 12] (L' := [(0, v0), (1, .int .i64 a1), (2, .int .i64 a2), (12, .int .i64 a2)]) (by kernel_rfl) ?_
    refine WD.pure (i := 1) (v := .bool (decide (a2 < 0))) (by kernel_rfl) (by kernel_rfl) (fun _ => by kernel_rfl) ?_
    refine WD.weaken [0, 1, 2, 13] (L' := [(0, v0), (1, .int .i64 a1), (2, .int .i64 a2), (13, .bool (decide (a2 < 0)))]) (by kernel_rfl) ?_
    refine WD.pure (i := 2) (v := .bool (decide (a2 < 0))) (by kernel_rfl) (by kernel_rfl) (fun _ => by kernel_rfl) ?_
    refine WD.weaken [0, 1, 2, 14] (L' := [(0, v0), (1, .int .i64 a1), (2, .int .i64 a2), (14, .bool (decide (a2 < 0)))]) (by kernel_rfl) ?_
    refine WD.split 14 (b := decide (a2 < 0)) (by kernel_rfl) (fun hb4 => ?_) (fun hb4 => ?_)
    · replace H := ite_t H hb4
      refine WD.weaken [0, 1, 2, 14] (L' := [(0, v0), (1, .int .i64 a1), (2, .int .i64 a2), (14, .bool true)]) (by kernel_rfl) ?_
      refine WD.skip (i := 3) (by kernel_rfl) (by kernel_rfl) ?_
      refine WD.weaken [0, 1, 2, 14, 15] (L' := [(0, v0), (1, .int .i64 a1), (2, .int .i64 a2), (14, .bool true), (15, undef)]) (by kernel_rfl) ?_
      refine WD.skip (i := 4) (by kernel_rfl) (by kernel_rfl) ?_
      refine WD.weaken [0, 1, 2, 14, 16] (L' := [(0, v0), (1, .int .i64 a1), (2, .int .i64 a2), (14, .bool true), (16, undef)]) (by kernel_rfl) ?_
      refine WD.skip (i := 5) (by kernel_rfl) (by kernel_rfl) ?_
      refine WD.weaken [0, 1, 2, 14, 17] (L' := [(0, v0), (1, .int .i64 a1), (2, .int .i64 a2), (14, .bool true), (17, undef)]) (by kernel_rfl) ?_
      refine WD.skip (i := 6) (by kernel_rfl) (by kernel_rfl) ?_
      refine WD.weaken [0, 1, 2, 14, 18] (L' := [(0, v0), (1, .int .i64 a1), (2, .int .i64 a2), (14, .bool true), (18, undef)]) (by kernel_rfl) ?_
      refine WD.skip (i := 7) (by kernel_rfl) (by kernel_rfl) ?_
      refine WD.weaken [0, 1, 2, 14, 18, 19] (L' := [(0, v0), (1, .int .i64 a1), (2, .int .i64 a2), (14, .bool true), (18, undef), (19, undef)]) (by kernel_rfl) ?_
      refine WD.skip (i := 8) (by kernel_rfl) (by kernel_rfl) ?_
      refine WD.weaken [0, 1, 2, 14, 20] (L' := [(0, v0), (1, .int .i64 a1), (2, .int .i64 a2), (14, .bool true), (20, undef)]) (by kernel_rfl) ?_
      refine WD.skip (i := 9) (by kernel_rfl) (by kernel_rfl) ?_
      refine WD.weaken [0, 1, 2, 14, 21] (L' := [(0, v0), (1, .int .i64 a1), (2, .int .i64 a2), (14, .bool true), (21, undef)]) (by kernel_rfl) ?_
      refine WD.skip (i := 10) (by kernel_rfl) (by kernel_rfl) ?_
      refine WD.weaken [0, 1, 2, 14, 21, 22] (L' := [(0, v0), (1, .int .i64 a1), (2, .int .i64 a2), (14, .bool true), (21, undef), (22, undef)]) (by kernel_rfl) ?_
      refine WD.skip (i := 11) (by kernel_rfl) (by kernel_rfl) ?_
      refine WD.weaken [0, 1, 2, 14, 21, 23] (L' := [(0, v0), (1, .int .i64 a1), (2, .int .i64 a2), (14, .bool true), (21, undef), (23, undef)]) (by kernel_rfl) ?_
      refine WD.skip (i := 12) (by kernel_rfl) (by kernel_rfl) ?_
      refine WD.weaken [0, 1, 2, 14, 21, 24] (L' := [(0, v0), (1, .int .i64 a1), (2, .int .i64 a2), (14, .bool true), (21, undef), (24, undef)]) (by kernel_rfl) ?_
      refine WD.skip (i := 13) (by kernel_rfl) (by kernel_rfl) ?_
      refine WD.weaken [0, 1, 2, 14, 21, 25] (L' := [(0, v0), (1, .int .i64 a1), (2, .int .i64 a2), (14, .bool true), (21, undef), (25, undef)]) (by kernel_rfl) ?_
      refine WD.skip (i := 14) (by kernel_rfl) (by kernel_rfl) ?_
      refine WD.weaken [0, 1, 2, 14, 21, 25, 26] (L' := [(0, v0), (1, .int .i64 a1), (2, .int .i64 a2), (14, .bool true), (21, undef), (25, undef), (26, undef)]) (by kernel_rfl) ?_
      refine WD.skip (i := 15) (by kernel_rfl) (by kernel_rfl) ?_
      refine WD.weaken [0, 1, 2, 14, 21, 27] (L' := [(0, v0), (1, .int .i64 a1), (2, .int .i64 a2), (14, .bool true), (21, undef), (27, undef)]) (by kernel_rfl) ?_
      refine WD.skip (i := 16) (by kernel_rfl) (by kernel_rfl) ?_
      refine WD.weaken [0, 1, 2, 14, 21, 28] (L' := [(0, v0), (1, .int .i64 a1), (2, .int .i64 a2), (14, .bool true), (21, undef), (28, undef)]) (by kernel_rfl) ?_
      refine WD.skip (i := 17) (by kernel_rfl) (by kernel_rfl) ?_
      refine WD.weaken [0, 1, 2, 14, 29] (L' := [(0, v0), (1, .int .i64 a1), (2, .int .i64 a2), (14, .bool true), (29, undef)]) (by kernel_rfl) ?_
      refine WD.pure (i := 18) (v := .bool true) (by kernel_rfl) (by kernel_rfl) (fun _ => by kernel_rfl) ?_
      refine WD.weaken [0, 1, 2, 30] (L' := [(0, v0), (1, .int .i64 a1), (2, .int .i64 a2), (30, .bool true)]) (by kernel_rfl) ?_
      refine WD.pure (i := 19) (v := .bool true) (by kernel_rfl) (by kernel_rfl) (fun _ => by kernel_rfl) ?_
      refine WD.weaken [0, 1, 2, 31] (L' := [(0, v0), (1, .int .i64 a1), (2, .int .i64 a2), (31, .bool true)]) (by kernel_rfl) ?_
      refine WD.skip (i := 20) (by kernel_rfl) (by kernel_rfl) ?_
      refine WD.weaken [0, 1, 2, 31, 32] (L' := [(0, v0), (1, .int .i64 a1), (2, .int .i64 a2), (31, .bool true), (32, undef)]) (by kernel_rfl) ?_
      refine WD.skip (i := 21) (by kernel_rfl) (by kernel_rfl) ?_
      refine WD.weaken [0, 1, 2, 31, 33] (L' := [(0, v0), (1, .int .i64 a1), (2, .int .i64 a2), (31, .bool true), (33, undef)]) (by kernel_rfl) ?_
      refine WD.skip (i := 22) (by kernel_rfl) (by kernel_rfl) ?_
      refine WD.weaken [0, 1, 2, 31, 34] (L' := [(0, v0), (1, .int .i64 a1), (2, .int .i64 a2), (31, .bool true), (34, undef)]) (by kernel_rfl) ?_
      refine WD.skip (i := 23) (by kernel_rfl) (by kernel_rfl) ?_
      refine WD.weaken [0, 1, 2, 31, 35] (L' := [(0, v0), (1, .int .i64 a1), (2, .int .i64 a2), (31, .bool true), (35, undef)]) (by kernel_rfl) ?_
      refine WD.skip (i := 24) (by kernel_rfl) (by kernel_rfl) ?_
      refine WD.weaken [0, 1, 2, 31, 35, 36] (L' := [(0, v0), (1, .int .i64 a1), (2, .int .i64 a2), (31, .bool true), (35, undef), (36, undef)]) (by kernel_rfl) ?_
      refine WD.skip (i := 25) (by kernel_rfl) (by kernel_rfl) ?_
      refine WD.weaken [0, 1, 2, 31, 37] (L' := [(0, v0), (1, .int .i64 a1), (2, .int .i64 a2), (31, .bool true), (37, undef)]) (by kernel_rfl) ?_
      refine WD.skip (i := 26) (by kernel_rfl) (by kernel_rfl) ?_
      refine WD.weaken [0, 1, 2, 31, 38] (L' := [(0, v0), (1, .int .i64 a1), (2, .int .i64 a2), (31, .bool true), (38, undef)]) (by kernel_rfl) ?_
      refine WD.skip (i := 27) (by kernel_rfl) (by kernel_rfl) ?_
      refine WD.weaken [1, 2, 31, 38, 39] (L' := [(1, .int .i64 a1), (2, .int .i64 a2), (31, .bool true), (38, undef), (39, undef)]) (by kernel_rfl) ?_
      refine WD.skip (i := 28) (by kernel_rfl) (by kernel_rfl) ?_
      refine WD.weaken [1, 2, 31, 38, 40] (L' := [(1, .int .i64 a1), (2, .int .i64 a2), (31, .bool true), (38, undef), (40, undef)]) (by kernel_rfl) ?_
      refine WD.skip (i := 29) (by kernel_rfl) (by kernel_rfl) ?_
      refine WD.weaken [1, 2, 31, 38, 41] (L' := [(1, .int .i64 a1), (2, .int .i64 a2), (31, .bool true), (38, undef), (41, undef)]) (by kernel_rfl) ?_
      refine WD.skip (i := 30) (by kernel_rfl) (by kernel_rfl) ?_
      refine WD.weaken [1, 2, 31, 38, 42] (L' := [(1, .int .i64 a1), (2, .int .i64 a2), (31, .bool true), (38, undef), (42, undef)]) (by kernel_rfl) ?_
      refine WD.skip (i := 31) (by kernel_rfl) (by kernel_rfl) ?_
      refine WD.weaken [1, 2, 31, 38, 42, 43] (L' := [(1, .int .i64 a1), (2, .int .i64 a2), (31, .bool true), (38, undef), (42, undef), (43, undef)]) (by kernel_rfl) ?_
      refine WD.skip (i := 32) (by kernel_rfl) (by kernel_rfl) ?_
      refine WD.weaken [1, 2, 31, 38, 44] (L' := [(1, .int .i64 a1), (2, .int .i64 a2), (31, .bool true), (38, undef), (44, undef)]) (by kernel_rfl) ?_
      refine WD.skip (i := 33) (by kernel_rfl) (by kernel_rfl) ?_
      refine WD.weaken [1, 2, 31, 38, 45] (L' := [(1, .int .i64 a1), (2, .int .i64 a2), (31, .bool true), (38, undef), (45, undef)]) (by kernel_rfl) ?_
      refine WD.skip (i := 34) (by kernel_rfl) (by kernel_rfl) ?_
      refine WD.weaken [1, 2, 31, 46] (L' := [(1, .int .i64 a1), (2, .int .i64 a2), (31, .bool true), (46, undef)]) (by kernel_rfl) ?_
      refine WD.skip (i := 35) (by kernel_rfl) (by kernel_rfl) ?_
      refine WD.weaken [1, 2, 31, 47] (L' := [(1, .int .i64 a1), (2, .int .i64 a2), (31, .bool true), (47, undef)]) (by kernel_rfl) ?_
      refine WD.skip (i := 36) (by kernel_rfl) (by kernel_rfl) ?_
      refine WD.weaken [1, 2, 31, 47, 48] (L' := [(1, .int .i64 a1), (2, .int .i64 a2), (31, .bool true), (47, undef), (48, undef)]) (by kernel_rfl) ?_
      refine WD.skip (i := 37) (by kernel_rfl) (by kernel_rfl) ?_
      refine WD.weaken [1, 2, 31, 47, 48, 49] (L' := [(1, .int .i64 a1), (2, .int .i64 a2), (31, .bool true), (47, undef), (48, undef), (49, undef)]) (by kernel_rfl) ?_
      refine WD.skip (i := 38) (by kernel_rfl) (by kernel_rfl) ?_
      refine WD.weaken [1, 2, 31, 47, 50] (L' := [(1, .int .i64 a1), (2, .int .i64 a2), (31, .bool true), (47, undef), (50, undef)]) (by kernel_rfl) ?_
      refine WD.skip (i := 39) (by kernel_rfl) (by kernel_rfl) ?_
      refine WD.weaken [1, 2, 31, 51] (L' := [(1, .int .i64 a1), (2, .int .i64 a2), (31, .bool true), (51, undef)]) (by kernel_rfl) ?_
      refine WD.pure (i := 40) (v := .bool true) (by kernel_rfl) (by kernel_rfl) (fun _ => by kernel_rfl) ?_
      refine WD.weaken [1, 2, 52] (L' := [(1, .int .i64 a1), (2, .int .i64 a2), (52, .bool true)]) (by kernel_rfl) ?_
      refine WD.pure (i := 41) (v := .bool true) (by kernel_rfl) (by kernel_rfl) (fun _ => by kernel_rfl) ?_
      refine WD.weaken [1, 2, 11] (L' := [(1, .int .i64 a1), (2, .int .i64 a2), (11, .bool true)]) (by kernel_rfl) ?_
      refine WD.nil (by kernel_rfl) ?_
      refine At.go ?_
      refine WC.condT (by kernel_rfl) (by kernel_rfl) (by kernel_rfl) ?_
      refine WC.seq (by kernel_rfl) ?_
      refine WC.reg [0, 1] (by kernel_rfl) (by kernel_rfl) ?_
      refine WR.runk [0, 1] [] [6] (L' := [(6, .int .i64 a1)]) (w' := w2) (by kernel_rfl) ?_
      refine WR.nil ?_
      refine At.go ?_
      refine WC.ret (by kernel_rfl) ?_
      refine At.blockRet ?_
      refine At.thenRet ?_
      obtain rfl := Option.some.inj H
      have hS : Sat w2 (rf w0) [] := hS.sel [] (by kernel_rfl)
      exact At.body [.int .i64 a1] (by kernel_rfl) ⟨_, rfl, rfl, hS⟩
    · replace H := ite_f H hb4
      refine WD.weaken [0, 1, 2, 14] (L' := [(0, v0), (1, .int .i64 a1), (2, .int .i64 a2), (14, .bool false)]) (by kernel_rfl) ?_
      refine WD.pure (i := 3) (v := v0) (by kernel_rfl) (by kernel_rfl) (fun _ => by kernel_rfl) ?_
      refine WD.weaken [0, 1, 2, 14, 15] (L' := [(0, v0), (1, .int .i64 a1), (2, .int .i64 a2), (14, .bool false), (15, v0)]) (by kernel_rfl) ?_
      obtain ⟨y7, hr5, H⟩ := bind_ex H
      obtain ⟨b8, fr9, A13, c14, A16, c17, hv10, hb11, R15, R18⟩ := P65.open R0 hr5
      have R12 := R0
      rw [hv10, hr5] at R12
      try subst hv10
      replace R15 : rdS (r0 (.int .i64)) 1 (hp w0) A13 c14 y7.1 := R15
      replace R18 : rdS (rd (hp w0) (.slice 3 (.int .i64))) 1 (hp w0) A16 c17 y7.2 := R18
      refine WD.weaken [0, 1, 2, 14, 15] (L' := [(0, .pointer (some ⟨b8, 0, none⟩)), (1, .int .i64 a1), (2, .int .i64 a2), (14, .bool false), (15, .pointer (some ⟨b8, 0, none⟩))]) (by kernel_rfl) ?_
      refine WD.pure (i := 4) (v := .pointer (some ⟨b8, 0, none⟩)) (by kernel_rfl) (by kernel_rfl) (fun _ => by kernel_rfl) ?_
      refine WD.weaken [0, 1, 2, 14, 16] (L' := [(0, .pointer (some ⟨b8, 0, none⟩)), (1, .int .i64 a1), (2, .int .i64 a2), (14, .bool false), (16, .pointer (some ⟨b8, 0, none⟩))]) (by kernel_rfl) ?_
      refine WD.pure (i := 5) (v := .pointer (some ⟨b8, 0, none⟩)) (by kernel_rfl) (by kernel_rfl) (fun _ => by kernel_rfl) ?_
      refine WD.weaken [0, 1, 2, 14, 17] (L' := [(0, .pointer (some ⟨b8, 0, none⟩)), (1, .int .i64 a1), (2, .int .i64 a2), (14, .bool false), (17, .pointer (some ⟨b8, 0, none⟩))]) (by kernel_rfl) ?_
      refine WD.ofR (i := 6) (by kernel_rfl) (RSt.loadRo (t := 22) (k := 0) (v := .slice A13 y7.1.length c14) (.tmp 17) (by kernel_rfl) (by kernel_rfl) (by kernel_rfl) hS.sub0 hb11 (by kernel_rfl) rfl ?_)
      refine WD.weaken [0, 1, 2, 14, 18] (L' := [(0, .pointer (some ⟨b8, 0, none⟩)), (1, .int .i64 a1), (2, .int .i64 a2), (14, .bool false), (18, .slice A13 y7.1.length c14)]) (by kernel_rfl) ?_
      refine WD.pure (i := 7) (v := .int .i64 a1) (by kernel_rfl) (by kernel_rfl) (fun _ => by kernel_rfl) ?_
      refine WD.weaken [0, 1, 2, 14, 18, 19] (L' := [(0, .pointer (some ⟨b8, 0, none⟩)), (1, .int .i64 a1), (2, .int .i64 a2), (14, .bool false), (18, .slice A13 y7.1.length c14), (19, .int .i64 a1)]) (by kernel_rfl) ?_
      obtain ⟨v19, e20, H⟩ := bind_ex H
      refine WD.ofP (i := 8) (by kernel_rfl) (PSt.idx (k := .i64) (.tmp 18) (.tmp 19) (by kernel_rfl) (by kernel_rfl) E22 (by kernel_rfl) (by kernel_rfl) (rdS.up R15 hS.sub0) e20 ?_)
      refine WD.weaken [0, 1, 2, 14, 20] (L' := [(0, .pointer (some ⟨b8, 0, none⟩)), (1, .int .i64 a1), (2, .int .i64 a2), (14, .bool false), (20, .pointer (some (adr A13 a1.toNat 1)))]) (by kernel_rfl) ?_
      refine WD.ofR (i := 9) (by kernel_rfl) (RSt.loadInt (t := 3) (.tmp 20) (by kernel_rfl) (by kernel_rfl) (by kernel_rfl) (by kernel_rfl) (rdS.up R15 hS.sub0) e20 ?_)
      refine WD.weaken [0, 1, 2, 14, 21] (L' := [(0, .pointer (some ⟨b8, 0, none⟩)), (1, .int .i64 a1), (2, .int .i64 a2), (14, .bool false), (21, .int .i64 v19)]) (by kernel_rfl) ?_
      refine WD.pure (i := 10) (v := .pointer (some ⟨b8, 0, none⟩)) (by kernel_rfl) (by kernel_rfl) (fun _ => by kernel_rfl) ?_
      refine WD.weaken [0, 1, 2, 14, 21, 22] (L' := [(0, .pointer (some ⟨b8, 0, none⟩)), (1, .int .i64 a1), (2, .int .i64 a2), (14, .bool false), (21, .int .i64 v19), (22, .pointer (some ⟨b8, 0, none⟩))]) (by kernel_rfl) ?_
      refine WD.pure (i := 11) (v := .pointer (some ⟨b8, 0, none⟩)) (by kernel_rfl) (by kernel_rfl) (fun _ => by kernel_rfl) ?_
      refine WD.weaken [0, 1, 2, 14, 21, 23] (L' := [(0, .pointer (some ⟨b8, 0, none⟩)), (1, .int .i64 a1), (2, .int .i64 a2), (14, .bool false), (21, .int .i64 v19), (23, .pointer (some ⟨b8, 0, none⟩))]) (by kernel_rfl) ?_
      refine WD.pure (i := 12) (v := .pointer (some ⟨b8, 0, none⟩)) (by kernel_rfl) (by kernel_rfl) (fun _ => by kernel_rfl) ?_
      refine WD.weaken [0, 1, 2, 14, 21, 24] (L' := [(0, .pointer (some ⟨b8, 0, none⟩)), (1, .int .i64 a1), (2, .int .i64 a2), (14, .bool false), (21, .int .i64 v19), (24, .pointer (some ⟨b8, 0, none⟩))]) (by kernel_rfl) ?_
      refine WD.ofR (i := 13) (by kernel_rfl) (RSt.loadRo (t := 22) (k := 0) (v := .slice A13 y7.1.length c14) (.tmp 24) (by kernel_rfl) (by kernel_rfl) (by kernel_rfl) hS.sub0 hb11 (by kernel_rfl) rfl ?_)
      refine WD.weaken [0, 1, 2, 14, 21, 25] (L' := [(0, .pointer (some ⟨b8, 0, none⟩)), (1, .int .i64 a1), (2, .int .i64 a2), (14, .bool false), (21, .int .i64 v19), (25, .slice A13 y7.1.length c14)]) (by kernel_rfl) ?_
      refine WD.pure (i := 14) (v := .int .i64 a2) (by kernel_rfl) (by kernel_rfl) (fun _ => by kernel_rfl) ?_
      refine WD.weaken [0, 1, 2, 14, 21, 25, 26] (L' := [(0, .pointer (some ⟨b8, 0, none⟩)), (1, .int .i64 a1), (2, .int .i64 a2), (14, .bool false), (21, .int .i64 v19), (25, .slice A13 y7.1.length c14), (26, .int .i64 a2)]) (by kernel_rfl) ?_
      obtain ⟨v21, e22, H⟩ := bind_ex H
      refine WD.ofP (i := 15) (by kernel_rfl) (PSt.idx (k := .i64) (.tmp 25) (.tmp 26) (by kernel_rfl) (by kernel_rfl) E22 (by kernel_rfl) (by kernel_rfl) (rdS.up R15 hS.sub0) e22 ?_)
      refine WD.weaken [0, 1, 2, 14, 21, 27] (L' := [(0, .pointer (some ⟨b8, 0, none⟩)), (1, .int .i64 a1), (2, .int .i64 a2), (14, .bool false), (21, .int .i64 v19), (27, .pointer (some (adr A13 a2.toNat 1)))]) (by kernel_rfl) ?_
      refine WD.ofR (i := 16) (by kernel_rfl) (RSt.loadInt (t := 3) (.tmp 27) (by kernel_rfl) (by kernel_rfl) (by kernel_rfl) (by kernel_rfl) (rdS.up R15 hS.sub0) e22 ?_)
      refine WD.weaken [0, 1, 2, 14, 21, 28] (L' := [(0, .pointer (some ⟨b8, 0, none⟩)), (1, .int .i64 a1), (2, .int .i64 a2), (14, .bool false), (21, .int .i64 v19), (28, .int .i64 v21)]) (by kernel_rfl) ?_
      refine WD.pure (i := 17) (v := .bool (decide (v19 < v21))) (by kernel_rfl) (by kernel_rfl) (fun _ => by kernel_rfl) ?_
      refine WD.weaken [0, 1, 2, 14, 29] (L' := [(0, .pointer (some ⟨b8, 0, none⟩)), (1, .int .i64 a1), (2, .int .i64 a2), (14, .bool false), (29, .bool (decide (v19 < v21)))]) (by kernel_rfl) ?_
      refine WD.pure (i := 18) (v := .bool (decide (v19 < v21))) (by kernel_rfl) (by kernel_rfl) (fun _ => by kernel_rfl) ?_
      refine WD.weaken [0, 1, 2, 30] (L' := [(0, .pointer (some ⟨b8, 0, none⟩)), (1, .int .i64 a1), (2, .int .i64 a2), (30, .bool (decide (v19 < v21)))]) (by kernel_rfl) ?_
      refine WD.pure (i := 19) (v := .bool (decide (v19 < v21))) (by kernel_rfl) (by kernel_rfl) (fun _ => by kernel_rfl) ?_
      refine WD.weaken [0, 1, 2, 31] (L' := [(0, .pointer (some ⟨b8, 0, none⟩)), (1, .int .i64 a1), (2, .int .i64 a2), (31, .bool (decide (v19 < v21)))]) (by kernel_rfl) ?_
      refine WD.split 31 (b := decide (v19 < v21)) (by kernel_rfl) (fun hb23 => ?_) (fun hb23 => ?_)
      · replace H := ite_t H hb23
        refine WD.weaken [0, 1, 2, 31] (L' := [(0, .pointer (some ⟨b8, 0, none⟩)), (1, .int .i64 a1), (2, .int .i64 a2), (31, .bool true)]) (by kernel_rfl) ?_
        refine WD.skip (i := 20) (by kernel_rfl) (by kernel_rfl) ?_
        refine WD.weaken [0, 1, 2, 31, 32] (L' := [(0, .pointer (some ⟨b8, 0, none⟩)), (1, .int .i64 a1), (2, .int .i64 a2), (31, .bool true), (32, undef)]) (by kernel_rfl) ?_
        refine WD.skip (i := 21) (by kernel_rfl) (by kernel_rfl) ?_
        refine WD.weaken [0, 1, 2, 31, 33] (L' := [(0, .pointer (some ⟨b8, 0, none⟩)), (1, .int .i64 a1), (2, .int .i64 a2), (31, .bool true), (33, undef)]) (by kernel_rfl) ?_
        refine WD.skip (i := 22) (by kernel_rfl) (by kernel_rfl) ?_
        refine WD.weaken [0, 1, 2, 31, 34] (L' := [(0, .pointer (some ⟨b8, 0, none⟩)), (1, .int .i64 a1), (2, .int .i64 a2), (31, .bool true), (34, undef)]) (by kernel_rfl) ?_
        refine WD.skip (i := 23) (by kernel_rfl) (by kernel_rfl) ?_
        refine WD.weaken [0, 1, 2, 31, 35] (L' := [(0, .pointer (some ⟨b8, 0, none⟩)), (1, .int .i64 a1), (2, .int .i64 a2), (31, .bool true), (35, undef)]) (by kernel_rfl) ?_
        refine WD.skip (i := 24) (by kernel_rfl) (by kernel_rfl) ?_
        refine WD.weaken [0, 1, 2, 31, 35, 36] (L' := [(0, .pointer (some ⟨b8, 0, none⟩)), (1, .int .i64 a1), (2, .int .i64 a2), (31, .bool true), (35, undef), (36, undef)]) (by kernel_rfl) ?_
        refine WD.skip (i := 25) (by kernel_rfl) (by kernel_rfl) ?_
        refine WD.weaken [0, 1, 2, 31, 37] (L' := [(0, .pointer (some ⟨b8, 0, none⟩)), (1, .int .i64 a1), (2, .int .i64 a2), (31, .bool true), (37, undef)]) (by kernel_rfl) ?_
        refine WD.skip (i := 26) (by kernel_rfl) (by kernel_rfl) ?_
        refine WD.weaken [0, 1, 2, 31, 38] (L' := [(0, .pointer (some ⟨b8, 0, none⟩)), (1, .int .i64 a1), (2, .int .i64 a2), (31, .bool true), (38, undef)]) (by kernel_rfl) ?_
        refine WD.skip (i := 27) (by kernel_rfl) (by kernel_rfl) ?_
        refine WD.weaken [1, 2, 31, 38, 39] (L' := [(1, .int .i64 a1), (2, .int .i64 a2), (31, .bool true), (38, undef), (39, undef)]) (by kernel_rfl) ?_
        refine WD.skip (i := 28) (by kernel_rfl) (by kernel_rfl) ?_
        refine WD.weaken [1, 2, 31, 38, 40] (L' := [(1, .int .i64 a1), (2, .int .i64 a2), (31, .bool true), (38, undef), (40, undef)]) (by kernel_rfl) ?_
        refine WD.skip (i := 29) (by kernel_rfl) (by kernel_rfl) ?_
        refine WD.weaken [1, 2, 31, 38, 41] (L' := [(1, .int .i64 a1), (2, .int .i64 a2), (31, .bool true), (38, undef), (41, undef)]) (by kernel_rfl) ?_
        refine WD.skip (i := 30) (by kernel_rfl) (by kernel_rfl) ?_
        refine WD.weaken [1, 2, 31, 38, 42] (L' := [(1, .int .i64 a1), (2, .int .i64 a2), (31, .bool true), (38, undef), (42, undef)]) (by kernel_rfl) ?_
        refine WD.skip (i := 31) (by kernel_rfl) (by kernel_rfl) ?_
        refine WD.weaken [1, 2, 31, 38, 42, 43] (L' := [(1, .int .i64 a1), (2, .int .i64 a2), (31, .bool true), (38, undef), (42, undef), (43, undef)]) (by kernel_rfl) ?_
        refine WD.skip (i := 32) (by kernel_rfl) (by kernel_rfl) ?_
        refine WD.weaken [1, 2, 31, 38, 44] (L' := [(1, .int .i64 a1), (2, .int .i64 a2), (31, .bool true), (38, undef), (44, undef)]) (by kernel_rfl) ?_
        refine WD.skip (i := 33) (by kernel_rfl) (by kernel_rfl) ?_
        refine WD.weaken [1, 2, 31, 38, 45] (L' := [(1, .int .i64 a1), (2, .int .i64 a2), (31, .bool true), (38, undef), (45, undef)]) (by kernel_rfl) ?_
        refine WD.skip (i := 34) (by kernel_rfl) (by kernel_rfl) ?_
        refine WD.weaken [1, 2, 31, 46] (L' := [(1, .int .i64 a1), (2, .int .i64 a2), (31, .bool true), (46, undef)]) (by kernel_rfl) ?_
        refine WD.skip (i := 35) (by kernel_rfl) (by kernel_rfl) ?_
        refine WD.weaken [1, 2, 31, 47] (L' := [(1, .int .i64 a1), (2, .int .i64 a2), (31, .bool true), (47, undef)]) (by kernel_rfl) ?_
        refine WD.skip (i := 36) (by kernel_rfl) (by kernel_rfl) ?_
        refine WD.weaken [1, 2, 31, 47, 48] (L' := [(1, .int .i64 a1), (2, .int .i64 a2), (31, .bool true), (47, undef), (48, undef)]) (by kernel_rfl) ?_
        refine WD.skip (i := 37) (by kernel_rfl) (by kernel_rfl) ?_
        refine WD.weaken [1, 2, 31, 47, 48, 49] (L' := [(1, .int .i64 a1), (2, .int .i64 a2), (31, .bool true), (47, undef), (48, undef), (49, undef)]) (by kernel_rfl) ?_
        refine WD.skip (i := 38) (by kernel_rfl) (by kernel_rfl) ?_
        refine WD.weaken [1, 2, 31, 47, 50] (L' := [(1, .int .i64 a1), (2, .int .i64 a2), (31, .bool true), (47, undef), (50, undef)]) (by kernel_rfl) ?_
        refine WD.skip (i := 39) (by kernel_rfl) (by kernel_rfl) ?_
        refine WD.weaken [1, 2, 31, 51] (L' := [(1, .int .i64 a1), (2, .int .i64 a2), (31, .bool true), (51, undef)]) (by kernel_rfl) ?_
        refine WD.pure (i := 40) (v := .bool true) (by kernel_rfl) (by kernel_rfl) (fun _ => by kernel_rfl) ?_
        refine WD.weaken [1, 2, 52] (L' := [(1, .int .i64 a1), (2, .int .i64 a2), (52, .bool true)]) (by kernel_rfl) ?_
        refine WD.pure (i := 41) (v := .bool true) (by kernel_rfl) (by kernel_rfl) (fun _ => by kernel_rfl) ?_
        refine WD.weaken [1, 2, 11] (L' := [(1, .int .i64 a1), (2, .int .i64 a2), (11, .bool true)]) (by kernel_rfl) ?_
        refine WD.nil (by kernel_rfl) ?_
        refine At.go ?_
        refine WC.condT (by kernel_rfl) (by kernel_rfl) (by kernel_rfl) ?_
        refine WC.seq (by kernel_rfl) ?_
        refine WC.reg [0, 1] (by kernel_rfl) (by kernel_rfl) ?_
        refine WR.runk [0, 1] [] [6] (L' := [(6, .int .i64 a1)]) (w' := w2) (by kernel_rfl) ?_
        refine WR.nil ?_
        refine At.go ?_
        refine WC.ret (by kernel_rfl) ?_
        refine At.blockRet ?_
        refine At.thenRet ?_
        obtain rfl := Option.some.inj H
        have hS : Sat w2 (rf w0) [] := hS.sel [] (by kernel_rfl)
        exact At.body [.int .i64 a1] (by kernel_rfl) ⟨_, rfl, rfl, hS⟩
      · replace H := ite_f H hb23
        refine WD.weaken [0, 1, 2, 31] (L' := [(0, .pointer (some ⟨b8, 0, none⟩)), (1, .int .i64 a1), (2, .int .i64 a2), (31, .bool false)]) (by kernel_rfl) ?_
        refine WD.pure (i := 20) (v := .pointer (some ⟨b8, 0, none⟩)) (by kernel_rfl) (by kernel_rfl) (fun _ => by kernel_rfl) ?_
        refine WD.weaken [0, 1, 2, 31, 32] (L' := [(0, .pointer (some ⟨b8, 0, none⟩)), (1, .int .i64 a1), (2, .int .i64 a2), (31, .bool false), (32, .pointer (some ⟨b8, 0, none⟩))]) (by kernel_rfl) ?_
        refine WD.pure (i := 21) (v := .pointer (some ⟨b8, 0, none⟩)) (by kernel_rfl) (by kernel_rfl) (fun _ => by kernel_rfl) ?_
        refine WD.weaken [0, 1, 2, 31, 33] (L' := [(0, .pointer (some ⟨b8, 0, none⟩)), (1, .int .i64 a1), (2, .int .i64 a2), (31, .bool false), (33, .pointer (some ⟨b8, 0, none⟩))]) (by kernel_rfl) ?_
        refine WD.pure (i := 22) (v := .pointer (some ⟨b8, 0, none⟩)) (by kernel_rfl) (by kernel_rfl) (fun _ => by kernel_rfl) ?_
        refine WD.weaken [0, 1, 2, 31, 34] (L' := [(0, .pointer (some ⟨b8, 0, none⟩)), (1, .int .i64 a1), (2, .int .i64 a2), (31, .bool false), (34, .pointer (some ⟨b8, 0, none⟩))]) (by kernel_rfl) ?_
        refine WD.ofR (i := 23) (by kernel_rfl) (RSt.loadRo (t := 22) (k := 0) (v := .slice A13 y7.1.length c14) (.tmp 34) (by kernel_rfl) (by kernel_rfl) (by kernel_rfl) hS.sub0 hb11 (by kernel_rfl) rfl ?_)
        refine WD.weaken [0, 1, 2, 31, 35] (L' := [(0, .pointer (some ⟨b8, 0, none⟩)), (1, .int .i64 a1), (2, .int .i64 a2), (31, .bool false), (35, .slice A13 y7.1.length c14)]) (by kernel_rfl) ?_
        refine WD.pure (i := 24) (v := .int .i64 a1) (by kernel_rfl) (by kernel_rfl) (fun _ => by kernel_rfl) ?_
        refine WD.weaken [0, 1, 2, 31, 35, 36] (L' := [(0, .pointer (some ⟨b8, 0, none⟩)), (1, .int .i64 a1), (2, .int .i64 a2), (31, .bool false), (35, .slice A13 y7.1.length c14), (36, .int .i64 a1)]) (by kernel_rfl) ?_
        refine WD.ofP (i := 25) (by kernel_rfl) (PSt.idx (k := .i64) (.tmp 35) (.tmp 36) (by kernel_rfl) (by kernel_rfl) E22 (by kernel_rfl) (by kernel_rfl) (rdS.up R15 hS.sub0) e20 ?_)
        refine WD.weaken [0, 1, 2, 31, 37] (L' := [(0, .pointer (some ⟨b8, 0, none⟩)), (1, .int .i64 a1), (2, .int .i64 a2), (31, .bool false), (37, .pointer (some (adr A13 a1.toNat 1)))]) (by kernel_rfl) ?_
        refine WD.ofR (i := 26) (by kernel_rfl) (RSt.loadInt (t := 3) (.tmp 37) (by kernel_rfl) (by kernel_rfl) (by kernel_rfl) (by kernel_rfl) (rdS.up R15 hS.sub0) e20 ?_)
        refine WD.weaken [0, 1, 2, 31, 38] (L' := [(0, .pointer (some ⟨b8, 0, none⟩)), (1, .int .i64 a1), (2, .int .i64 a2), (31, .bool false), (38, .int .i64 v19)]) (by kernel_rfl) ?_
        refine WD.pure (i := 27) (v := .pointer (some ⟨b8, 0, none⟩)) (by kernel_rfl) (by kernel_rfl) (fun _ => by kernel_rfl) ?_
        refine WD.weaken [1, 2, 31, 38, 39] (L' := [(1, .int .i64 a1), (2, .int .i64 a2), (31, .bool false), (38, .int .i64 v19), (39, .pointer (some ⟨b8, 0, none⟩))]) (by kernel_rfl) ?_
        refine WD.pure (i := 28) (v := .pointer (some ⟨b8, 0, none⟩)) (by kernel_rfl) (by kernel_rfl) (fun _ => by kernel_rfl) ?_
        refine WD.weaken [1, 2, 31, 38, 40] (L' := [(1, .int .i64 a1), (2, .int .i64 a2), (31, .bool false), (38, .int .i64 v19), (40, .pointer (some ⟨b8, 0, none⟩))]) (by kernel_rfl) ?_
        refine WD.pure (i := 29) (v := .pointer (some ⟨b8, 0, none⟩)) (by kernel_rfl) (by kernel_rfl) (fun _ => by kernel_rfl) ?_
        refine WD.weaken [1, 2, 31, 38, 41] (L' := [(1, .int .i64 a1), (2, .int .i64 a2), (31, .bool false), (38, .int .i64 v19), (41, .pointer (some ⟨b8, 0, none⟩))]) (by kernel_rfl) ?_
        refine WD.ofR (i := 30) (by kernel_rfl) (RSt.loadRo (t := 22) (k := 0) (v := .slice A13 y7.1.length c14) (.tmp 41) (by kernel_rfl) (by kernel_rfl) (by kernel_rfl) hS.sub0 hb11 (by kernel_rfl) rfl ?_)
        refine WD.weaken [1, 2, 31, 38, 42] (L' := [(1, .int .i64 a1), (2, .int .i64 a2), (31, .bool false), (38, .int .i64 v19), (42, .slice A13 y7.1.length c14)]) (by kernel_rfl) ?_
        refine WD.pure (i := 31) (v := .int .i64 a2) (by kernel_rfl) (by kernel_rfl) (fun _ => by kernel_rfl) ?_
        refine WD.weaken [1, 2, 31, 38, 42, 43] (L' := [(1, .int .i64 a1), (2, .int .i64 a2), (31, .bool false), (38, .int .i64 v19), (42, .slice A13 y7.1.length c14), (43, .int .i64 a2)]) (by kernel_rfl) ?_
        refine WD.ofP (i := 32) (by kernel_rfl) (PSt.idx (k := .i64) (.tmp 42) (.tmp 43) (by kernel_rfl) (by kernel_rfl) E22 (by kernel_rfl) (by kernel_rfl) (rdS.up R15 hS.sub0) e22 ?_)
        refine WD.weaken [1, 2, 31, 38, 44] (L' := [(1, .int .i64 a1), (2, .int .i64 a2), (31, .bool false), (38, .int .i64 v19), (44, .pointer (some (adr A13 a2.toNat 1)))]) (by kernel_rfl) ?_
        refine WD.ofR (i := 33) (by kernel_rfl) (RSt.loadInt (t := 3) (.tmp 44) (by kernel_rfl) (by kernel_rfl) (by kernel_rfl) (by kernel_rfl) (rdS.up R15 hS.sub0) e22 ?_)
        refine WD.weaken [1, 2, 31, 38, 45] (L' := [(1, .int .i64 a1), (2, .int .i64 a2), (31, .bool false), (38, .int .i64 v19), (45, .int .i64 v21)]) (by kernel_rfl) ?_
        refine WD.pure (i := 34) (v := .bool (v19 == v21)) (by kernel_rfl) (by kernel_rfl) (fun _ => by kernel_rfl) ?_
        refine WD.weaken [1, 2, 31, 46] (L' := [(1, .int .i64 a1), (2, .int .i64 a2), (31, .bool false), (46, .bool (v19 == v21))]) (by kernel_rfl) ?_
        refine WD.pure (i := 35) (v := .bool (v19 == v21)) (by kernel_rfl) (by kernel_rfl) (fun _ => by kernel_rfl) ?_
        refine WD.weaken [1, 2, 31, 47] (L' := [(1, .int .i64 a1), (2, .int .i64 a2), (31, .bool false), (47, .bool (v19 == v21))]) (by kernel_rfl) ?_
        refine WD.split 47 (b := (v19 == v21)) (by kernel_rfl) (fun hb24 => ?_) (fun hb24 => ?_)
        · replace H := ite_t H hb24
          refine WD.weaken [1, 2, 31, 47] (L' := [(1, .int .i64 a1), (2, .int .i64 a2), (31, .bool false), (47, .bool true)]) (by kernel_rfl) ?_
          refine WD.pure (i := 36) (v := .int .i64 a1) (by kernel_rfl) (by kernel_rfl) (fun _ => by kernel_rfl) ?_
          refine WD.weaken [1, 2, 31, 47, 48] (L' := [(1, .int .i64 a1), (2, .int .i64 a2), (31, .bool false), (47, .bool true), (48, .int .i64 a1)]) (by kernel_rfl) ?_
          refine WD.pure (i := 37) (v := .int .i64 a2) (by kernel_rfl) (by kernel_rfl) (fun _ => by kernel_rfl) ?_
          refine WD.weaken [1, 2, 31, 47, 48, 49] (L' := [(1, .int .i64 a1), (2, .int .i64 a2), (31, .bool false), (47, .bool true), (48, .int .i64 a1), (49, .int .i64 a2)]) (by kernel_rfl) ?_
          refine WD.pure (i := 38) (v := .bool (decide (a1 < a2))) (by kernel_rfl) (by kernel_rfl) (fun _ => by kernel_rfl) ?_
          refine WD.weaken [1, 2, 31, 47, 50] (L' := [(1, .int .i64 a1), (2, .int .i64 a2), (31, .bool false), (47, .bool true), (50, .bool (decide (a1 < a2)))]) (by kernel_rfl) ?_
          refine WD.pure (i := 39) (v := .bool (decide (a1 < a2))) (by kernel_rfl) (by kernel_rfl) (fun _ => by kernel_rfl) ?_
          refine WD.weaken [1, 2, 31, 51] (L' := [(1, .int .i64 a1), (2, .int .i64 a2), (31, .bool false), (51, .bool (decide (a1 < a2)))]) (by kernel_rfl) ?_
          refine WD.pure (i := 40) (v := .bool (decide (a1 < a2))) (by kernel_rfl) (by kernel_rfl) (fun _ => by kernel_rfl) ?_
          refine WD.weaken [1, 2, 52] (L' := [(1, .int .i64 a1), (2, .int .i64 a2), (52, .bool (decide (a1 < a2)))]) (by kernel_rfl) ?_
          refine WD.pure (i := 41) (v := .bool (decide (a1 < a2))) (by kernel_rfl) (by kernel_rfl) (fun _ => by kernel_rfl) ?_
          refine WD.weaken [1, 2, 11] (L' := [(1, .int .i64 a1), (2, .int .i64 a2), (11, .bool (decide (a1 < a2)))]) (by kernel_rfl) ?_
          refine WD.nil (by kernel_rfl) ?_
          refine At.go ?_
          refine WC.cond (by kernel_rfl) (decide (a1 < a2)) (by kernel_rfl) (by kernel_rfl) (fun hb25 => ?_) (fun hb25 => ?_)
          · replace H := ite_t H hb25
            refine WC.seq (by kernel_rfl) ?_
            refine WC.reg [0, 1] (by kernel_rfl) (by kernel_rfl) ?_
            refine WR.runk [0, 1] [] [6] (L' := [(6, .int .i64 a1)]) (w' := w2) (by kernel_rfl) ?_
            refine WR.nil ?_
            refine At.go ?_
            refine WC.ret (by kernel_rfl) ?_
            refine At.blockRet ?_
            refine At.thenRet ?_
            obtain rfl := Option.some.inj H
            have hS : Sat w2 (rf w0) [] := hS.sel [] (by kernel_rfl)
            exact At.body [.int .i64 a1] (by kernel_rfl) ⟨_, rfl, rfl, hS⟩
          · replace H := ite_f H hb25
            refine WC.skip (by kernel_rfl) ?_
            refine At.blockNormal ?_
            refine At.go ?_
            refine WC.seq (by kernel_rfl) ?_
            refine WC.reg [0, 1] (by kernel_rfl) (by kernel_rfl) ?_
            refine WR.runk [0, 1] [] [6] (L' := [(6, .int .i64 a2)]) (w' := w2) (by kernel_rfl) ?_
            refine WR.nil ?_
            refine At.go ?_
            refine WC.ret (by kernel_rfl) ?_
            obtain rfl := Option.some.inj H
            have hS : Sat w2 (rf w0) [] := hS.sel [] (by kernel_rfl)
            exact At.body [.int .i64 a2] (by kernel_rfl) ⟨_, rfl, rfl, hS⟩
        · replace H := ite_f H hb24
          refine WD.weaken [1, 2, 31, 47] (L' := [(1, .int .i64 a1), (2, .int .i64 a2), (31, .bool false), (47, .bool false)]) (by kernel_rfl) ?_
          refine WD.skip (i := 36) (by kernel_rfl) (by kernel_rfl) ?_
          refine WD.weaken [1, 2, 31, 47, 48] (L' := [(1, .int .i64 a1), (2, .int .i64 a2), (31, .bool false), (47, .bool false), (48, undef)]) (by kernel_rfl) ?_
          refine WD.skip (i := 37) (by kernel_rfl) (by kernel_rfl) ?_
          refine WD.weaken [1, 2, 31, 47, 48, 49] (L' := [(1, .int .i64 a1), (2, .int .i64 a2), (31, .bool false), (47, .bool false), (48, undef), (49, undef)]) (by kernel_rfl) ?_
          refine WD.skip (i := 38) (by kernel_rfl) (by kernel_rfl) ?_
          refine WD.weaken [1, 2, 31, 47, 50] (L' := [(1, .int .i64 a1), (2, .int .i64 a2), (31, .bool false), (47, .bool false), (50, undef)]) (by kernel_rfl) ?_
          refine WD.pure (i := 39) (v := .bool false) (by kernel_rfl) (by kernel_rfl) (fun _ => by kernel_rfl) ?_
          refine WD.weaken [1, 2, 31, 51] (L' := [(1, .int .i64 a1), (2, .int .i64 a2), (31, .bool false), (51, .bool false)]) (by kernel_rfl) ?_
          refine WD.pure (i := 40) (v := .bool false) (by kernel_rfl) (by kernel_rfl) (fun _ => by kernel_rfl) ?_
          refine WD.weaken [1, 2, 52] (L' := [(1, .int .i64 a1), (2, .int .i64 a2), (52, .bool false)]) (by kernel_rfl) ?_
          refine WD.pure (i := 41) (v := .bool false) (by kernel_rfl) (by kernel_rfl) (fun _ => by kernel_rfl) ?_
          refine WD.weaken [1, 2, 11] (L' := [(1, .int .i64 a1), (2, .int .i64 a2), (11, .bool false)]) (by kernel_rfl) ?_
          refine WD.nil (by kernel_rfl) ?_
          refine At.go ?_
          refine WC.condF (by kernel_rfl) (by kernel_rfl) (by kernel_rfl) ?_
          refine WC.skip (by kernel_rfl) ?_
          refine At.blockNormal ?_
          refine At.go ?_
          refine WC.seq (by kernel_rfl) ?_
          refine WC.reg [0, 1] (by kernel_rfl) (by kernel_rfl) ?_
          refine WR.runk [0, 1] [] [6] (L' := [(6, .int .i64 a2)]) (w' := w2) (by kernel_rfl) ?_
          refine WR.nil ?_
          refine At.go ?_
          refine WC.ret (by kernel_rfl) ?_
          obtain rfl := Option.some.inj H
          have hS : Sat w2 (rf w0) [] := hS.sel [] (by kernel_rfl)
          exact At.body [.int .i64 a2] (by kernel_rfl) ⟨_, rfl, rfl, hS⟩
/-! ### 29 (*colophon/rmq.Table).scan -/
def rmq_Table_scan.l1 (p0 : Option ((List Int) × (List (List Int)))) (a2 : Int) : Nat → Int → Int → Option Int
  | 0, _, _ => none
  | k + 1, x7_l1, x8_l1 => (if decide (x8_l1 < a2) then ((rmq_Table_better.f p0 x7_l1 x8_l1).bind fun r2 => rmq_Table_scan.l1 p0 a2 k r2 (wi (x8_l1 + 1))) else some x7_l1)
def rmq_Table_scan.f (p0 : Option ((List Int) × (List (List Int)))) (a1 : Int) (a2 : Int) : Option Int := ((rmq_Table_scan.l1 p0 a2 FU (-1) a1).bind fun o11 => some o11)
def rmq_Table_scan.post (w : World) (r : Int) (v : Value) (w' : World) : Prop := v = (.int .i64 r : Value) ∧ Sat w' (rf w) []
theorem rmq_Table_scan.l1_ok {Q} (w0 : World) (v0 : Value) (p0 : Option ((List Int) × (List (List Int)))) (a2 : Int) (R0 : rd (hp w0) (.ptr 65 (.pair (.slice 3 (.int .i64)) (.slice 22 (.slice 3 (.int .i64))))) [v0] p0) (out : Int) (hn0 : ∀ (w : World), Sat w (rf w0) [] → At Q (.exit 0) 20 [(7, .int .i64 out)] w) :
    ∀ (k : Nat) (x7_l1 : Int) (x8_l1 : Int) (w : World), Sat w (rf w0) [] → rmq_Table_scan.l1 p0 a2 k x7_l1 x8_l1 = some out → WL Try.prog (cbody (cbody (cr (cl (cr (cr C29)))))) Q 20 [(0, v0), (2, .int .i64 a2), (7, .int .i64 x7_l1), (8, .int .i64 x8_l1)] w := by
  intro k
  induction k with
  | zero => intro x7_l1 x8_l1 w hS H; exact absurd (show none = some out from H) (by simp)
  | succ k ih =>
    intro x7_l1 x8_l1 w hS H
    unfold rmq_Table_scan.l1 at H
    refine WL.round ?_
    refine WC.seq (by kernel_rfl) ?_
    refine WC.seq (by kernel_rfl) ?_
    refine WC.reg [0, 1, 2] (by kernel_rfl) (by kernel_rfl) ?_
    refine WR.runk [0, 1, 2] [] [0, 2, 7, 8, 12] (L' := [(0, v0), (2, .int .i64 a2), (7, .int .i64 x7_l1), (8, .int .i64 x8_l1), (12, .bool (decide (x8_l1 < a2)))]) (w' := w) (by kernel_rfl) ?_
    refine WR.nil ?_
    refine At.go ?_
    refine WC.cond (by kernel_rfl) (decide (x8_l1 < a2)) (by kernel_rfl) (by kernel_rfl) (fun hb1 => ?_) (fun hb1 => ?_)
    · replace H := ite_t H hb1
      refine WC.skip (by kernel_rfl) ?_
      refine At.go ?_
      refine WC.seq (by kernel_rfl) ?_
      refine WC.block (by kernel_rfl) ?_
      refine WC.reg [0, 1, 2, 3, 4] (by kernel_rfl) (by kernel_rfl) ?_
      refine WR.runk [0, 1, 2] [3, 4] [0, 2, 7, 8, 15, 16, 17] (L' := [(0, v0), (2, .int .i64 a2), (7, .int .i64 x7_l1), (8, .int .i64 x8_l1), (15, v0), (16, .int .i64 x7_l1), (17, .int .i64 x8_l1)]) (w' := w) (by kernel_rfl) ?_
      obtain ⟨r2, e3, H⟩ := bind_ex H
      refine WR.st (St.call (by kernel_rfl) (f := 30) (args := #[v0, .int .i64 x7_l1, .int .i64 x8_l1]) (by kernel_rfl) (rmq_Table_better.calls w (v0) p0 (rd.mono hS.sub0 _ _ _ R0) x7_l1 x8_l1 r2 e3) ?_)
      rintro _ w9 ⟨rfl, hS10⟩
      have hS : Sat w9 (rf w0) [] := hS.ext hS10
      refine WR.runk [4] [] [0, 2, 7, 8] (L' := [(0, v0), (2, .int .i64 a2), (7, .int .i64 r2), (8, .int .i64 x8_l1)]) (w' := w9) (by kernel_rfl) ?_
      refine WR.nil ?_
      refine At.blockNormal ?_
      refine At.go ?_
      refine WC.reg [0, 1, 2] (by kernel_rfl) (by kernel_rfl) ?_
      refine WR.runk [0, 1, 2] [] [0, 2, 7, 8] (L' := [(0, v0), (2, .int .i64 a2), (7, .int .i64 r2), (8, .int .i64 (wi (x8_l1 + 1)))]) (w' := w9) (by kernel_rfl) ?_
      refine WR.nil ?_
      have hS : Sat w9 (rf w0) [] := hS.sel [] (by kernel_rfl)
      refine At.again ?_
      refine WL.weaken [0, 2, 7, 8] (L' := [(0, v0), (2, .int .i64 a2), (7, .int .i64 r2), (8, .int .i64 (wi (x8_l1 + 1)))]) (by kernel_rfl) ?_
      exact ih r2 (wi (x8_l1 + 1)) _ hS H
    · replace H := ite_f H hb1
      refine WC.exit (by kernel_rfl) ?_
      refine At.thenExit ?_
      refine At.thenExit ?_
      obtain rfl := Option.some.inj H
      have hS : Sat w (rf w0) [] := hS.sel [] (by kernel_rfl)
      refine At.weaken [7] (L' := [(7, .int .i64 x7_l1)]) (by kernel_rfl) ?_
      exact hn0 _ hS
theorem rmq_Table_scan.calls (w0 : World) (v0 : Value) (p0 : Option ((List Int) × (List (List Int)))) (R0 : rd (hp w0) (.ptr 65 (.pair (.slice 3 (.int .i64)) (.slice 22 (.slice 3 (.int .i64))))) [v0] p0) (a1 : Int) (a2 : Int) (r : Int) (H : rmq_Table_scan.f p0 a1 a2 = some r) :
    Calls Try.prog 29 #[v0, .int .i64 a1, .int .i64 a2] w0 (fun e w' => ∃ v, e = .returned v ∧ rmq_Table_scan.post w0 r v w') := by
  have hS : Sat w0 (rf w0) [] := Sat.start w0
  unfold rmq_Table_scan.f at H
  refine calls_of_WC (vs := [v0, .int .i64 a1, .int .i64 a2]) Try.func29 (c := C29) (n := 20) (by kernel_rfl) (by kernel_rfl) (by kernel_rfl) ?_
  refine WC.seq (by kernel_rfl) ?_
  refine WC.reg [0] (by kernel_rfl) (by kernel_rfl) ?_
  refine WR.runk [0] [] [0, 1, 2] (L' := [(0, v0), (1, .int .i64 a1), (2, .int .i64 a2)]) (w' := w0) (by kernel_rfl) ?_
  refine WR.nil ?_
  refine At.go ?_
  refine WC.seq (by kernel_rfl) ?_
  refine WC.reg [0] (by kernel_rfl) (by kernel_rfl) ?_
  refine WR.runk [0] [] [0, 1, 2, 7] (L' := [(0, v0), (1, .int .i64 a1), (2, .int .i64 a2), (7, .int .i64 (-1))]) (w' := w0) (by kernel_rfl) ?_
  refine WR.nil ?_
  refine At.go ?_
  refine WC.seq (by kernel_rfl) ?_
  refine WC.seq (by kernel_rfl) ?_
  refine WC.reg [0, 1] (by kernel_rfl) (by kernel_rfl) ?_
  refine WR.runk [0, 1] [] [0, 2, 7, 8] (L' := [(0, v0), (2, .int .i64 a2), (7, .int .i64 (-1)), (8, .int .i64 a1)]) (w' := w0) (by kernel_rfl) ?_
  refine WR.nil ?_
  refine At.go ?_
  refine WC.block (by kernel_rfl) ?_
  have hS : Sat w0 (rf w0) [] := hS.sel [] (by kernel_rfl)
  obtain ⟨o11, e12, H⟩ := bind_ex H
  refine WC.loop (by kernel_rfl) ?_
  refine WL.weaken [0, 2, 7, 8] (L' := [(0, v0), (2, .int .i64 a2), (7, .int .i64 (-1)), (8, .int .i64 a1)]) (by kernel_rfl) ?_
  refine rmq_Table_scan.l1_ok w0 v0 p0 a2 R0 o11 (fun w14 hS => ?_) FU (-1) a1 _ hS e12
  refine At.hit ?_
  refine At.go ?_
  refine WC.seq (by kernel_rfl) ?_
  refine WC.reg [0, 1] (by kernel_rfl) (by kernel_rfl) ?_
  refine WR.runk [0, 1] [] [6] (L' := [(6, .int .i64 o11)]) (w' := w14) (by kernel_rfl) ?_
  refine WR.nil ?_
  refine At.go ?_
  refine WC.ret (by kernel_rfl) ?_
  obtain rfl := Option.some.inj H
  have hS : Sat w14 (rf w0) [] := hS.sel [] (by kernel_rfl)
  exact At.body [.int .i64 o11] (by kernel_rfl) ⟨_, rfl, rfl, hS⟩
/-! ### 17 colophon/rmq.New -/
def rmq_New.l1 (l0 : List Int) (r2 : (List Int)) : Nat → (List Int) → Int → Option (List Int)
  | 0, _, _ => none
  | k + 1, x5_l1, x6_l1 => (if decide (x6_l1 < (l0.length : Int)) then ((rmq_Table_scan.f (some (r2, ([] : List (List Int)))) x6_l1 (imin (wi (x6_l1 + 32)) (l0.length : Int))).bind fun r17 => ((app? 17592186044416 x5_l1 ([r17] : List Int)).bind fun y29 => rmq_New.l1 l0 r2 k y29 (wi (x6_l1 + 32)))) else some x5_l1)
def rmq_New.l3 (x5_l2 : List Int) (x7_l2 : Int) (q15_l2 : (List Int) × (List (List Int))) (y46 : List (List Int)) : Nat → (List Int) → Int → Option (List Int)
  | 0, _, _ => none
  | k + 1, x8_l3, x9_l3 => (if decide (wi (x9_l3 + x7_l2) < (x5_l2.length : Int)) then ((at? x5_l2 x9_l3).bind fun v59 => ((at? x5_l2 (wi (x9_l3 + x7_l2))).bind fun v61 => ((rmq_Table_better.f (some (q15_l2.1, y46)) v59 v61).bind fun r63 => ((app? 17592186044416 x8_l3 ([r63] : List Int)).bind fun y75 => rmq_New.l3 x5_l2 x7_l2 q15_l2 y46 k y75 (wi (x9_l3 + 1)))))) else some x8_l3)
def rmq_New.l2 : Nat → (List Int) → Int → ((List Int) × (List (List Int))) → Option ((List Int) × (List (List Int)))
  | 0, _, _, _ => none
  | k + 1, x5_l2, x7_l2, q15_l2 => (if decide ((x5_l2.length : Int) > 0) then ((app? 5864062014805 q15_l2.2 [x5_l2]).bind fun y46 => ((rmq_New.l3 x5_l2 x7_l2 q15_l2 y46 FU ([] : List Int) 0).bind fun o79 => rmq_New.l2 k o79 (wi (x7_l2 * 2)) (q15_l2.1, y46))) else some q15_l2)
def rmq_New.f (l0 : List Int) : Option ((Option ((List Int) × (List (List Int)))) × Int) := (if decide ((l0.length : Int) > 4194304) then some (none, 2) else ((slices_Clone_28.f l0).bind fun r2 => ((rmq_New.l1 l0 r2 FU ([] : List Int) 0).bind fun o33 => ((rmq_New.l2 FU o33 1 (r2, ([] : List (List Int)))).bind fun o84 => some (some o84, 0)))))
def rmq_New.post (w : World) (r : (Option ((List Int) × (List (List Int)))) × Int) (v : Value) (w' : World) : Prop := ∃ (v0 : Value), v = .tuple #[v0, .int .i64 r.2] ∧ Sat w' (rf w) [optP O65 v0 r.1]
theorem rmq_New.l1_ok {Q} (w0 : World) (A0 : Option Addr) (c0 : Nat) (l0 : List Int) (r2 : (List Int)) (b13 : Nat) (out : (List Int)) (hn0 : ∀ (A5_q : Option Addr) (c5_q : Nat) (w : World), Sat w (rf w0) [osl 3 (r0 (.int .i64)) 1 A5_q c5_q out, O65 b13 (r2, ([] : List (List Int)))] → At Q (.exit 0) 74 [(4, .pointer (some ⟨b13, 0, none⟩)), (5, .slice A5_q out.length c5_q)] w) :
    ∀ (k : Nat) (x5_l1 : List Int) (x6_l1 : Int) (A5_l1 : Option Addr) (c5_l1 : Nat) (w : World), Sat w (rf w0) [osl 3 (r0 (.int .i64)) 1 A5_l1 c5_l1 x5_l1, O65 b13 (r2, ([] : List (List Int)))] → rmq_New.l1 l0 r2 k x5_l1 x6_l1 = some out → WL Try.prog (cbody (cbody (cr (cl (cr (cr (cr (cr C17)))))))) Q 74 [(0, .slice A0 l0.length c0), (4, .pointer (some ⟨b13, 0, none⟩)), (5, .slice A5_l1 x5_l1.length c5_l1), (6, .int .i64 x6_l1)] w := by
  intro k
  induction k with
  | zero => intro x5_l1 x6_l1 A5_l1 c5_l1 w hS H; exact absurd (show none = some out from H) (by simp)
  | succ k ih =>
    intro x5_l1 x6_l1 A5_l1 c5_l1 w hS H
    unfold rmq_New.l1 at H
    refine WL.round ?_
    refine WC.seq (by kernel_rfl) ?_
    refine WC.seq (by kernel_rfl) ?_
    refine WC.reg [0, 1, 2, 3] (by kernel_rfl) (by kernel_rfl) ?_
    refine WR.runk [0, 1, 2, 3] [] [0, 4, 5, 6, 20] (L' := [(0, .slice A0 l0.length c0), (4, .pointer (some ⟨b13, 0, none⟩)), (5, .slice A5_l1 x5_l1.length c5_l1), (6, .int .i64 x6_l1), (20, .bool (decide (x6_l1 < (l0.length : Int))))]) (w' := w) (by kernel_rfl) ?_
    refine WR.nil ?_
    refine At.go ?_
    refine WC.cond (by kernel_rfl) (decide (x6_l1 < (l0.length : Int))) (by kernel_rfl) (by kernel_rfl) (fun hb16 => ?_) (fun hb16 => ?_)
    · replace H := ite_t H hb16
      refine WC.skip (by kernel_rfl) ?_
      refine At.go ?_
      refine WC.seq (by kernel_rfl) ?_
      refine WC.block (by kernel_rfl) ?_
      refine WC.reg [0, 1, 2, 3, 4, 5, 6, 7, 8, 9, 10, 11] (by kernel_rfl) (by kernel_rfl) ?_
      refine WR.runk [0, 1, 2, 3, 4, 5, 6, 7] [8, 9, 10, 11] [0, 4, 5, 6, 23, 24, 25, 30] (L' := [(0, .slice A0 l0.length c0), (4, .pointer (some ⟨b13, 0, none⟩)), (5, .slice A5_l1 x5_l1.length c5_l1), (6, .int .i64 x6_l1), (23, .slice A5_l1 x5_l1.length c5_l1), (24, .pointer (some ⟨b13, 0, none⟩)), (25, .int .i64 x6_l1), (30, .int .i64 (imin (wi (x6_l1 + 32)) (l0.length : Int)))]) (w' := w) (by kernel_rfl) ?_
      obtain ⟨r17, e18, H⟩ := bind_ex H
      refine WR.st (St.call (by kernel_rfl) (f := 29) (args := #[.pointer (some ⟨b13, 0, none⟩), .int .i64 x6_l1, .int .i64 (imin (wi (x6_l1 + 32)) (l0.length : Int))]) (by kernel_rfl) (rmq_Table_scan.calls w (.pointer (some ⟨b13, 0, none⟩)) (some (r2, ([] : List (List Int)))) (Sat.rdAny 1 hS rfl (fun _ h => O65.rd _ _ _ h)) x6_l1 (imin (wi (x6_l1 + 32)) (l0.length : Int)) r17 e18) ?_)
      rintro _ w24 ⟨rfl, hS25⟩
      have hS : Sat w24 (rf w0) [osl 3 (r0 (.int .i64)) 1 A5_l1 c5_l1 x5_l1, O65 b13 (r2, ([] : List (List Int)))] := hS.ext hS25
      refine WR.runk [] [9, 10, 11] [0, 4, 5, 6, 23, 31] (L' := [(0, .slice A0 l0.length c0), (4, .pointer (some ⟨b13, 0, none⟩)), (5, .slice A5_l1 x5_l1.length c5_l1), (6, .int .i64 x6_l1), (23, .slice A5_l1 x5_l1.length c5_l1), (31, .int .i64 r17)]) (w' := w24) (by kernel_rfl) ?_
      refine WR.st (St.box hS (by kernel_rfl) (.cells #[.int .i64 r17] 3) (fun b26 => .slice (some ⟨b26, 0, none⟩) 1 1) (fun _ => by kernel_rfl) (fun b26 w27 hS => ?_))
      refine WR.runk [] [10, 11] [0, 4, 5, 6, 23, 32] (L' := [(0, .slice A0 l0.length c0), (4, .pointer (some ⟨b13, 0, none⟩)), (5, .slice A5_l1 x5_l1.length c5_l1), (6, .int .i64 x6_l1), (23, .slice A5_l1 x5_l1.length c5_l1), (32, .slice (some ⟨b26, 0, none⟩) 1 1)]) (w' := w27) (by kernel_rfl) ?_
      have hS : Sat w27 (rf w0) [osl 3 (r0 (.int .i64)) 1 A5_l1 c5_l1 x5_l1, pts b26 (.cells #[.int .i64 r17] 3 (0, 0)), O65 b13 (r2, ([] : List (List Int)))] := hS.sel [1, 0, 2] (by kernel_rfl)
      obtain ⟨y29, e28, H⟩ := bind_ex H
      refine WR.st (St.append' (.tmp 23) (.tmp 32) (by kernel_rfl) (by kernel_rfl) E22 (r0_one _) hS (by kernel_rfl) (by kernel_rfl) (Sat.ptsAt 1 (r0 (.int .i64)) 1 ([r17] : List Int) hS rfl rfl (rdL.cons1 rfl (rdL.nil _ _))) 17592186044416 (by kernel_rfl) (by kernel_rfl) e28 (fun A30 c31 w32 hS => ?_))
      refine WR.runk [11] [] [0, 4, 5, 6] (L' := [(0, .slice A0 l0.length c0), (4, .pointer (some ⟨b13, 0, none⟩)), (5, .slice A30 y29.length c31), (6, .int .i64 x6_l1)]) (w' := w32) (by kernel_rfl) ?_
      refine WR.nil ?_
      refine At.blockNormal ?_
      refine At.go ?_
      refine WC.reg [0, 1, 2] (by kernel_rfl) (by kernel_rfl) ?_
      refine WR.runk [0, 1, 2] [] [0, 4, 5, 6] (L' := [(0, .slice A0 l0.length c0), (4, .pointer (some ⟨b13, 0, none⟩)), (5, .slice A30 y29.length c31), (6, .int .i64 (wi (x6_l1 + 32)))]) (w' := w32) (by kernel_rfl) ?_
      refine WR.nil ?_
      have hS : Sat w32 (rf w0) [osl 3 (r0 (.int .i64)) 1 A30 c31 y29, O65 b13 (r2, ([] : List (List Int)))] := hS.sel [0, 2] (by kernel_rfl)
      refine At.again ?_
      refine WL.weaken [0, 4, 5, 6] (L' := [(0, .slice A0 l0.length c0), (4, .pointer (some ⟨b13, 0, none⟩)), (5, .slice A30 y29.length c31), (6, .int .i64 (wi (x6_l1 + 32)))]) (by kernel_rfl) ?_
      exact ih y29 (wi (x6_l1 + 32)) A30 c31 _ hS H
    · replace H := ite_f H hb16
      refine WC.exit (by kernel_rfl) ?_
      refine At.thenExit ?_
      refine At.thenExit ?_
      obtain rfl := Option.some.inj H
      have hS : Sat w (rf w0) [osl 3 (r0 (.int .i64)) 1 A5_l1 c5_l1 x5_l1, O65 b13 (r2, ([] : List (List Int)))] := hS.sel [0, 1] (by kernel_rfl)
      refine At.weaken [4, 5] (L' := [(4, .pointer (some ⟨b13, 0, none⟩)), (5, .slice A5_l1 x5_l1.length c5_l1)]) (by kernel_rfl) ?_
      exact hn0 A5_l1 c5_l1 _ hS
theorem rmq_New.l3_ok {Q} (w0 : World) (b13 : Nat) (A5_l2 : Option Addr) (c5_l2 : Nat) (x5_l2 : List Int) (x7_l2 : Int) (q15_l2 : (List Int) × (List (List Int))) (A39 : Option Addr) (c40 : Nat) (y46 : List (List Int)) (A47 : Option Addr) (c48 : Nat) (K50 : Heap) (R53 : rdS (rd K50 (.slice 3 (.int .i64))) 1 K50 A47 c48 y46) (R54 : rdS (r0 (.int .i64)) 1 K50 A5_l2 c5_l2 x5_l2) (out : (List Int)) (hn0 : ∀ (A8_q : Option Addr) (c8_q : Nat) (w : World), Sat w (rf w0) [osl 3 (r0 (.int .i64)) 1 A8_q c8_q out, pts b13 (.cells #[.slice A39 q15_l2.1.length c40, .slice A47 y46.length c48] 65 (0, 0)), osl 3 (r0 (.int .i64)) 1 A39 c40 q15_l2.1, gh K50] → At Q (.exit 4) 74 [(4, .pointer (some ⟨b13, 0, none⟩)), (7, .int .i64 x7_l2), (8, .slice A8_q out.length c8_q)] w) :
    ∀ (k : Nat) (x8_l3 : List Int) (x9_l3 : Int) (A8_l3 : Option Addr) (c8_l3 : Nat) (w : World), Sat w (rf w0) [gh K50, osl 3 (r0 (.int .i64)) 1 A8_l3 c8_l3 x8_l3, pts b13 (.cells #[.slice A39 q15_l2.1.length c40, .slice A47 y46.length c48] 65 (0, 0)), osl 3 (r0 (.int .i64)) 1 A39 c40 q15_l2.1] → rmq_New.l3 x5_l2 x7_l2 q15_l2 y46 k x8_l3 x9_l3 = some out → WL Try.prog (cbody (cbody (cr (cl (cr (cr (cbody (cl (cr (cbody (cbody (cr (cl (cr (cr (cr (cr (cr C17)))))))))))))))))) Q 74 [(4, .pointer (some ⟨b13, 0, none⟩)), (5, .slice A5_l2 x5_l2.length c5_l2), (7, .int .i64 x7_l2), (8, .slice A8_l3 x8_l3.length c8_l3), (9, .int .i64 x9_l3)] w := by
  intro k
  induction k with
  | zero => intro x8_l3 x9_l3 A8_l3 c8_l3 w hS H; exact absurd (show none = some out from H) (by simp)
  | succ k ih =>
    intro x8_l3 x9_l3 A8_l3 c8_l3 w hS H
    unfold rmq_New.l3 at H
    refine WL.round ?_
    refine WC.seq (by kernel_rfl) ?_
    refine WC.seq (by kernel_rfl) ?_
    refine WC.reg [0, 1, 2, 3, 4, 5] (by kernel_rfl) (by kernel_rfl) ?_
    refine WR.runk [0, 1, 2, 3, 4, 5] [] [4, 5, 7, 8, 9, 54] (L' := [(4, .pointer (some ⟨b13, 0, none⟩)), (5, .slice A5_l2 x5_l2.length c5_l2), (7, .int .i64 x7_l2), (8, .slice A8_l3 x8_l3.length c8_l3), (9, .int .i64 x9_l3), (54, .bool (decide (wi (x9_l3 + x7_l2) < (x5_l2.length : Int))))]) (w' := w) (by kernel_rfl) ?_
    refine WR.nil ?_
    refine At.go ?_
    refine WC.cond (by kernel_rfl) (decide (wi (x9_l3 + x7_l2) < (x5_l2.length : Int))) (by kernel_rfl) (by kernel_rfl) (fun hb56 => ?_) (fun hb56 => ?_)
    · replace H := ite_t H hb56
      refine WC.skip (by kernel_rfl) ?_
      refine At.go ?_
      refine WC.seq (by kernel_rfl) ?_
      refine WC.block (by kernel_rfl) ?_
      refine WC.drawn (by kernel_rfl) (by kernel_rfl) 16 (by kernel_rfl) (fun w57 hw58 => ?_)
      have hS := hS.heap hw58.1 hw58.2
      refine WD.weaken [4, 5, 7, 8, 9] (L' := [(4, .pointer (some ⟨b13, 0, none⟩)), (5, .slice A5_l2 x5_l2.length c5_l2), (7, .int .i64 x7_l2), (8, .slice A8_l3 x8_l3.length c8_l3), (9, .int .i64 x9_l3)]) (by kernel_rfl) ?_
      refine WD.pure (i := 0) (v := .slice A8_l3 x8_l3.length c8_l3) (by kernel_rfl) (by kernel_rfl) (fun _ => by kernel_rfl) ?_
      refine WD.weaken [4, 5, 7, 8, 9, 57] (L' := [(4, .pointer (some ⟨b13, 0, none⟩)), (5, .slice A5_l2 x5_l2.length c5_l2), (7, .int .i64 x7_l2), (8, .slice A8_l3 x8_l3.length c8_l3), (9, .int .i64 x9_l3), (57, .slice A8_l3 x8_l3.length c8_l3)]) (by kernel_rfl) ?_
      refine WD.pure (i := 1) (v := .pointer (some ⟨b13, 0, none⟩)) (by kernel_rfl) (by kernel_rfl) (fun _ => by kernel_rfl) ?_
      refine WD.weaken [4, 5, 7, 8, 9, 57, 58] (L' := [(4, .pointer (some ⟨b13, 0, none⟩)), (5, .slice A5_l2 x5_l2.length c5_l2), (7, .int .i64 x7_l2), (8, .slice A8_l3 x8_l3.length c8_l3), (9, .int .i64 x9_l3), (57, .slice A8_l3 x8_l3.length c8_l3), (58, .pointer (some ⟨b13, 0, none⟩))]) (by kernel_rfl) ?_
      refine WD.pure (i := 2) (v := .slice A5_l2 x5_l2.length c5_l2) (by kernel_rfl) (by kernel_rfl) (fun _ => by kernel_rfl) ?_
      refine WD.weaken [4, 5, 7, 8, 9, 57, 58, 59] (L' := [(4, .pointer (some ⟨b13, 0, none⟩)), (5, .slice A5_l2 x5_l2.length c5_l2), (7, .int .i64 x7_l2), (8, .slice A8_l3 x8_l3.length c8_l3), (9, .int .i64 x9_l3), (57, .slice A8_l3 x8_l3.length c8_l3), (58, .pointer (some ⟨b13, 0, none⟩)), (59, .slice A5_l2 x5_l2.length c5_l2)]) (by kernel_rfl) ?_
      refine WD.pure (i := 3) (v := .int .i64 x9_l3) (by kernel_rfl) (by kernel_rfl) (fun _ => by kernel_rfl) ?_
      refine WD.weaken [4, 5, 7, 8, 9, 57, 58, 59, 60] (L' := [(4, .pointer (some ⟨b13, 0, none⟩)), (5, .slice A5_l2 x5_l2.length c5_l2), (7, .int .i64 x7_l2), (8, .slice A8_l3 x8_l3.length c8_l3), (9, .int .i64 x9_l3), (57, .slice A8_l3 x8_l3.length c8_l3), (58, .pointer (some ⟨b13, 0, none⟩)), (59, .slice A5_l2 x5_l2.length c5_l2), (60, .int .i64 x9_l3)]) (by kernel_rfl) ?_
      obtain ⟨v59, e60, H⟩ := bind_ex H
      refine WD.ofP (i := 4) (by kernel_rfl) (PSt.idx (k := .i64) (.tmp 59) (.tmp 60) (by kernel_rfl) (by kernel_rfl) E22 (by kernel_rfl) (by kernel_rfl) (rdS.up R54 (Sat.ghAt 0 hS rfl)) e60 ?_)
      refine WD.weaken [4, 5, 7, 8, 9, 57, 58, 61] (L' := [(4, .pointer (some ⟨b13, 0, none⟩)), (5, .slice A5_l2 x5_l2.length c5_l2), (7, .int .i64 x7_l2), (8, .slice A8_l3 x8_l3.length c8_l3), (9, .int .i64 x9_l3), (57, .slice A8_l3 x8_l3.length c8_l3), (58, .pointer (some ⟨b13, 0, none⟩)), (61, .pointer (some (adr A5_l2 x9_l3.toNat 1)))]) (by kernel_rfl) ?_
      refine WD.ofR (i := 5) (by kernel_rfl) (RSt.loadInt (t := 3) (.tmp 61) (by kernel_rfl) (by kernel_rfl) (by kernel_rfl) (by kernel_rfl) (rdS.up R54 (Sat.ghAt 0 hS rfl)) e60 ?_)
      refine WD.weaken [4, 5, 7, 8, 9, 57, 58, 62] (L' := [(4, .pointer (some ⟨b13, 0, none⟩)), (5, .slice A5_l2 x5_l2.length c5_l2), (7, .int .i64 x7_l2), (8, .slice A8_l3 x8_l3.length c8_l3), (9, .int .i64 x9_l3), (57, .slice A8_l3 x8_l3.length c8_l3), (58, .pointer (some ⟨b13, 0, none⟩)), (62, .int .i64 v59)]) (by kernel_rfl) ?_
      refine WD.pure (i := 6) (v := .slice A5_l2 x5_l2.length c5_l2) (by kernel_rfl) (by kernel_rfl) (fun _ => by kernel_rfl) ?_
      refine WD.weaken [4, 5, 7, 8, 9, 57, 58, 62, 63] (L' := [(4, .pointer (some ⟨b13, 0, none⟩)), (5, .slice A5_l2 x5_l2.length c5_l2), (7, .int .i64 x7_l2), (8, .slice A8_l3 x8_l3.length c8_l3), (9, .int .i64 x9_l3), (57, .slice A8_l3 x8_l3.length c8_l3), (58, .pointer (some ⟨b13, 0, none⟩)), (62, .int .i64 v59), (63, .slice A5_l2 x5_l2.length c5_l2)]) (by kernel_rfl) ?_
      refine WD.pure (i := 7) (v := .int .i64 x9_l3) (by kernel_rfl) (by kernel_rfl) (fun _ => by kernel_rfl) ?_
      refine WD.weaken [4, 5, 7, 8, 9, 57, 58, 62, 63, 64] (L' := [(4, .pointer (some ⟨b13, 0, none⟩)), (5, .slice A5_l2 x5_l2.length c5_l2), (7, .int .i64 x7_l2), (8, .slice A8_l3 x8_l3.length c8_l3), (9, .int .i64 x9_l3), (57, .slice A8_l3 x8_l3.length c8_l3), (58, .pointer (some ⟨b13, 0, none⟩)), (62, .int .i64 v59), (63, .slice A5_l2 x5_l2.length c5_l2), (64, .int .i64 x9_l3)]) (by kernel_rfl) ?_
      refine WD.pure (i := 8) (v := .int .i64 x7_l2) (by kernel_rfl) (by kernel_rfl) (fun _ => by kernel_rfl) ?_
      refine WD.weaken [4, 5, 7, 8, 9, 57, 58, 62, 63, 64, 65] (L' := [(4, .pointer (some ⟨b13, 0, none⟩)), (5, .slice A5_l2 x5_l2.length c5_l2), (7, .int .i64 x7_l2), (8, .slice A8_l3 x8_l3.length c8_l3), (9, .int .i64 x9_l3), (57, .slice A8_l3 x8_l3.length c8_l3), (58, .pointer (some ⟨b13, 0, none⟩)), (62, .int .i64 v59), (63, .slice A5_l2 x5_l2.length c5_l2), (64, .int .i64 x9_l3), (65, .int .i64 x7_l2)]) (by kernel_rfl) ?_
      refine WD.pure (i := 9) (v := .int .i64 (wi (x9_l3 + x7_l2))) (by kernel_rfl) (by kernel_rfl) (fun _ => by kernel_rfl) ?_
      refine WD.weaken [4, 5, 7, 8, 9, 57, 58, 62, 63, 66] (L' := [(4, .pointer (some ⟨b13, 0, none⟩)), (5, .slice A5_l2 x5_l2.length c5_l2), (7, .int .i64 x7_l2), (8, .slice A8_l3 x8_l3.length c8_l3), (9, .int .i64 x9_l3), (57, .slice A8_l3 x8_l3.length c8_l3), (58, .pointer (some ⟨b13, 0, none⟩)), (62, .int .i64 v59), (63, .slice A5_l2 x5_l2.length c5_l2), (66, .int .i64 (wi (x9_l3 + x7_l2)))]) (by kernel_rfl) ?_
      obtain ⟨v61, e62, H⟩ := bind_ex H
      refine WD.ofP (i := 10) (by kernel_rfl) (PSt.idx (k := .i64) (.tmp 63) (.tmp 66) (by kernel_rfl) (by kernel_rfl) E22 (by kernel_rfl) (by kernel_rfl) (rdS.up R54 (Sat.ghAt 0 hS rfl)) e62 ?_)
      refine WD.weaken [4, 5, 7, 8, 9, 57, 58, 62, 67] (L' := [(4, .pointer (some ⟨b13, 0, none⟩)), (5, .slice A5_l2 x5_l2.length c5_l2), (7, .int .i64 x7_l2), (8, .slice A8_l3 x8_l3.length c8_l3), (9, .int .i64 x9_l3), (57, .slice A8_l3 x8_l3.length c8_l3), (58, .pointer (some ⟨b13, 0, none⟩)), (62, .int .i64 v59), (67, .pointer (some (adr A5_l2 (wi (x9_l3 + x7_l2)).toNat 1)))]) (by kernel_rfl) ?_
      refine WD.ofR (i := 11) (by kernel_rfl) (RSt.loadInt (t := 3) (.tmp 67) (by kernel_rfl) (by kernel_rfl) (by kernel_rfl) (by kernel_rfl) (rdS.up R54 (Sat.ghAt 0 hS rfl)) e62 ?_)
      refine WD.weaken [4, 5, 7, 8, 9, 57, 58, 62, 68] (L' := [(4, .pointer (some ⟨b13, 0, none⟩)), (5, .slice A5_l2 x5_l2.length c5_l2), (7, .int .i64 x7_l2), (8, .slice A8_l3 x8_l3.length c8_l3), (9, .int .i64 x9_l3), (57, .slice A8_l3 x8_l3.length c8_l3), (58, .pointer (some ⟨b13, 0, none⟩)), (62, .int .i64 v59), (68, .int .i64 v61)]) (by kernel_rfl) ?_
      obtain ⟨r63, e64, H⟩ := bind_ex H
      refine WD.act (i := 12) (by kernel_rfl) (St.call (by kernel_rfl) (f := 30) (args := #[.pointer (some ⟨b13, 0, none⟩), .int .i64 v59, .int .i64 v61]) (by kernel_rfl) (rmq_Table_better.calls w57 (.pointer (some ⟨b13, 0, none⟩)) (some (q15_l2.1, y46)) (P65.mk (y := (q15_l2.1, y46)) (Sat.blockAt 2 hS rfl) (Sat.rdAt 3 hS rfl) (rdS.upd R53 (Sat.ghAt 0 hS rfl))) v59 v61 r63 e64) ?_)
      rintro _ w70 ⟨rfl, hS71⟩
      have hS : Sat w70 (rf w0) [gh K50, osl 3 (r0 (.int .i64)) 1 A8_l3 c8_l3 x8_l3, pts b13 (.cells #[.slice A39 q15_l2.1.length c40, .slice A47 y46.length c48] 65 (0, 0)), osl 3 (r0 (.int .i64)) 1 A39 c40 q15_l2.1] := hS.ext hS71
      refine ⟨(asked.anc (by kernel_rfl) (asked.anc (by kernel_rfl) (asked.nil _ _))), ?_⟩
      refine WD.weaken [4, 5, 7, 8, 9, 57, 69] (L' := [(4, .pointer (some ⟨b13, 0, none⟩)), (5, .slice A5_l2 x5_l2.length c5_l2), (7, .int .i64 x7_l2), (8, .slice A8_l3 x8_l3.length c8_l3), (9, .int .i64 x9_l3), (57, .slice A8_l3 x8_l3.length c8_l3), (69, .int .i64 r63)]) (by kernel_rfl) ?_
      refine WD.act (i := 13) (by kernel_rfl) (St.box hS (by kernel_rfl) (.cells #[.int .i64 r63] 3) (fun b72 => .slice (some ⟨b72, 0, none⟩) 1 1) (fun _ => by kernel_rfl) (fun b72 w73 hS => ?_))
      refine ⟨(asked.anc (by kernel_rfl) (asked.anc (by kernel_rfl) (asked.nil _ _))), ?_⟩
      refine WD.weaken [4, 5, 7, 8, 9, 57, 70] (L' := [(4, .pointer (some ⟨b13, 0, none⟩)), (5, .slice A5_l2 x5_l2.length c5_l2), (7, .int .i64 x7_l2), (8, .slice A8_l3 x8_l3.length c8_l3), (9, .int .i64 x9_l3), (57, .slice A8_l3 x8_l3.length c8_l3), (70, .slice (some ⟨b72, 0, none⟩) 1 1)]) (by kernel_rfl) ?_
      have hS : Sat w73 (rf w0) [osl 3 (r0 (.int .i64)) 1 A8_l3 c8_l3 x8_l3, pts b72 (.cells #[.int .i64 r63] 3 (0, 0)), gh K50, pts b13 (.cells #[.slice A39 q15_l2.1.length c40, .slice A47 y46.length c48] 65 (0, 0)), osl 3 (r0 (.int .i64)) 1 A39 c40 q15_l2.1] := hS.sel [2, 0, 1, 3, 4] (by kernel_rfl)
      obtain ⟨y75, e74, H⟩ := bind_ex H
      refine WD.act (i := 14) (by kernel_rfl) (St.append' (.tmp 57) (.tmp 70) (by kernel_rfl) (by kernel_rfl) E22 (r0_one _) hS (by kernel_rfl) (by kernel_rfl) (Sat.ptsAt 1 (r0 (.int .i64)) 1 ([r63] : List Int) hS rfl rfl (rdL.cons1 rfl (rdL.nil _ _))) 17592186044416 (by kernel_rfl) (by kernel_rfl) e74 (fun A76 c77 w78 hS => ?_))
      refine ⟨(asked.anc (by kernel_rfl) (asked.anc (by kernel_rfl) (asked.nil _ _))), ?_⟩
      refine WD.weaken [4, 5, 7, 9, 71] (L' := [(4, .pointer (some ⟨b13, 0, none⟩)), (5, .slice A5_l2 x5_l2.length c5_l2), (7, .int .i64 x7_l2), (9, .int .i64 x9_l3), (71, .slice A76 y75.length c77)]) (by kernel_rfl) ?_
      refine WD.pure (i := 15) (v := .slice A76 y75.length c77) (by kernel_rfl) (by kernel_rfl) (fun _ => by kernel_rfl) ?_
      refine WD.weaken [4, 5, 7, 8, 9] (L' := [(4, .pointer (some ⟨b13, 0, none⟩)), (5, .slice A5_l2 x5_l2.length c5_l2), (7, .int .i64 x7_l2), (8, .slice A76 y75.length c77), (9, .int .i64 x9_l3)]) (by kernel_rfl) ?_
      refine WD.nil (by kernel_rfl) ?_
      refine At.blockNormal ?_
      refine At.go ?_
      refine WC.reg [0, 1, 2] (by kernel_rfl) (by kernel_rfl) ?_
      refine WR.runk [0, 1, 2] [] [4, 5, 7, 8, 9] (L' := [(4, .pointer (some ⟨b13, 0, none⟩)), (5, .slice A5_l2 x5_l2.length c5_l2), (7, .int .i64 x7_l2), (8, .slice A76 y75.length c77), (9, .int .i64 (wi (x9_l3 + 1)))]) (w' := w78) (by kernel_rfl) ?_
      refine WR.nil ?_
      have hS : Sat w78 (rf w0) [gh K50, osl 3 (r0 (.int .i64)) 1 A76 c77 y75, pts b13 (.cells #[.slice A39 q15_l2.1.length c40, .slice A47 y46.length c48] 65 (0, 0)), osl 3 (r0 (.int .i64)) 1 A39 c40 q15_l2.1] := hS.sel [2, 0, 3, 4] (by kernel_rfl)
      refine At.again ?_
      refine WL.weaken [4, 5, 7, 8, 9] (L' := [(4, .pointer (some ⟨b13, 0, none⟩)), (5, .slice A5_l2 x5_l2.length c5_l2), (7, .int .i64 x7_l2), (8, .slice A76 y75.length c77), (9, .int .i64 (wi (x9_l3 + 1)))]) (by kernel_rfl) ?_
      exact ih y75 (wi (x9_l3 + 1)) A76 c77 _ hS H
    · replace H := ite_f H hb56
      refine WC.exit (by kernel_rfl) ?_
      refine At.thenExit ?_
      refine At.thenExit ?_
      obtain rfl := Option.some.inj H
      have hS : Sat w (rf w0) [osl 3 (r0 (.int .i64)) 1 A8_l3 c8_l3 x8_l3, pts b13 (.cells #[.slice A39 q15_l2.1.length c40, .slice A47 y46.length c48] 65 (0, 0)), osl 3 (r0 (.int .i64)) 1 A39 c40 q15_l2.1, gh K50] := hS.sel [1, 2, 3, 0] (by kernel_rfl)
      refine At.weaken [4, 7, 8] (L' := [(4, .pointer (some ⟨b13, 0, none⟩)), (7, .int .i64 x7_l2), (8, .slice A8_l3 x8_l3.length c8_l3)]) (by kernel_rfl) ?_
      exact hn0 A8_l3 c8_l3 _ hS
theorem rmq_New.l2_ok {Q} (w0 : World) (b13 : Nat) (out : ((List Int) × (List (List Int)))) (hn0 : ∀ (w : World), Sat w (rf w0) [O65 b13 out] → At Q (.exit 2) 74 [(4, .pointer (some ⟨b13, 0, none⟩))] w) :
    ∀ (k : Nat) (x5_l2 : List Int) (x7_l2 : Int) (q15_l2 : (List Int) × (List (List Int))) (A5_l2 : Option Addr) (c5_l2 : Nat) (w : World), Sat w (rf w0) [osl 3 (r0 (.int .i64)) 1 A5_l2 c5_l2 x5_l2, O65 b13 q15_l2] → rmq_New.l2 k x5_l2 x7_l2 q15_l2 = some out → WL Try.prog (cbody (cbody (cr (cl (cr (cr (cr (cr (cr C17))))))))) Q 74 [(4, .pointer (some ⟨b13, 0, none⟩)), (5, .slice A5_l2 x5_l2.length c5_l2), (7, .int .i64 x7_l2)] w := by
  intro k
  induction k with
  | zero => intro x5_l2 x7_l2 q15_l2 A5_l2 c5_l2 w hS H; exact absurd (show none = some out from H) (by simp)
  | succ k ih =>
    intro x5_l2 x7_l2 q15_l2 A5_l2 c5_l2 w hS H
    unfold rmq_New.l2 at H
    refine WL.round ?_
    refine WC.seq (by kernel_rfl) ?_
    refine WC.seq (by kernel_rfl) ?_
    refine WC.reg [0, 1, 2] (by kernel_rfl) (by kernel_rfl) ?_
    refine WR.runk [0, 1, 2] [] [4, 5, 7, 36] (L' := [(4, .pointer (some ⟨b13, 0, none⟩)), (5, .slice A5_l2 x5_l2.length c5_l2), (7, .int .i64 x7_l2), (36, .bool (decide ((x5_l2.length : Int) > 0)))]) (w' := w) (by kernel_rfl) ?_
    refine WR.nil ?_
    refine At.go ?_
    refine WC.cond (by kernel_rfl) (decide ((x5_l2.length : Int) > 0)) (by kernel_rfl) (by kernel_rfl) (fun hb38 => ?_) (fun hb38 => ?_)
    · replace H := ite_t H hb38
      refine WC.skip (by kernel_rfl) ?_
      refine At.go ?_
      refine WC.seq (by kernel_rfl) ?_
      refine WC.block (by kernel_rfl) ?_
      refine WC.seq (by kernel_rfl) ?_
      refine WC.reg [0, 1, 2, 3, 4, 5, 6, 7, 8, 9, 10] (by kernel_rfl) (by kernel_rfl) ?_
      refine WR.runk [0, 1, 2, 3] [4, 5, 6, 7, 8, 9, 10] [4, 5, 7, 39, 42] (L' := [(4, .pointer (some ⟨b13, 0, none⟩)), (5, .slice A5_l2 x5_l2.length c5_l2), (7, .int .i64 x7_l2), (39, .pointer (some ⟨b13, 0, none⟩)), (42, .pointer (some ⟨b13, 1, none⟩))]) (w' := w) (by kernel_rfl) ?_
      have hS : Sat w (rf w0) [O65 b13 q15_l2, osl 3 (r0 (.int .i64)) 1 A5_l2 c5_l2 x5_l2] := hS.sel [1, 0] (by kernel_rfl)
      obtain ⟨A39, c40, A41, c42, hS⟩ := O65.open hS
      have hS : Sat w (rf w0) [pts b13 (.cells #[.slice A39 q15_l2.1.length c40, .slice A41 q15_l2.2.length c42] 65 (0, 0)), osl 3 (r0 (.int .i64)) 1 A39 c40 q15_l2.1, orw 22 (Esl 3 (.int .i64)) 1 A41 c42 q15_l2.2, osl 3 (r0 (.int .i64)) 1 A5_l2 c5_l2 x5_l2] := hS
      refine WR.st (St.ofR (RSt.loadObj (t := 63) (k := 1) (v := .slice A41 q15_l2.2.length c42) (.tmp 42) (by kernel_rfl) (by kernel_rfl) (by kernel_rfl) 0 hS rfl (by kernel_rfl) rfl ?_))
      refine WR.runk [5] [6, 7, 8, 9, 10] [4, 5, 7, 39, 43, 44] (L' := [(4, .pointer (some ⟨b13, 0, none⟩)), (5, .slice A5_l2 x5_l2.length c5_l2), (7, .int .i64 x7_l2), (39, .pointer (some ⟨b13, 0, none⟩)), (43, .slice A41 q15_l2.2.length c42), (44, .slice A5_l2 x5_l2.length c5_l2)]) (w' := w) (by kernel_rfl) ?_
      refine WR.st (St.box hS (by kernel_rfl) (.cells #[.slice A5_l2 x5_l2.length c5_l2] 22) (fun b43 => .slice (some ⟨b43, 0, none⟩) 1 1) (fun _ => by kernel_rfl) (fun b43 w44 hS => ?_))
      refine WR.runk [] [7, 8, 9, 10] [4, 5, 7, 39, 43, 45] (L' := [(4, .pointer (some ⟨b13, 0, none⟩)), (5, .slice A5_l2 x5_l2.length c5_l2), (7, .int .i64 x7_l2), (39, .pointer (some ⟨b13, 0, none⟩)), (43, .slice A41 q15_l2.2.length c42), (45, .slice (some ⟨b43, 0, none⟩) 1 1)]) (w' := w44) (by kernel_rfl) ?_
      have hS : Sat w44 (rf w0) [orw 22 (Esl 3 (.int .i64)) 1 A41 c42 q15_l2.2, pts b43 (.cells #[.slice A5_l2 x5_l2.length c5_l2] 22 (0, 0)), pts b13 (.cells #[.slice A39 q15_l2.1.length c40, .slice A41 q15_l2.2.length c42] 65 (0, 0)), osl 3 (r0 (.int .i64)) 1 A39 c40 q15_l2.1, osl 3 (r0 (.int .i64)) 1 A5_l2 c5_l2 x5_l2] := hS.sel [3, 0, 1, 2, 4] (by kernel_rfl)
      have hS : Sat w44 (rf w0) [osl 3 (r0 (.int .i64)) 1 A5_l2 c5_l2 x5_l2, orw 22 (Esl 3 (.int .i64)) 1 A41 c42 q15_l2.2, pts b43 (.cells #[.slice A5_l2 x5_l2.length c5_l2] 22 (0, 0)), pts b13 (.cells #[.slice A39 q15_l2.1.length c40, .slice A41 q15_l2.2.length c42] 65 (0, 0)), osl 3 (r0 (.int .i64)) 1 A39 c40 q15_l2.1] := hS.sel [4, 0, 1, 2, 3] (by kernel_rfl)
      have hS : Sat w44 (rf w0) [orw 22 (Esl 3 (.int .i64)) 1 A41 c42 q15_l2.2, osl 3 (r0 (.int .i64)) 1 A5_l2 c5_l2 x5_l2, pts b43 (.cells #[.slice A5_l2 x5_l2.length c5_l2] 22 (0, 0)), pts b13 (.cells #[.slice A39 q15_l2.1.length c40, .slice A41 q15_l2.2.length c42] 65 (0, 0)), osl 3 (r0 (.int .i64)) 1 A39 c40 q15_l2.1] := hS.sel [1, 0, 2, 3, 4] (by kernel_rfl)
      obtain ⟨y46, e45, H⟩ := bind_ex H
      refine WR.st (St.appendOwn (.tmp 43) (.tmp 45) (by kernel_rfl) (by kernel_rfl) E63 (fun H h => Esl.mk H h) hS 0 rfl (by kernel_rfl) (by kernel_rfl) (by kernel_rfl) (by kernel_rfl) 5864062014805 (by kernel_rfl) (by kernel_rfl) e45 (fun A47 c48 w49 K50 hS hK51 hM52 => ?_))
      have R53 : rdS (rd K50 (.slice 3 (.int .i64))) 1 K50 A47 c48 y46 := orw.rdS (κ := (.slice 3 (.int .i64))) (Esl.rd (e := 3) (κ := (.int .i64))) hK51
      have R54 : rdS (r0 (.int .i64)) 1 K50 A5_l2 c5_l2 x5_l2 := by obtain ⟨M, hM, hm⟩ := hM52; exact (osl.read hm).mono hM (fun _ _ h => h)
      refine WR.runk [8, 9] [10] [4, 5, 7, 46, 48] (L' := [(4, .pointer (some ⟨b13, 0, none⟩)), (5, .slice A5_l2 x5_l2.length c5_l2), (7, .int .i64 x7_l2), (46, .slice A47 y46.length c48), (48, .pointer (some ⟨b13, 1, none⟩))]) (w' := w49) (by kernel_rfl) ?_
      have hS : Sat w49 (rf w0) [pts b13 (.cells #[.slice A39 q15_l2.1.length c40, .slice A41 q15_l2.2.length c42] 65 (0, 0)), gh K50, pts b43 (.cells #[.slice A5_l2 x5_l2.length c5_l2] 22 (0, 0)), osl 3 (r0 (.int .i64)) 1 A39 c40 q15_l2.1] := hS.sel [2, 0, 1, 3] (by kernel_rfl)
      refine WR.st (St.storeObj (t := 63) (k := 1) (cur' := #[.slice A39 q15_l2.1.length c40, .slice A47 y46.length c48]) (.tmp 48) (.tmp 46) (by kernel_rfl) (by kernel_rfl) (by kernel_rfl) hS (by kernel_rfl) (by kernel_rfl) (by kernel_rfl) rfl rfl (fun w55 hS => ?_))
      refine WR.runk [] [] [4, 5, 7] (L' := [(4, .pointer (some ⟨b13, 0, none⟩)), (5, .slice A5_l2 x5_l2.length c5_l2), (7, .int .i64 x7_l2)]) (w' := w55) (by kernel_rfl) ?_
      refine WR.nil ?_
      refine At.go ?_
      refine WC.seq (by kernel_rfl) ?_
      refine WC.reg [0] (by kernel_rfl) (by kernel_rfl) ?_
      refine WR.runk [0] [] [4, 5, 7, 8] (L' := [(4, .pointer (some ⟨b13, 0, none⟩)), (5, .slice A5_l2 x5_l2.length c5_l2), (7, .int .i64 x7_l2), (8, .slice none 0 0)]) (w' := w55) (by kernel_rfl) ?_
      refine WR.nil ?_
      refine At.go ?_
      refine WC.seq (by kernel_rfl) ?_
      refine WC.seq (by kernel_rfl) ?_
      refine WC.reg [0] (by kernel_rfl) (by kernel_rfl) ?_
      refine WR.runk [0] [] [4, 5, 7, 8, 9] (L' := [(4, .pointer (some ⟨b13, 0, none⟩)), (5, .slice A5_l2 x5_l2.length c5_l2), (7, .int .i64 x7_l2), (8, .slice none 0 0), (9, .int .i64 0)]) (w' := w55) (by kernel_rfl) ?_
      refine WR.nil ?_
      refine At.go ?_
      refine WC.block (by kernel_rfl) ?_
      have hS := hS.addNil (α := Int) 3 (r0 (.int .i64)) 1
      have hS : Sat w55 (rf w0) [gh K50, osl 3 (r0 (.int .i64)) 1 none 0 ([] : List Int), pts b13 (.cells #[.slice A39 q15_l2.1.length c40, .slice A47 y46.length c48] 65 (0, 0)), osl 3 (r0 (.int .i64)) 1 A39 c40 q15_l2.1] := hS.sel [2, 0, 1, 4] (by kernel_rfl)
      obtain ⟨o79, e80, H⟩ := bind_ex H
      refine WC.loop (by kernel_rfl) ?_
      refine WL.weaken [4, 5, 7, 8, 9] (L' := [(4, .pointer (some ⟨b13, 0, none⟩)), (5, .slice A5_l2 x5_l2.length c5_l2), (7, .int .i64 x7_l2), (8, .slice none 0 0), (9, .int .i64 0)]) (by kernel_rfl) ?_
      refine rmq_New.l3_ok w0 b13 A5_l2 c5_l2 x5_l2 x7_l2 q15_l2 A39 c40 y46 A47 c48 K50 R53 R54 o79 (fun A8_q81 c8_q81 w82 hS => ?_) FU ([] : List Int) 0 none 0 _ hS e80
      refine At.hit ?_
      refine At.go ?_
      refine WC.reg [0, 1] (by kernel_rfl) (by kernel_rfl) ?_
      refine WR.runk [0, 1] [] [4, 5, 7] (L' := [(4, .pointer (some ⟨b13, 0, none⟩)), (5, .slice A8_q81 o79.length c8_q81), (7, .int .i64 x7_l2)]) (w' := w82) (by kernel_rfl) ?_
      refine WR.nil ?_
      refine At.blockNormal ?_
      refine At.go ?_
      refine WC.reg [0, 1, 2] (by kernel_rfl) (by kernel_rfl) ?_
      refine WR.runk [0, 1, 2] [] [4, 5, 7] (L' := [(4, .pointer (some ⟨b13, 0, none⟩)), (5, .slice A8_q81 o79.length c8_q81), (7, .int .i64 (wi (x7_l2 * 2)))]) (w' := w82) (by kernel_rfl) ?_
      refine WR.nil ?_
      have hS : Sat w82 (rf w0) [gh K50, osl 3 (r0 (.int .i64)) 1 A8_q81 c8_q81 o79, pts b13 (.cells #[.slice A39 q15_l2.1.length c40, .slice A47 y46.length c48] 65 (0, 0)), osl 3 (r0 (.int .i64)) 1 A39 c40 q15_l2.1] := hS.sel [3, 0, 1, 2] (by kernel_rfl)
      have hS : Sat w82 (rf w0) [orw 22 (Esl 3 (.int .i64)) 1 A47 c48 y46, osl 3 (r0 (.int .i64)) 1 A8_q81 c8_q81 o79, pts b13 (.cells #[.slice A39 q15_l2.1.length c40, .slice A47 y46.length c48] 65 (0, 0)), osl 3 (r0 (.int .i64)) 1 A39 c40 q15_l2.1] := Sat.ungh hK51 hS
      have hS : Sat w82 (rf w0) [pts b13 (.cells #[.slice A39 q15_l2.1.length c40, .slice A47 y46.length c48] 65 (0, 0)), osl 3 (r0 (.int .i64)) 1 A39 c40 q15_l2.1, orw 22 (Esl 3 (.int .i64)) 1 A47 c48 y46, osl 3 (r0 (.int .i64)) 1 A8_q81 c8_q81 o79] := hS.sel [2, 3, 0, 1] (by kernel_rfl)
      have hS : Sat w82 (rf w0) [O65 b13 (q15_l2.1, y46), osl 3 (r0 (.int .i64)) 1 A8_q81 c8_q81 o79] := O65.close (q15_l2.1, y46) A39 c40 A47 c48 hS
      have hS : Sat w82 (rf w0) [osl 3 (r0 (.int .i64)) 1 A8_q81 c8_q81 o79, O65 b13 (q15_l2.1, y46)] := hS.sel [1, 0] (by kernel_rfl)
      refine At.again ?_
      refine WL.weaken [4, 5, 7] (L' := [(4, .pointer (some ⟨b13, 0, none⟩)), (5, .slice A8_q81 o79.length c8_q81), (7, .int .i64 (wi (x7_l2 * 2)))]) (by kernel_rfl) ?_
      exact ih o79 (wi (x7_l2 * 2)) (q15_l2.1, y46) A8_q81 c8_q81 _ hS H
    · replace H := ite_f H hb38
      refine WC.exit (by kernel_rfl) ?_
      refine At.thenExit ?_
      refine At.thenExit ?_
      obtain rfl := Option.some.inj H
      have hS : Sat w (rf w0) [O65 b13 q15_l2] := hS.sel [1] (by kernel_rfl)
      refine At.weaken [4] (L' := [(4, .pointer (some ⟨b13, 0, none⟩))]) (by kernel_rfl) ?_
      exact hn0 _ hS
theorem rmq_New.calls (w0 : World) (A0 : Option Addr) (c0 : Nat) (l0 : List Int) (R0 : rdS (r0 (.int .i64)) 1 (hp w0) A0 c0 l0) (r : (Option ((List Int) × (List (List Int)))) × Int) (H : rmq_New.f l0 = some r) :
    Calls Try.prog 17 #[.slice A0 l0.length c0] w0 (fun e w' => ∃ v, e = .returned v ∧ rmq_New.post w0 r v w') := by
  have hS : Sat w0 (rf w0) [] := Sat.start w0
  unfold rmq_New.f at H
  refine calls_of_WC (vs := [.slice A0 l0.length c0]) Try.func17 (c := C17) (n := 74) (by kernel_rfl) (by kernel_rfl) (by kernel_rfl) ?_
  refine WC.seq (by kernel_rfl) ?_
  refine WC.reg [0, 1] (by kernel_rfl) (by kernel_rfl) ?_
  refine WR.runk [0, 1] [] [0] (L' := [(0, .slice A0 l0.length c0)]) (w' := w0) (by kernel_rfl) ?_
  refine WR.nil ?_
  refine At.go ?_
  refine WC.seq (by kernel_rfl) ?_
  refine WC.seq (by kernel_rfl) ?_
  refine WC.reg [0, 1, 2] (by kernel_rfl) (by kernel_rfl) ?_
  refine WR.runk [0, 1, 2] [] [0, 12] (L' := [(0, .slice A0 l0.length c0), (12, .bool (decide ((l0.length : Int) > 4194304)))]) (w' := w0) (by kernel_rfl) ?_
  refine WR.nil ?_
  refine At.go ?_
  refine WC.cond (by kernel_rfl) (decide ((l0.length : Int) > 4194304)) (by kernel_rfl) (by kernel_rfl) (fun hb1 => ?_) (fun hb1 => ?_)
  · replace H := ite_t H hb1
    refine WC.seq (by kernel_rfl) ?_
    refine WC.reg [0, 1] (by kernel_rfl) (by kernel_rfl) ?_
    refine WR.runk [0, 1] [] [2, 3] (L' := [(2, .pointer none), (3, .int .i64 2)]) (w' := w0) (by kernel_rfl) ?_
    refine WR.nil ?_
    refine At.go ?_
    refine WC.ret (by kernel_rfl) ?_
    refine At.thenRet ?_
    obtain rfl := Option.some.inj H
    have hS := optP.nil (O := O65) hS
    have hS : Sat w0 (rf w0) [optP O65 (.pointer none) none] := hS.sel [0] (by kernel_rfl)
    exact At.body [.pointer none, .int .i64 2] (by kernel_rfl) ⟨_, rfl, _, rfl, hS⟩
  · replace H := ite_f H hb1
    refine WC.skip (by kernel_rfl) ?_
    refine At.go ?_
    refine WC.seq (by kernel_rfl) ?_
    refine WC.reg [0, 1, 2, 3, 4] (by kernel_rfl) (by kernel_rfl) ?_
    refine WR.runk [0] [1, 2, 3, 4] [0, 13] (L' := [(0, .slice A0 l0.length c0), (13, .slice A0 l0.length c0)]) (w' := w0) (by kernel_rfl) ?_
    obtain ⟨r2, e3, H⟩ := bind_ex H
    refine WR.st (St.call (by kernel_rfl) (f := 28) (args := #[.slice A0 l0.length c0]) (by kernel_rfl) (slices_Clone_28.calls w0 A0 c0 l0 (rdS.up R0 hS.sub0) r2 e3) ?_)
    rintro _ w9 ⟨A11, c12, rfl, hS10⟩
    have hS : Sat w9 (rf w0) [osl 3 (r0 (.int .i64)) 1 A11 c12 r2] := hS.ext hS10
    refine WR.runk [2] [3, 4] [0, 15] (L' := [(0, .slice A0 l0.length c0), (15, .agg #[.slice A11 r2.length c12, .slice none 0 0])]) (w' := w9) (by kernel_rfl) ?_
    refine WR.st (St.box hS (by kernel_rfl) (.cells #[.slice A11 r2.length c12, .slice none 0 0] 65) (fun b13 => .pointer (some ⟨b13, 0, none⟩)) (fun _ => by kernel_rfl) (fun b13 w14 hS => ?_))
    refine WR.runk [4] [] [0, 4] (L' := [(0, .slice A0 l0.length c0), (4, .pointer (some ⟨b13, 0, none⟩))]) (w' := w14) (by kernel_rfl) ?_
    refine WR.nil ?_
    refine At.go ?_
    refine WC.seq (by kernel_rfl) ?_
    refine WC.reg [0] (by kernel_rfl) (by kernel_rfl) ?_
    refine WR.runk [0] [] [0, 4, 5] (L' := [(0, .slice A0 l0.length c0), (4, .pointer (some ⟨b13, 0, none⟩)), (5, .slice none 0 0)]) (w' := w14) (by kernel_rfl) ?_
    refine WR.nil ?_
    refine At.go ?_
    refine WC.seq (by kernel_rfl) ?_
    refine WC.seq (by kernel_rfl) ?_
    refine WC.reg [0] (by kernel_rfl) (by kernel_rfl) ?_
    refine WR.runk [0] [] [0, 4, 5, 6] (L' := [(0, .slice A0 l0.length c0), (4, .pointer (some ⟨b13, 0, none⟩)), (5, .slice none 0 0), (6, .int .i64 0)]) (w' := w14) (by kernel_rfl) ?_
    refine WR.nil ?_
    refine At.go ?_
    refine WC.block (by kernel_rfl) ?_
    have hS := hS.addNilR (α := (List Int)) 22 (Esl 3 (.int .i64)) 1
    have hS : Sat w14 (rf w0) [pts b13 (.cells #[.slice A11 r2.length c12, .slice none 0 0] 65 (0, 0)), osl 3 (r0 (.int .i64)) 1 A11 c12 r2, orw 22 (Esl 3 (.int .i64)) 1 none 0 ([] : List (List Int))] := hS.sel [1, 2, 0] (by kernel_rfl)
    have hS : Sat w14 (rf w0) [O65 b13 (r2, ([] : List (List Int)))] := O65.close (r2, ([] : List (List Int))) A11 c12 none 0 hS
    have hS := hS.addNil (α := Int) 3 (r0 (.int .i64)) 1
    have hS : Sat w14 (rf w0) [osl 3 (r0 (.int .i64)) 1 none 0 ([] : List Int), O65 b13 (r2, ([] : List (List Int)))] := hS.sel [0, 1] (by kernel_rfl)
    obtain ⟨o33, e34, H⟩ := bind_ex H
    refine WC.loop (by kernel_rfl) ?_
    refine WL.weaken [0, 4, 5, 6] (L' := [(0, .slice A0 l0.length c0), (4, .pointer (some ⟨b13, 0, none⟩)), (5, .slice none 0 0), (6, .int .i64 0)]) (by kernel_rfl) ?_
    refine rmq_New.l1_ok w0 A0 c0 l0 r2 b13 o33 (fun A5_q35 c5_q35 w36 hS => ?_) FU ([] : List Int) 0 none 0 _ hS e34
    refine At.hit ?_
    refine At.go ?_
    refine WC.seq (by kernel_rfl) ?_
    refine WC.seq (by kernel_rfl) ?_
    refine WC.reg [0] (by kernel_rfl) (by kernel_rfl) ?_
    refine WR.runk [0] [] [4, 5, 7] (L' := [(4, .pointer (some ⟨b13, 0, none⟩)), (5, .slice A5_q35 o33.length c5_q35), (7, .int .i64 1)]) (w' := w36) (by kernel_rfl) ?_
    refine WR.nil ?_
    refine At.go ?_
    refine WC.block (by kernel_rfl) ?_
    have hS : Sat w36 (rf w0) [osl 3 (r0 (.int .i64)) 1 A5_q35 c5_q35 o33, O65 b13 (r2, ([] : List (List Int)))] := hS.sel [0, 1] (by kernel_rfl)
    obtain ⟨o84, e85, H⟩ := bind_ex H
    refine WC.loop (by kernel_rfl) ?_
    refine WL.weaken [4, 5, 7] (L' := [(4, .pointer (some ⟨b13, 0, none⟩)), (5, .slice A5_q35 o33.length c5_q35), (7, .int .i64 1)]) (by kernel_rfl) ?_
    refine rmq_New.l2_ok w0 b13 o84 (fun w87 hS => ?_) FU o33 1 (r2, ([] : List (List Int))) A5_q35 c5_q35 _ hS e85
    refine At.hit ?_
    refine At.go ?_
    refine WC.seq (by kernel_rfl) ?_
    refine WC.reg [0, 1, 2] (by kernel_rfl) (by kernel_rfl) ?_
    refine WR.runk [0, 1, 2] [] [2, 3] (L' := [(2, .pointer (some ⟨b13, 0, none⟩)), (3, .int .i64 0)]) (w' := w87) (by kernel_rfl) ?_
    refine WR.nil ?_
    refine At.go ?_
    refine WC.ret (by kernel_rfl) ?_
    obtain rfl := Option.some.inj H
    have hS : Sat w87 (rf w0) [optP O65 (.pointer (some ⟨b13, 0, none⟩)) (some o84)] := optP.mk hS
    have hS : Sat w87 (rf w0) [optP O65 (.pointer (some ⟨b13, 0, none⟩)) (some o84)] := hS.sel [0] (by kernel_rfl)
    exact At.body [.pointer (some ⟨b13, 0, none⟩), .int .i64 0] (by kernel_rfl) ⟨_, rfl, _, rfl, hS⟩
/-! ### 18 colophon/docs.Back -/
def docs_Back.l1 (l0 : List Int) : Nat → (List Int) → Int → (List (Int × Int)) → Option ((List Int) × (List (Int × Int)))
  | 0, _, _, _ => none
  | k + 1, x4_l1, x15_l1, q3_l1 => (if decide (x15_l1 < (l0.length : Int)) then ((at? l0 x15_l1).bind fun v10 => (if (mget q3_l1 v10).isSome then ((at? x4_l1 x15_l1).bind fun v13 => ((set? x4_l1 x15_l1 ((mget q3_l1 v10).getD 0)).bind fun y15 => docs_Back.l1 l0 k y15 (wi (x15_l1 + 1)) (mset q3_l1 v10 x15_l1))) else ((at? x4_l1 x15_l1).bind fun v20 => ((set? x4_l1 x15_l1 (-1)).bind fun y22 => docs_Back.l1 l0 k y22 (wi (x15_l1 + 1)) (mset q3_l1 v10 x15_l1))))) else some (x4_l1, q3_l1))
def docs_Back.f (l0 : List Int) : Option (List Int) := ((make? 17592186044416 0 (l0.length : Int)).bind fun y4 => ((docs_Back.l1 l0 FU y4 0 ([] : List (Int × Int))).bind fun o27 => some o27.1))
def docs_Back.post (w : World) (r : (List Int)) (v : Value) (w' : World) : Prop := ∃ (A0' : Option Addr) (c0' : Nat), v = (.slice A0' r.length c0' : Value) ∧ Sat w' (rf w) [osl 3 (r0 (.int .i64)) 1 A0' c0' r]
theorem docs_Back.l1_ok {Q} (w0 : World) (A0 : Option Addr) (c0 : Nat) (l0 : List Int) (b1 : Nat) (R0 : rdS (r0 (.int .i64)) 1 (hp w0) A0 c0 l0) (out : (List Int) × (List (Int × Int))) (hn0 : ∀ (A4_q : Option Addr) (c4_q : Nat) (w : World), Sat w (rf w0) [osl 3 (r0 (.int .i64)) 1 A4_q c4_q out.1, omp .i64 .i64 b1 out.2] → At Q (.exit 0) 39 [(4, .slice A4_q out.1.length c4_q)] w) :
    ∀ (k : Nat) (x4_l1 : List Int) (x15_l1 : Int) (q3_l1 : List (Int × Int)) (A4_l1 : Option Addr) (c4_l1 : Nat) (w : World), Sat w (rf w0) [osl 3 (r0 (.int .i64)) 1 A4_l1 c4_l1 x4_l1, omp .i64 .i64 b1 q3_l1] → docs_Back.l1 l0 k x4_l1 x15_l1 q3_l1 = some out → WL Try.prog (cbody (cbody (cr (cl (cr (cr (cr C18))))))) Q 39 [(3, .map (some b1)), (4, .slice A4_l1 x4_l1.length c4_l1), (13, .slice A0 l0.length c0), (14, .int .i64 (l0.length : Int)), (15, .int .i64 x15_l1)] w := by
  intro k
  induction k with
  | zero => intro x4_l1 x15_l1 q3_l1 A4_l1 c4_l1 w hS H; exact absurd (show none = some out from H) (by simp)
  | succ k ih =>
    intro x4_l1 x15_l1 q3_l1 A4_l1 c4_l1 w hS H
    unfold docs_Back.l1 at H
    refine WL.round ?_
    refine WC.seq (by kernel_rfl) ?_
    refine WC.reg [0] (by kernel_rfl) (by kernel_rfl) ?_
    refine WR.runk [0] [] [3, 4, 13, 14, 15, 16] (L' := [(3, .map (some b1)), (4, .slice A4_l1 x4_l1.length c4_l1), (13, .slice A0 l0.length c0), (14, .int .i64 (l0.length : Int)), (15, .int .i64 x15_l1), (16, .bool (decide (x15_l1 < (l0.length : Int))))]) (w' := w) (by kernel_rfl) ?_
    refine WR.nil ?_
    refine At.go ?_
    refine WC.seq (by kernel_rfl) ?_
    refine WC.cond (by kernel_rfl) (decide (x15_l1 < (l0.length : Int))) (by kernel_rfl) (by kernel_rfl) (fun hb9 => ?_) (fun hb9 => ?_)
    · replace H := ite_t H hb9
      refine WC.skip (by kernel_rfl) ?_
      refine At.go ?_
      refine WC.seq (by kernel_rfl) ?_
      refine WC.block (by kernel_rfl) ?_
      refine WC.seq (by kernel_rfl) ?_
      refine WC.reg [0, 1, 2, 3, 4] (by kernel_rfl) (by kernel_rfl) ?_
      refine WR.runk [0] [1, 2, 3, 4] [3, 4, 13, 14, 15, 17] (L' := [(3, .map (some b1)), (4, .slice A4_l1 x4_l1.length c4_l1), (13, .slice A0 l0.length c0), (14, .int .i64 (l0.length : Int)), (15, .int .i64 x15_l1), (17, .int .i64 x15_l1)]) (w' := w) (by kernel_rfl) ?_
      obtain ⟨v10, e11, H⟩ := bind_ex H
      refine WR.st (St.ofP (PSt.idx (k := .i64) (.tmp 13) (.tmp 15) (by kernel_rfl) (by kernel_rfl) E22 (by kernel_rfl) (by kernel_rfl) (rdS.up R0 hS.sub0) e11 ?_))
      refine WR.runk [] [2, 3, 4] [3, 4, 13, 14, 15, 17, 18] (L' := [(3, .map (some b1)), (4, .slice A4_l1 x4_l1.length c4_l1), (13, .slice A0 l0.length c0), (14, .int .i64 (l0.length : Int)), (15, .int .i64 x15_l1), (17, .int .i64 x15_l1), (18, .pointer (some (adr A0 x15_l1.toNat 1)))]) (w' := w) (by kernel_rfl) ?_
      refine WR.st (St.ofR (RSt.loadInt (t := 3) (.tmp 18) (by kernel_rfl) (by kernel_rfl) (by kernel_rfl) (by kernel_rfl) (rdS.up R0 hS.sub0) e11 ?_))
      refine WR.runk [3, 4] [] [3, 4, 5, 6, 13, 14, 15] (L' := [(3, .map (some b1)), (4, .slice A4_l1 x4_l1.length c4_l1), (5, .int .i64 x15_l1), (6, .int .i64 v10), (13, .slice A0 l0.length c0), (14, .int .i64 (l0.length : Int)), (15, .int .i64 x15_l1)]) (w' := w) (by kernel_rfl) ?_
      refine WR.nil ?_
      refine At.go ?_
      refine WC.seq (by kernel_rfl) ?_
      refine WC.seq (by kernel_rfl) ?_
      refine WC.reg [0, 1, 2, 3, 4, 5, 6, 7] (by kernel_rfl) (by kernel_rfl) ?_
      refine WR.runk [0, 1] [2, 3, 4, 5, 6, 7] [3, 4, 5, 6, 13, 14, 15, 21, 22] (L' := [(3, .map (some b1)), (4, .slice A4_l1 x4_l1.length c4_l1), (5, .int .i64 x15_l1), (6, .int .i64 v10), (13, .slice A0 l0.length c0), (14, .int .i64 (l0.length : Int)), (15, .int .i64 x15_l1), (21, .map (some b1)), (22, .int .i64 v10)]) (w' := w) (by kernel_rfl) ?_
      refine WR.st (St.ofR (RSt.lookup (t := 66) (kt := 3) (et := 3) (kk := .i64) (vk := .i64) (m := q3_l1) (k := v10) (.tmp 21) (.tmp 22) true (by kernel_rfl) (by kernel_rfl) (by kernel_rfl) (by kernel_rfl) (by kernel_rfl) 1 hS rfl (by kernel_rfl) (by kernel_rfl) ?_))
      refine WR.runk [3, 4, 5, 6, 7] [] [3, 4, 5, 6, 7, 8, 13, 14, 15] (L' := [(3, .map (some b1)), (4, .slice A4_l1 x4_l1.length c4_l1), (5, .int .i64 x15_l1), (6, .int .i64 v10), (7, .int .i64 ((mget q3_l1 v10).getD 0)), (8, .bool ((mget q3_l1 v10).isSome)), (13, .slice A0 l0.length c0), (14, .int .i64 (l0.length : Int)), (15, .int .i64 x15_l1)]) (w' := w) (by kernel_rfl) ?_
      refine WR.nil ?_
      refine At.go ?_
      refine WC.seq (by kernel_rfl) ?_
      refine WC.reg [0] (by kernel_rfl) (by kernel_rfl) ?_
      refine WR.runk [0] [] [3, 4, 5, 6, 7, 13, 14, 15, 26] (L' := [(3, .map (some b1)), (4, .slice A4_l1 x4_l1.length c4_l1), (5, .int .i64 x15_l1), (6, .int .i64 v10), (7, .int .i64 ((mget q3_l1 v10).getD 0)), (13, .slice A0 l0.length c0), (14, .int .i64 (l0.length : Int)), (15, .int .i64 x15_l1), (26, .bool ((mget q3_l1 v10).isSome))]) (w' := w) (by kernel_rfl) ?_
      refine WR.nil ?_
      refine At.go ?_
      refine WC.cond (by kernel_rfl) ((mget q3_l1 v10).isSome) (by kernel_rfl) (by kernel_rfl) (fun hb12 => ?_) (fun hb12 => ?_)
      · replace H := ite_t H hb12
        refine WC.reg [0, 1, 2, 3, 4] (by kernel_rfl) (by kernel_rfl) ?_
        refine WR.runk [0, 1, 2] [3, 4] [3, 4, 5, 6, 13, 14, 15, 27, 28, 29] (L' := [(3, .map (some b1)), (4, .slice A4_l1 x4_l1.length c4_l1), (5, .int .i64 x15_l1), (6, .int .i64 v10), (13, .slice A0 l0.length c0), (14, .int .i64 (l0.length : Int)), (15, .int .i64 x15_l1), (27, .slice A4_l1 x4_l1.length c4_l1), (28, .int .i64 x15_l1), (29, .int .i64 ((mget q3_l1 v10).getD 0))]) (w' := w) (by kernel_rfl) ?_
        obtain ⟨v13, e14, H⟩ := bind_ex H
        refine WR.st (St.ofP (PSt.idx (k := .i64) (.tmp 27) (.tmp 28) (by kernel_rfl) (by kernel_rfl) E22 (by kernel_rfl) (by kernel_rfl) (Sat.rdAt 0 hS rfl) e14 ?_))
        refine WR.runk [] [4] [3, 4, 5, 6, 13, 14, 15, 29, 30] (L' := [(3, .map (some b1)), (4, .slice A4_l1 x4_l1.length c4_l1), (5, .int .i64 x15_l1), (6, .int .i64 v10), (13, .slice A0 l0.length c0), (14, .int .i64 (l0.length : Int)), (15, .int .i64 x15_l1), (29, .int .i64 ((mget q3_l1 v10).getD 0)), (30, .pointer (some (adr A4_l1 x15_l1.toNat 1)))]) (w' := w) (by kernel_rfl) ?_
        obtain ⟨y15, e16, H⟩ := bind_ex H
        refine WR.st (St.storeElem' (t := 3) (.tmp 30) (.tmp 29) (by kernel_rfl) (by kernel_rfl) (by kernel_rfl) hS (by kernel_rfl) (by kernel_rfl) rfl e16 rfl (fun w17 hS => ?_))
        have hl18 := set?_len e16
        refine WR.know 4 (.slice A4_l1 y15.length c4_l1) (.slice A4_l1 x4_l1.length c4_l1) (by kernel_rfl) (by rw [hl18]) ?_
        refine WR.runk [] [] [3, 4, 5, 6, 13, 14, 15] (L' := [(3, .map (some b1)), (4, .slice A4_l1 y15.length c4_l1), (5, .int .i64 x15_l1), (6, .int .i64 v10), (13, .slice A0 l0.length c0), (14, .int .i64 (l0.length : Int)), (15, .int .i64 x15_l1)]) (w' := w17) (by kernel_rfl) ?_
        refine WR.nil ?_
        refine At.go ?_
        refine WC.reg [0, 1, 2, 3] (by kernel_rfl) (by kernel_rfl) ?_
        refine WR.runk [0, 1, 2] [3] [3, 4, 13, 14, 15, 34, 35, 36] (L' := [(3, .map (some b1)), (4, .slice A4_l1 y15.length c4_l1), (13, .slice A0 l0.length c0), (14, .int .i64 (l0.length : Int)), (15, .int .i64 x15_l1), (34, .map (some b1)), (35, .int .i64 v10), (36, .int .i64 x15_l1)]) (w' := w17) (by kernel_rfl) ?_
        have hS : Sat w17 (rf w0) [omp .i64 .i64 b1 q3_l1, osl 3 (r0 (.int .i64)) 1 A4_l1 c4_l1 y15] := hS.sel [1, 0] (by kernel_rfl)
        refine WR.st (St.mapUpdate (t := 66) (kt := 3) (et := 3) (m := q3_l1) (k := v10) (v := x15_l1) (.tmp 34) (.tmp 35) (.tmp 36) (by kernel_rfl) (by kernel_rfl) (by kernel_rfl) (by kernel_rfl) hS (by kernel_rfl) (by kernel_rfl) (by kernel_rfl) (fun w19 hS => ?_))
        refine WR.runk [] [] [3, 4, 13, 14, 15] (L' := [(3, .map (some b1)), (4, .slice A4_l1 y15.length c4_l1), (13, .slice A0 l0.length c0), (14, .int .i64 (l0.length : Int)), (15, .int .i64 x15_l1)]) (w' := w19) (by kernel_rfl) ?_
        refine WR.nil ?_
        refine At.blockNormal ?_
        refine At.go ?_
        refine WC.reg [0, 1] (by kernel_rfl) (by kernel_rfl) ?_
        refine WR.runk [0, 1] [] [3, 4, 13, 14, 15] (L' := [(3, .map (some b1)), (4, .slice A4_l1 y15.length c4_l1), (13, .slice A0 l0.length c0), (14, .int .i64 (l0.length : Int)), (15, .int .i64 (wi (x15_l1 + 1)))]) (w' := w19) (by kernel_rfl) ?_
        refine WR.nil ?_
        have hS : Sat w19 (rf w0) [osl 3 (r0 (.int .i64)) 1 A4_l1 c4_l1 y15, omp .i64 .i64 b1 (mset q3_l1 v10 x15_l1)] := hS.sel [1, 0] (by kernel_rfl)
        refine At.again ?_
        refine WL.weaken [3, 4, 13, 14, 15] (L' := [(3, .map (some b1)), (4, .slice A4_l1 y15.length c4_l1), (13, .slice A0 l0.length c0), (14, .int .i64 (l0.length : Int)), (15, .int .i64 (wi (x15_l1 + 1)))]) (by kernel_rfl) ?_
        exact ih y15 (wi (x15_l1 + 1)) (mset q3_l1 v10 x15_l1) A4_l1 c4_l1 _ hS H
      · replace H := ite_f H hb12
        refine WC.reg [0, 1, 2, 3] (by kernel_rfl) (by kernel_rfl) ?_
        refine WR.runk [0, 1] [2, 3] [3, 4, 5, 6, 13, 14, 15, 31, 32] (L' := [(3, .map (some b1)), (4, .slice A4_l1 x4_l1.length c4_l1), (5, .int .i64 x15_l1), (6, .int .i64 v10), (13, .slice A0 l0.length c0), (14, .int .i64 (l0.length : Int)), (15, .int .i64 x15_l1), (31, .slice A4_l1 x4_l1.length c4_l1), (32, .int .i64 x15_l1)]) (w' := w) (by kernel_rfl) ?_
        obtain ⟨v20, e21, H⟩ := bind_ex H
        refine WR.st (St.ofP (PSt.idx (k := .i64) (.tmp 31) (.tmp 32) (by kernel_rfl) (by kernel_rfl) E22 (by kernel_rfl) (by kernel_rfl) (Sat.rdAt 0 hS rfl) e21 ?_))
        refine WR.runk [] [3] [3, 4, 5, 6, 13, 14, 15, 33] (L' := [(3, .map (some b1)), (4, .slice A4_l1 x4_l1.length c4_l1), (5, .int .i64 x15_l1), (6, .int .i64 v10), (13, .slice A0 l0.length c0), (14, .int .i64 (l0.length : Int)), (15, .int .i64 x15_l1), (33, .pointer (some (adr A4_l1 x15_l1.toNat 1)))]) (w' := w) (by kernel_rfl) ?_
        obtain ⟨y22, e23, H⟩ := bind_ex H
        refine WR.st (St.storeElem' (t := 3) (.tmp 33) (.const (.int .i64 (-1))) (by kernel_rfl) (by kernel_rfl) (by kernel_rfl) hS (by kernel_rfl) (by kernel_rfl) rfl e23 rfl (fun w24 hS => ?_))
        have hl25 := set?_len e23
        refine WR.know 4 (.slice A4_l1 y22.length c4_l1) (.slice A4_l1 x4_l1.length c4_l1) (by kernel_rfl) (by rw [hl25]) ?_
        refine WR.runk [] [] [3, 4, 5, 6, 13, 14, 15] (L' := [(3, .map (some b1)), (4, .slice A4_l1 y22.length c4_l1), (5, .int .i64 x15_l1), (6, .int .i64 v10), (13, .slice A0 l0.length c0), (14, .int .i64 (l0.length : Int)), (15, .int .i64 x15_l1)]) (w' := w24) (by kernel_rfl) ?_
        refine WR.nil ?_
        refine At.go ?_
        refine WC.reg [0, 1, 2, 3] (by kernel_rfl) (by kernel_rfl) ?_
        refine WR.runk [0, 1, 2] [3] [3, 4, 13, 14, 15, 34, 35, 36] (L' := [(3, .map (some b1)), (4, .slice A4_l1 y22.length c4_l1), (13, .slice A0 l0.length c0), (14, .int .i64 (l0.length : Int)), (15, .int .i64 x15_l1), (34, .map (some b1)), (35, .int .i64 v10), (36, .int .i64 x15_l1)]) (w' := w24) (by kernel_rfl) ?_
        have hS : Sat w24 (rf w0) [omp .i64 .i64 b1 q3_l1, osl 3 (r0 (.int .i64)) 1 A4_l1 c4_l1 y22] := hS.sel [1, 0] (by kernel_rfl)
        refine WR.st (St.mapUpdate (t := 66) (kt := 3) (et := 3) (m := q3_l1) (k := v10) (v := x15_l1) (.tmp 34) (.tmp 35) (.tmp 36) (by kernel_rfl) (by kernel_rfl) (by kernel_rfl) (by kernel_rfl) hS (by kernel_rfl) (by kernel_rfl) (by kernel_rfl) (fun w26 hS => ?_))
        refine WR.runk [] [] [3, 4, 13, 14, 15] (L' := [(3, .map (some b1)), (4, .slice A4_l1 y22.length c4_l1), (13, .slice A0 l0.length c0), (14, .int .i64 (l0.length : Int)), (15, .int .i64 x15_l1)]) (w' := w26) (by kernel_rfl) ?_
        refine WR.nil ?_
        refine At.blockNormal ?_
        refine At.go ?_
        refine WC.reg [0, 1] (by kernel_rfl) (by kernel_rfl) ?_
        refine WR.runk [0, 1] [] [3, 4, 13, 14, 15] (L' := [(3, .map (some b1)), (4, .slice A4_l1 y22.length c4_l1), (13, .slice A0 l0.length c0), (14, .int .i64 (l0.length : Int)), (15, .int .i64 (wi (x15_l1 + 1)))]) (w' := w26) (by kernel_rfl) ?_
        refine WR.nil ?_
        have hS : Sat w26 (rf w0) [osl 3 (r0 (.int .i64)) 1 A4_l1 c4_l1 y22, omp .i64 .i64 b1 (mset q3_l1 v10 x15_l1)] := hS.sel [1, 0] (by kernel_rfl)
        refine At.again ?_
        refine WL.weaken [3, 4, 13, 14, 15] (L' := [(3, .map (some b1)), (4, .slice A4_l1 y22.length c4_l1), (13, .slice A0 l0.length c0), (14, .int .i64 (l0.length : Int)), (15, .int .i64 (wi (x15_l1 + 1)))]) (by kernel_rfl) ?_
        exact ih y22 (wi (x15_l1 + 1)) (mset q3_l1 v10 x15_l1) A4_l1 c4_l1 _ hS H
    · replace H := ite_f H hb9
      refine WC.exit (by kernel_rfl) ?_
      refine At.thenExit ?_
      refine At.thenExit ?_
      obtain rfl := Option.some.inj H
      have hS : Sat w (rf w0) [osl 3 (r0 (.int .i64)) 1 A4_l1 c4_l1 x4_l1, omp .i64 .i64 b1 q3_l1] := hS.sel [0, 1] (by kernel_rfl)
      refine At.weaken [4] (L' := [(4, .slice A4_l1 x4_l1.length c4_l1)]) (by kernel_rfl) ?_
      exact hn0 A4_l1 c4_l1 _ hS
theorem docs_Back.calls (w0 : World) (A0 : Option Addr) (c0 : Nat) (l0 : List Int) (R0 : rdS (r0 (.int .i64)) 1 (hp w0) A0 c0 l0) (r : (List Int)) (H : docs_Back.f l0 = some r) :
    Calls Try.prog 18 #[.slice A0 l0.length c0] w0 (fun e w' => ∃ v, e = .returned v ∧ docs_Back.post w0 r v w') := by
  have hS : Sat w0 (rf w0) [] := Sat.start w0
  unfold docs_Back.f at H
  refine calls_of_WC (vs := [.slice A0 l0.length c0]) Try.func18 (c := C18) (n := 39) (by kernel_rfl) (by kernel_rfl) (by kernel_rfl) ?_
  refine WC.seq (by kernel_rfl) ?_
  refine WC.reg [0] (by kernel_rfl) (by kernel_rfl) ?_
  refine WR.runk [0] [] [0] (L' := [(0, .slice A0 l0.length c0)]) (w' := w0) (by kernel_rfl) ?_
  refine WR.nil ?_
  refine At.go ?_
  refine WC.seq (by kernel_rfl) ?_
  refine WC.reg [0, 1] (by kernel_rfl) (by kernel_rfl) ?_
  refine WR.st (St.box hS (by kernel_rfl) (.map #[] 0) (fun b1 => .map (some b1)) (fun _ => by kernel_rfl) (fun b1 w2 hS => ?_))
  have hS : Sat w2 (rf w0) [omp .i64 .i64 b1 ([] : List (Int × Int))] := omp.ofNew hS
  refine WR.runk [1] [] [0, 3] (L' := [(0, .slice A0 l0.length c0), (3, .map (some b1))]) (w' := w2) (by kernel_rfl) ?_
  refine WR.nil ?_
  refine At.go ?_
  refine WC.seq (by kernel_rfl) ?_
  refine WC.reg [0, 1, 2, 3] (by kernel_rfl) (by kernel_rfl) ?_
  refine WR.runk [0, 1] [2, 3] [0, 3, 11] (L' := [(0, .slice A0 l0.length c0), (3, .map (some b1)), (11, .int .i64 (l0.length : Int))]) (w' := w2) (by kernel_rfl) ?_
  obtain ⟨y4, e5, H⟩ := bind_ex H
  refine WR.st (St.make' (t := 22) (e := 3) (sz := 1) (bytes := 8) (k1 := .i64) (k2 := .i64) (R := (r0 (.int .i64))) (.tmp 11) (.tmp 11) (by kernel_rfl) (by kernel_rfl) (.int .i64 0) (by kernel_rfl) (by kernel_rfl) rfl (by kernel_rfl) hS (by kernel_rfl) (by kernel_rfl) 17592186044416 (by kernel_rfl) (by kernel_rfl) e5 (fun A6 c7 w8 hS => ?_))
  refine WR.runk [3] [] [0, 3, 4] (L' := [(0, .slice A0 l0.length c0), (3, .map (some b1)), (4, .slice A6 y4.length c7)]) (w' := w8) (by kernel_rfl) ?_
  refine WR.nil ?_
  refine At.go ?_
  refine WC.seq (by kernel_rfl) ?_
  refine WC.seq (by kernel_rfl) ?_
  refine WC.reg [0, 1, 2] (by kernel_rfl) (by kernel_rfl) ?_
  refine WR.runk [0, 1, 2] [] [3, 4, 13, 14, 15] (L' := [(3, .map (some b1)), (4, .slice A6 y4.length c7), (13, .slice A0 l0.length c0), (14, .int .i64 (l0.length : Int)), (15, .int .i64 0)]) (w' := w8) (by kernel_rfl) ?_
  refine WR.nil ?_
  refine At.go ?_
  refine WC.block (by kernel_rfl) ?_
  have hS : Sat w8 (rf w0) [osl 3 (r0 (.int .i64)) 1 A6 c7 y4, omp .i64 .i64 b1 ([] : List (Int × Int))] := hS.sel [0, 1] (by kernel_rfl)
  obtain ⟨o27, e28, H⟩ := bind_ex H
  refine WC.loop (by kernel_rfl) ?_
  refine WL.weaken [3, 4, 13, 14, 15] (L' := [(3, .map (some b1)), (4, .slice A6 y4.length c7), (13, .slice A0 l0.length c0), (14, .int .i64 (l0.length : Int)), (15, .int .i64 0)]) (by kernel_rfl) ?_
  refine docs_Back.l1_ok w0 A0 c0 l0 b1 R0 o27 (fun A4_q29 c4_q29 w30 hS => ?_) FU y4 0 ([] : List (Int × Int)) A6 c7 _ hS e28
  refine At.hit ?_
  refine At.go ?_
  refine WC.seq (by kernel_rfl) ?_
  refine WC.reg [0, 1] (by kernel_rfl) (by kernel_rfl) ?_
  refine WR.runk [0, 1] [] [2] (L' := [(2, .slice A4_q29 o27.1.length c4_q29)]) (w' := w30) (by kernel_rfl) ?_
  refine WR.nil ?_
  refine At.go ?_
  refine WC.ret (by kernel_rfl) ?_
  obtain rfl := Option.some.inj H
  have hS : Sat w30 (rf w0) [osl 3 (r0 (.int .i64)) 1 A4_q29 c4_q29 o27.1] := hS.sel [0] (by kernel_rfl)
  exact At.body [.slice A4_q29 o27.1.length c4_q29] (by kernel_rfl) ⟨_, rfl, _, _, rfl, hS⟩
/-! ### 31 (*colophon/rmq.Table).Len -/
def rmq_Table_Len.f (p0 : Option ((List Int) × (List (List Int)))) : Option Int := (match p0 with | none => some 0 | some y3 => some (y3.1.length : Int))
def rmq_Table_Len.post (w : World) (r : Int) (v : Value) (w' : World) : Prop := v = (.int .i64 r : Value) ∧ Sat w' (rf w) []
theorem rmq_Table_Len.calls (w0 : World) (v0 : Value) (p0 : Option ((List Int) × (List (List Int)))) (R0 : rd (hp w0) (.ptr 65 (.pair (.slice 3 (.int .i64)) (.slice 22 (.slice 3 (.int .i64))))) [v0] p0) (r : Int) (H : rmq_Table_Len.f p0 = some r) :
    Calls Try.prog 31 #[v0] w0 (fun e w' => ∃ v, e = .returned v ∧ rmq_Table_Len.post w0 r v w') := by
  have hS : Sat w0 (rf w0) [] := Sat.start w0
  unfold rmq_Table_Len.f at H
  refine calls_of_WC (vs := [v0]) Try.func31 (c := C31) (n := 10) (by kernel_rfl) (by kernel_rfl) (by kernel_rfl) ?_
  refine WC.seq (by kernel_rfl) ?_
  refine WC.reg [0] (by kernel_rfl) (by kernel_rfl) ?_
  refine WR.runk [0] [] [0] (L' := [(0, v0)]) (w' := w0) (by kernel_rfl) ?_
  refine WR.nil ?_
  refine At.go ?_
  refine WC.seq (by kernel_rfl) ?_
  refine WC.seq (by kernel_rfl) ?_
  refine WC.reg [0, 1] (by kernel_rfl) (by kernel_rfl) ?_
  refine WR.runk [0] [1] [0, 3] (L' := [(0, v0), (3, v0)]) (w' := w0) (by kernel_rfl) ?_
  rcases opt_cases p0 with hr1 | ⟨y3, hr1⟩
  · rw [hr1] at H
    dsimp only at H
    have hx2 := rd_ptr_none R0 hr1
    try subst hx2
    refine WR.runk [1] [] [0, 4] (L' := [(0, .pointer none), (4, .bool true)]) (w' := w0) (by kernel_rfl) ?_
    refine WR.nil ?_
    refine At.go ?_
    refine WC.condT (by kernel_rfl) (by kernel_rfl) (by kernel_rfl) ?_
    refine WC.seq (by kernel_rfl) ?_
    refine WC.reg [0] (by kernel_rfl) (by kernel_rfl) ?_
    refine WR.runk [0] [] [2] (L' := [(2, .int .i64 0)]) (w' := w0) (by kernel_rfl) ?_
    refine WR.nil ?_
    refine At.go ?_
    refine WC.ret (by kernel_rfl) ?_
    refine At.thenRet ?_
    obtain rfl := Option.some.inj H
    have hS : Sat w0 (rf w0) [] := hS.sel [] (by kernel_rfl)
    exact At.body [.int .i64 0] (by kernel_rfl) ⟨_, rfl, rfl, hS⟩
  · rw [hr1] at H
    dsimp only at H
    obtain ⟨b4, fr5, A9, c10, A12, c13, hv6, hb7, R11, R14⟩ := P65.open R0 hr1
    have R8 := R0
    rw [hv6, hr1] at R8
    try subst hv6
    replace R11 : rdS (r0 (.int .i64)) 1 (hp w0) A9 c10 y3.1 := R11
    replace R14 : rdS (rd (hp w0) (.slice 3 (.int .i64))) 1 (hp w0) A12 c13 y3.2 := R14
    refine WR.runk [1] [] [0, 4] (L' := [(0, .pointer (some ⟨b4, 0, none⟩)), (4, .bool false)]) (w' := w0) (by kernel_rfl) ?_
    refine WR.nil ?_
    refine At.go ?_
    refine WC.condF (by kernel_rfl) (by kernel_rfl) (by kernel_rfl) ?_
    refine WC.skip (by kernel_rfl) ?_
    refine At.go ?_
    refine WC.seq (by kernel_rfl) ?_
    refine WC.reg [0, 1, 2, 3, 4, 5] (by kernel_rfl) (by kernel_rfl) ?_
    refine WR.runk [0, 1, 2] [3, 4, 5] [7] (L' := [(7, .pointer (some ⟨b4, 0, none⟩))]) (w' := w0) (by kernel_rfl) ?_
    refine WR.st (St.ofR (RSt.loadRo (t := 22) (k := 0) (v := .slice A9 y3.1.length c10) (.tmp 7) (by kernel_rfl) (by kernel_rfl) (by kernel_rfl) hS.sub0 hb7 (by kernel_rfl) rfl ?_))
    refine WR.runk [4, 5] [] [2] (L' := [(2, .int .i64 (y3.1.length : Int))]) (w' := w0) (by kernel_rfl) ?_
    refine WR.nil ?_
    refine At.go ?_
    refine WC.ret (by kernel_rfl) ?_
    obtain rfl := Option.some.inj H
    have hS : Sat w0 (rf w0) [] := hS.sel [] (by kernel_rfl)
    exact At.body [.int .i64 (y3.1.length : Int)] (by kernel_rfl) ⟨_, rfl, rfl, hS⟩
/-! ### 43 math/bits.Len64 -/
def bits_Len64.f (a0 : Int) : Option Int := (if decide (a0 ≥ 4294967296) then (if decide (ishr .u64 a0 32 ≥ 65536) then (if decide (ishr .u64 (ishr .u64 a0 32) 16 ≥ 256) then ((chr? (⟨#[0, 1, 2, 2, 3, 3, 3, 3, 4, 4, 4, 4, 4, 4, 4, 4, 5, 5, 5, 5, 5, 5, 5, 5, 5, 5, 5, 5, 5, 5, 5, 5, 6, 6, 6, 6, 6, 6, 6, 6, 6, 6, 6, 6, 6, 6, 6, 6, 6, 6, 6, 6, 6, 6, 6, 6, 6, 6, 6, 6, 6, 6, 6, 6, 7, 7, 7, 7, 7, 7, 7, 7, 7, 7, 7, 7, 7, 7, 7, 7, 7, 7, 7, 7, 7, 7, 7, 7, 7, 7, 7, 7, 7, 7, 7, 7, 7, 7, 7, 7, 7, 7, 7, 7, 7, 7, 7, 7, 7, 7, 7, 7, 7, 7, 7, 7, 7, 7, 7, 7, 7, 7, 7, 7, 7, 7, 7, 7, 8, 8, 8, 8, 8, 8, 8, 8, 8, 8, 8, 8, 8, 8, 8, 8, 8, 8, 8, 8, 8, 8, 8, 8, 8, 8, 8, 8, 8, 8, 8, 8, 8, 8, 8, 8, 8, 8, 8, 8, 8, 8, 8, 8, 8, 8, 8, 8, 8, 8, 8, 8, 8, 8, 8, 8, 8, 8, 8, 8, 8, 8, 8, 8, 8, 8, 8, 8, 8, 8, 8, 8, 8, 8, 8, 8, 8, 8, 8, 8, 8, 8, 8, 8, 8, 8, 8, 8, 8, 8, 8, 8, 8, 8, 8, 8, 8, 8, 8, 8, 8, 8, 8, 8, 8, 8, 8, 8, 8, 8, 8, 8, 8, 8, 8, 8, 8, 8, 8, 8, 8, 8, 8, 8, 8, 8, 8, 8]⟩ : ByteArray) (IntKind.wrap .u8 (ishr .u64 (ishr .u64 (ishr .u64 a0 32) 16) 8))).bind fun v4 => some (wi ((wi ((wi (32 + 16)) + 8)) + (wi v4)))) else ((chr? (⟨#[0, 1, 2, 2, 3, 3, 3, 3, 4, 4, 4, 4, 4, 4, 4, 4, 5, 5, 5, 5, 5, 5, 5, 5, 5, 5, 5, 5, 5, 5, 5, 5, 6, 6, 6, 6, 6, 6, 6, 6, 6, 6, 6, 6, 6, 6, 6, 6, 6, 6, 6, 6, 6, 6, 6, 6, 6, 6, 6, 6, 6, 6, 6, 6, 7, 7, 7, 7, 7, 7, 7, 7, 7, 7, 7, 7, 7, 7, 7, 7, 7, 7, 7, 7, 7, 7, 7, 7, 7, 7, 7, 7, 7, 7, 7, 7, 7, 7, 7, 7, 7, 7, 7, 7, 7, 7, 7, 7, 7, 7, 7, 7, 7, 7, 7, 7, 7, 7, 7, 7, 7, 7, 7, 7, 7, 7, 7, 7, 8, 8, 8, 8, 8, 8, 8, 8, 8, 8, 8, 8, 8, 8, 8, 8, 8, 8, 8, 8, 8, 8, 8, 8, 8, 8, 8, 8, 8, 8, 8, 8, 8, 8, 8, 8, 8, 8, 8, 8, 8, 8, 8, 8, 8, 8, 8, 8, 8, 8, 8, 8, 8, 8, 8, 8, 8, 8, 8, 8, 8, 8, 8, 8, 8, 8, 8, 8, 8, 8, 8, 8, 8, 8, 8, 8, 8, 8, 8, 8, 8, 8, 8, 8, 8, 8, 8, 8, 8, 8, 8, 8, 8, 8, 8, 8, 8, 8, 8, 8, 8, 8, 8, 8, 8, 8, 8, 8, 8, 8, 8, 8, 8, 8, 8, 8, 8, 8, 8, 8, 8, 8, 8, 8, 8, 8, 8, 8]⟩ : ByteArray) (IntKind.wrap .u8 (ishr .u64 (ishr .u64 a0 32) 16))).bind fun v6 => some (wi ((wi (32 + 16)) + (wi v6))))) else (if decide (ishr .u64 a0 32 ≥ 256) then ((chr? (⟨#[0, 1, 2, 2, 3, 3, 3, 3, 4, 4, 4, 4, 4, 4, 4, 4, 5, 5, 5, 5, 5, 5, 5, 5, 5, 5, 5, 5, 5, 5, 5, 5, 6, 6, 6, 6, 6, 6, 6, 6, 6, 6, 6, 6, 6, 6, 6, 6, 6, 6, 6, 6, 6, 6, 6, 6, 6, 6, 6, 6, 6, 6, 6, 6, 7, 7, 7, 7, 7, 7, 7, 7, 7, 7, 7, 7, 7, 7, 7, 7, 7, 7, 7, 7, 7, 7, 7, 7, 7, 7, 7, 7, 7, 7, 7, 7, 7, 7, 7, 7, 7, 7, 7, 7, 7, 7, 7, 7, 7, 7, 7, 7, 7, 7, 7, 7, 7, 7, 7, 7, 7, 7, 7, 7, 7, 7, 7, 7, 8, 8, 8, 8, 8, 8, 8, 8, 8, 8, 8, 8, 8, 8, 8, 8, 8, 8, 8, 8, 8, 8, 8, 8, 8, 8, 8, 8, 8, 8, 8, 8, 8, 8, 8, 8, 8, 8, 8, 8, 8, 8, 8, 8, 8, 8, 8, 8, 8, 8, 8, 8, 8, 8, 8, 8, 8, 8, 8, 8, 8, 8, 8, 8, 8, 8, 8, 8, 8, 8, 8, 8, 8, 8, 8, 8, 8, 8, 8, 8, 8, 8, 8, 8, 8, 8, 8, 8, 8, 8, 8, 8, 8, 8, 8, 8, 8, 8, 8, 8, 8, 8, 8, 8, 8, 8, 8, 8, 8, 8, 8, 8, 8, 8, 8, 8, 8, 8, 8, 8, 8, 8, 8, 8, 8, 8, 8, 8]⟩ : ByteArray) (IntKind.wrap .u8 (ishr .u64 (ishr .u64 a0 32) 8))).bind fun v9 => some (wi ((wi (32 + 8)) + (wi v9)))) else ((chr? (⟨#[0, 1, 2, 2, 3, 3, 3, 3, 4, 4, 4, 4, 4, 4, 4, 4, 5, 5, 5, 5, 5, 5, 5, 5, 5, 5, 5, 5, 5, 5, 5, 5, 6, 6, 6, 6, 6, 6, 6, 6, 6, 6, 6, 6, 6, 6, 6, 6, 6, 6, 6, 6, 6, 6, 6, 6, 6, 6, 6, 6, 6, 6, 6, 6, 7, 7, 7, 7, 7, 7, 7, 7, 7, 7, 7, 7, 7, 7, 7, 7, 7, 7, 7, 7, 7, 7, 7, 7, 7, 7, 7, 7, 7, 7, 7, 7, 7, 7, 7, 7, 7, 7, 7, 7, 7, 7, 7, 7, 7, 7, 7, 7, 7, 7, 7, 7, 7, 7, 7, 7, 7, 7, 7, 7, 7, 7, 7, 7, 8, 8, 8, 8, 8, 8, 8, 8, 8, 8, 8, 8, 8, 8, 8, 8, 8, 8, 8, 8, 8, 8, 8, 8, 8, 8, 8, 8, 8, 8, 8, 8, 8, 8, 8, 8, 8, 8, 8, 8, 8, 8, 8, 8, 8, 8, 8, 8, 8, 8, 8, 8, 8, 8, 8, 8, 8, 8, 8, 8, 8, 8, 8, 8, 8, 8, 8, 8, 8, 8, 8, 8, 8, 8, 8, 8, 8, 8, 8, 8, 8, 8, 8, 8, 8, 8, 8, 8, 8, 8, 8, 8, 8, 8, 8, 8, 8, 8, 8, 8, 8, 8, 8, 8, 8, 8, 8, 8, 8, 8, 8, 8, 8, 8, 8, 8, 8, 8, 8, 8, 8, 8, 8, 8, 8, 8, 8, 8]⟩ : ByteArray) (IntKind.wrap .u8 (ishr .u64 a0 32))).bind fun v11 => some (wi (32 + (wi v11)))))) else (if decide (a0 ≥ 65536) then (if decide (ishr .u64 a0 16 ≥ 256) then ((chr? (⟨#[0, 1, 2, 2, 3, 3, 3, 3, 4, 4, 4, 4, 4, 4, 4, 4, 5, 5, 5, 5, 5, 5, 5, 5, 5, 5, 5, 5, 5, 5, 5, 5, 6, 6, 6, 6, 6, 6, 6, 6, 6, 6, 6, 6, 6, 6, 6, 6, 6, 6, 6, 6, 6, 6, 6, 6, 6, 6, 6, 6, 6, 6, 6, 6, 7, 7, 7, 7, 7, 7, 7, 7, 7, 7, 7, 7, 7, 7, 7, 7, 7, 7, 7, 7, 7, 7, 7, 7, 7, 7, 7, 7, 7, 7, 7, 7, 7, 7, 7, 7, 7, 7, 7, 7, 7, 7, 7, 7, 7, 7, 7, 7, 7, 7, 7, 7, 7, 7, 7, 7, 7, 7, 7, 7, 7, 7, 7, 7, 8, 8, 8, 8, 8, 8, 8, 8, 8, 8, 8, 8, 8, 8, 8, 8, 8, 8, 8, 8, 8, 8, 8, 8, 8, 8, 8, 8, 8, 8, 8, 8, 8, 8, 8, 8, 8, 8, 8, 8, 8, 8, 8, 8, 8, 8, 8, 8, 8, 8, 8, 8, 8, 8, 8, 8, 8, 8, 8, 8, 8, 8, 8, 8, 8, 8, 8, 8, 8, 8, 8, 8, 8, 8, 8, 8, 8, 8, 8, 8, 8, 8, 8, 8, 8, 8, 8, 8, 8, 8, 8, 8, 8, 8, 8, 8, 8, 8, 8, 8, 8, 8, 8, 8, 8, 8, 8, 8, 8, 8, 8, 8, 8, 8, 8, 8, 8, 8, 8, 8, 8, 8, 8, 8, 8, 8, 8, 8]⟩ : ByteArray) (IntKind.wrap .u8 (ishr .u64 (ishr .u64 a0 16) 8))).bind fun v15 => some (wi ((wi ((wi (0 + 16)) + 8)) + (wi v15)))) else ((chr? (⟨#[0, 1, 2, 2, 3, 3, 3, 3, 4, 4, 4, 4, 4, 4, 4, 4, 5, 5, 5, 5, 5, 5, 5, 5, 5, 5, 5, 5, 5, 5, 5, 5, 6, 6, 6, 6, 6, 6, 6, 6, 6, 6, 6, 6, 6, 6, 6, 6, 6, 6, 6, 6, 6, 6, 6, 6, 6, 6, 6, 6, 6, 6, 6, 6, 7, 7, 7, 7, 7, 7, 7, 7, 7, 7, 7, 7, 7, 7, 7, 7, 7, 7, 7, 7, 7, 7, 7, 7, 7, 7, 7, 7, 7, 7, 7, 7, 7, 7, 7, 7, 7, 7, 7, 7, 7, 7, 7, 7, 7, 7, 7, 7, 7, 7, 7, 7, 7, 7, 7, 7, 7, 7, 7, 7, 7, 7, 7, 7, 8, 8, 8, 8, 8, 8, 8, 8, 8, 8, 8, 8, 8, 8, 8, 8, 8, 8, 8, 8, 8, 8, 8, 8, 8, 8, 8, 8, 8, 8, 8, 8, 8, 8, 8, 8, 8, 8, 8, 8, 8, 8, 8, 8, 8, 8, 8, 8, 8, 8, 8, 8, 8, 8, 8, 8, 8, 8, 8, 8, 8, 8, 8, 8, 8, 8, 8, 8, 8, 8, 8, 8, 8, 8, 8, 8, 8, 8, 8, 8, 8, 8, 8, 8, 8, 8, 8, 8, 8, 8, 8, 8, 8, 8, 8, 8, 8, 8, 8, 8, 8, 8, 8, 8, 8, 8, 8, 8, 8, 8, 8, 8, 8, 8, 8, 8, 8, 8, 8, 8, 8, 8, 8, 8, 8, 8, 8, 8]⟩ : ByteArray) (IntKind.wrap .u8 (ishr .u64 a0 16))).bind fun v17 => some (wi ((wi (0 + 16)) + (wi v17))))) else (if decide (a0 ≥ 256) then ((chr? (⟨#[0, 1, 2, 2, 3, 3, 3, 3, 4, 4, 4, 4, 4, 4, 4, 4, 5, 5, 5, 5, 5, 5, 5, 5, 5, 5, 5, 5, 5, 5, 5, 5, 6, 6, 6, 6, 6, 6, 6, 6, 6, 6, 6, 6, 6, 6, 6, 6, 6, 6, 6, 6, 6, 6, 6, 6, 6, 6, 6, 6, 6, 6, 6, 6, 7, 7, 7, 7, 7, 7, 7, 7, 7, 7, 7, 7, 7, 7, 7, 7, 7, 7, 7, 7, 7, 7, 7, 7, 7, 7, 7, 7, 7, 7, 7, 7, 7, 7, 7, 7, 7, 7, 7, 7, 7, 7, 7, 7, 7, 7, 7, 7, 7, 7, 7, 7, 7, 7, 7, 7, 7, 7, 7, 7, 7, 7, 7, 7, 8, 8, 8, 8, 8, 8, 8, 8, 8, 8, 8, 8, 8, 8, 8, 8, 8, 8, 8, 8, 8, 8, 8, 8, 8, 8, 8, 8, 8, 8, 8, 8, 8, 8, 8, 8, 8, 8, 8, 8, 8, 8, 8, 8, 8, 8, 8, 8, 8, 8, 8, 8, 8, 8, 8, 8, 8, 8, 8, 8, 8, 8, 8, 8, 8, 8, 8, 8, 8, 8, 8, 8, 8, 8, 8, 8, 8, 8, 8, 8, 8, 8, 8, 8, 8, 8, 8, 8, 8, 8, 8, 8, 8, 8, 8, 8, 8, 8, 8, 8, 8, 8, 8, 8, 8, 8, 8, 8, 8, 8, 8, 8, 8, 8, 8, 8, 8, 8, 8, 8, 8, 8, 8, 8, 8, 8, 8, 8]⟩ : ByteArray) (IntKind.wrap .u8 (ishr .u64 a0 8))).bind fun v20 => some (wi ((wi (0 + 8)) + (wi v20)))) else ((chr? (⟨#[0, 1, 2, 2, 3, 3, 3, 3, 4, 4, 4, 4, 4, 4, 4, 4, 5, 5, 5, 5, 5, 5, 5, 5, 5, 5, 5, 5, 5, 5, 5, 5, 6, 6, 6, 6, 6, 6, 6, 6, 6, 6, 6, 6, 6, 6, 6, 6, 6, 6, 6, 6, 6, 6, 6, 6, 6, 6, 6, 6, 6, 6, 6, 6, 7, 7, 7, 7, 7, 7, 7, 7, 7, 7, 7, 7, 7, 7, 7, 7, 7, 7, 7, 7, 7, 7, 7, 7, 7, 7, 7, 7, 7, 7, 7, 7, 7, 7, 7, 7, 7, 7, 7, 7, 7, 7, 7, 7, 7, 7, 7, 7, 7, 7, 7, 7, 7, 7, 7, 7, 7, 7, 7, 7, 7, 7, 7, 7, 8, 8, 8, 8, 8, 8, 8, 8, 8, 8, 8, 8, 8, 8, 8, 8, 8, 8, 8, 8, 8, 8, 8, 8, 8, 8, 8, 8, 8, 8, 8, 8, 8, 8, 8, 8, 8, 8, 8, 8, 8, 8, 8, 8, 8, 8, 8, 8, 8, 8, 8, 8, 8, 8, 8, 8, 8, 8, 8, 8, 8, 8, 8, 8, 8, 8, 8, 8, 8, 8, 8, 8, 8, 8, 8, 8, 8, 8, 8, 8, 8, 8, 8, 8, 8, 8, 8, 8, 8, 8, 8, 8, 8, 8, 8, 8, 8, 8, 8, 8, 8, 8, 8, 8, 8, 8, 8, 8, 8, 8, 8, 8, 8, 8, 8, 8, 8, 8, 8, 8, 8, 8, 8, 8, 8, 8, 8, 8]⟩ : ByteArray) (IntKind.wrap .u8 a0)).bind fun v22 => some (wi (0 + (wi v22)))))))
def bits_Len64.post (w : World) (r : Int) (v : Value) (w' : World) : Prop := v = (.int .i64 r : Value) ∧ Sat w' (rf w) []
theorem bits_Len64.calls (w0 : World) (a0 : Int) (r : Int) (H : bits_Len64.f a0 = some r) :
    Calls Try.prog 43 #[.int .u64 a0] w0 (fun e w' => ∃ v, e = .returned v ∧ bits_Len64.post w0 r v w') := by
  have hS : Sat w0 (rf w0) [] := Sat.start w0
  unfold bits_Len64.f at H
  refine calls_of_WC (vs := [.int .u64 a0]) Try.func43 (c := C43) (n := 25) (by kernel_rfl) (by kernel_rfl) (by kernel_rfl) ?_
  refine WC.seq (by kernel_rfl) ?_
  refine WC.reg [0] (by kernel_rfl) (by kernel_rfl) ?_
  refine WR.runk [0] [] [0, 2] (L' := [(0, .int .u64 a0), (2, .int .i64 0)]) (w' := w0) (by kernel_rfl) ?_
  refine WR.nil ?_
  refine At.go ?_
  refine WC.seq (by kernel_rfl) ?_
  refine WC.seq (by kernel_rfl) ?_
  refine WC.reg [0, 1] (by kernel_rfl) (by kernel_rfl) ?_
  refine WR.runk [0, 1] [] [0, 2, 4] (L' := [(0, .int .u64 a0), (2, .int .i64 0), (4, .bool (decide (a0 ≥ 4294967296)))]) (w' := w0) (by kernel_rfl) ?_
  refine WR.nil ?_
  refine At.go ?_
  refine WC.cond (by kernel_rfl) (decide (a0 ≥ 4294967296)) (by kernel_rfl) (by kernel_rfl) (fun hb1 => ?_) (fun hb1 => ?_)
  · replace H := ite_t H hb1
    refine WC.seq (by kernel_rfl) ?_
    refine WC.reg [0, 1, 2] (by kernel_rfl) (by kernel_rfl) ?_
    refine WR.runk [0, 1, 2] [] [0] (L' := [(0, .int .u64 (ishr .u64 a0 32))]) (w' := w0) (by kernel_rfl) ?_
    refine WR.nil ?_
    refine At.go ?_
    refine WC.reg [0] (by kernel_rfl) (by kernel_rfl) ?_
    refine WR.runk [0] [] [0, 2] (L' := [(0, .int .u64 (ishr .u64 a0 32)), (2, .int .i64 32)]) (w' := w0) (by kernel_rfl) ?_
    refine WR.nil ?_
    refine At.go ?_
    refine WC.seq (by kernel_rfl) ?_
    refine WC.seq (by kernel_rfl) ?_
    refine WC.reg [0, 1] (by kernel_rfl) (by kernel_rfl) ?_
    refine WR.runk [0, 1] [] [0, 2, 8] (L' := [(0, .int .u64 (ishr .u64 a0 32)), (2, .int .i64 32), (8, .bool (decide (ishr .u64 a0 32 ≥ 65536)))]) (w' := w0) (by kernel_rfl) ?_
    refine WR.nil ?_
    refine At.go ?_
    refine WC.cond (by kernel_rfl) (decide (ishr .u64 a0 32 ≥ 65536)) (by kernel_rfl) (by kernel_rfl) (fun hb2 => ?_) (fun hb2 => ?_)
    · replace H := ite_t H hb2
      refine WC.seq (by kernel_rfl) ?_
      refine WC.reg [0, 1, 2] (by kernel_rfl) (by kernel_rfl) ?_
      refine WR.runk [0, 1, 2] [] [0, 2] (L' := [(0, .int .u64 (ishr .u64 (ishr .u64 a0 32) 16)), (2, .int .i64 32)]) (w' := w0) (by kernel_rfl) ?_
      refine WR.nil ?_
      refine At.go ?_
      refine WC.reg [0, 1, 2] (by kernel_rfl) (by kernel_rfl) ?_
      refine WR.runk [0, 1, 2] [] [0, 2] (L' := [(0, .int .u64 (ishr .u64 (ishr .u64 a0 32) 16)), (2, .int .i64 (wi (32 + 16)))]) (w' := w0) (by kernel_rfl) ?_
      refine WR.nil ?_
      refine At.go ?_
      refine WC.seq (by kernel_rfl) ?_
      refine WC.seq (by kernel_rfl) ?_
      refine WC.reg [0, 1] (by kernel_rfl) (by kernel_rfl) ?_
      refine WR.runk [0, 1] [] [0, 2, 14] (L' := [(0, .int .u64 (ishr .u64 (ishr .u64 a0 32) 16)), (2, .int .i64 (wi (32 + 16))), (14, .bool (decide (ishr .u64 (ishr .u64 a0 32) 16 ≥ 256)))]) (w' := w0) (by kernel_rfl) ?_
      refine WR.nil ?_
      refine At.go ?_
      refine WC.cond (by kernel_rfl) (decide (ishr .u64 (ishr .u64 a0 32) 16 ≥ 256)) (by kernel_rfl) (by kernel_rfl) (fun hb3 => ?_) (fun hb3 => ?_)
      · replace H := ite_t H hb3
        refine WC.seq (by kernel_rfl) ?_
        refine WC.reg [0, 1, 2] (by kernel_rfl) (by kernel_rfl) ?_
        refine WR.runk [0, 1, 2] [] [0, 2] (L' := [(0, .int .u64 (ishr .u64 (ishr .u64 (ishr .u64 a0 32) 16) 8)), (2, .int .i64 (wi (32 + 16)))]) (w' := w0) (by kernel_rfl) ?_
        refine WR.nil ?_
        refine At.go ?_
        refine WC.reg [0, 1, 2] (by kernel_rfl) (by kernel_rfl) ?_
        refine WR.runk [0, 1, 2] [] [0, 2] (L' := [(0, .int .u64 (ishr .u64 (ishr .u64 (ishr .u64 a0 32) 16) 8)), (2, .int .i64 (wi ((wi (32 + 16)) + 8)))]) (w' := w0) (by kernel_rfl) ?_
        refine WR.nil ?_
        refine At.go ?_
        refine WC.seq (by kernel_rfl) ?_
        refine WC.reg [0, 1, 2, 3, 4, 5, 6] (by kernel_rfl) (by kernel_rfl) ?_
        refine WR.runk [0, 1, 2] [3, 4, 5, 6] [2, 19, 21] (L' := [(2, .int .i64 (wi ((wi (32 + 16)) + 8))), (19, .int .i64 (wi ((wi (32 + 16)) + 8))), (21, .int .u8 (IntKind.wrap .u8 (ishr .u64 (ishr .u64 (ishr .u64 a0 32) 16) 8)))]) (w' := w0) (by kernel_rfl) ?_
        obtain ⟨v4, e5, H⟩ := bind_ex H
        refine WR.st (St.ofP (PSt.chr (k := .u8) (t := 9) (.const (.string ⟨#[0, 1, 2, 2, 3, 3, 3, 3, 4, 4, 4, 4, 4, 4, 4, 4, 5, 5, 5, 5, 5, 5, 5, 5, 5, 5, 5, 5, 5, 5, 5, 5, 6, 6, 6, 6, 6, 6, 6, 6, 6, 6, 6, 6, 6, 6, 6, 6, 6, 6, 6, 6, 6, 6, 6, 6, 6, 6, 6, 6, 6, 6, 6, 6, 7, 7, 7, 7, 7, 7, 7, 7, 7, 7, 7, 7, 7, 7, 7, 7, 7, 7, 7, 7, 7, 7, 7, 7, 7, 7, 7, 7, 7, 7, 7, 7, 7, 7, 7, 7, 7, 7, 7, 7, 7, 7, 7, 7, 7, 7, 7, 7, 7, 7, 7, 7, 7, 7, 7, 7, 7, 7, 7, 7, 7, 7, 7, 7, 8, 8, 8, 8, 8, 8, 8, 8, 8, 8, 8, 8, 8, 8, 8, 8, 8, 8, 8, 8, 8, 8, 8, 8, 8, 8, 8, 8, 8, 8, 8, 8, 8, 8, 8, 8, 8, 8, 8, 8, 8, 8, 8, 8, 8, 8, 8, 8, 8, 8, 8, 8, 8, 8, 8, 8, 8, 8, 8, 8, 8, 8, 8, 8, 8, 8, 8, 8, 8, 8, 8, 8, 8, 8, 8, 8, 8, 8, 8, 8, 8, 8, 8, 8, 8, 8, 8, 8, 8, 8, 8, 8, 8, 8, 8, 8, 8, 8, 8, 8, 8, 8, 8, 8, 8, 8, 8, 8, 8, 8, 8, 8, 8, 8, 8, 8, 8, 8, 8, 8, 8, 8, 8, 8, 8, 8, 8, 8]⟩)) (.tmp 21) (by kernel_rfl) (by kernel_rfl) (by kernel_rfl) (by kernel_rfl) (by kernel_rfl) e5 ?_))
        refine WR.runk [4, 5, 6] [] [2] (L' := [(2, .int .i64 (wi ((wi ((wi (32 + 16)) + 8)) + (wi v4))))]) (w' := w0) (by kernel_rfl) ?_
        refine WR.nil ?_
        refine At.go ?_
        refine WC.ret (by kernel_rfl) ?_
        obtain rfl := Option.some.inj H
        have hS : Sat w0 (rf w0) [] := hS.sel [] (by kernel_rfl)
        exact At.body [.int .i64 (wi ((wi ((wi (32 + 16)) + 8)) + (wi v4)))] (by kernel_rfl) ⟨_, rfl, rfl, hS⟩
      · replace H := ite_f H hb3
        refine WC.skip (by kernel_rfl) ?_
        refine At.go ?_
        refine WC.seq (by kernel_rfl) ?_
        refine WC.reg [0, 1, 2, 3, 4, 5, 6] (by kernel_rfl) (by kernel_rfl) ?_
        refine WR.runk [0, 1, 2] [3, 4, 5, 6] [2, 19, 21] (L' := [(2, .int .i64 (wi (32 + 16))), (19, .int .i64 (wi (32 + 16))), (21, .int .u8 (IntKind.wrap .u8 (ishr .u64 (ishr .u64 a0 32) 16)))]) (w' := w0) (by kernel_rfl) ?_
        obtain ⟨v6, e7, H⟩ := bind_ex H
        refine WR.st (St.ofP (PSt.chr (k := .u8) (t := 9) (.const (.string ⟨#[0, 1, 2, 2, 3, 3, 3, 3, 4, 4, 4, 4, 4, 4, 4, 4, 5, 5, 5, 5, 5, 5, 5, 5, 5, 5, 5, 5, 5, 5, 5, 5, 6, 6, 6, 6, 6, 6, 6, 6, 6, 6, 6, 6, 6, 6, 6, 6, 6, 6, 6, 6, 6, 6, 6, 6, 6, 6, 6, 6, 6, 6, 6, 6, 7, 7, 7, 7, 7, 7, 7, 7, 7, 7, 7, 7, 7, 7, 7, 7, 7, 7, 7, 7, 7, 7, 7, 7, 7, 7, 7, 7, 7, 7, 7, 7, 7, 7, 7, 7, 7, 7, 7, 7, 7, 7, 7, 7, 7, 7, 7, 7, 7, 7, 7, 7, 7, 7, 7, 7, 7, 7, 7, 7, 7, 7, 7, 7, 8, 8, 8, 8, 8, 8, 8, 8, 8, 8, 8, 8, 8, 8, 8, 8, 8, 8, 8, 8, 8, 8, 8, 8, 8, 8, 8, 8, 8, 8, 8, 8, 8, 8, 8, 8, 8, 8, 8, 8, 8, 8, 8, 8, 8, 8, 8, 8, 8, 8, 8, 8, 8, 8, 8, 8, 8, 8, 8, 8, 8, 8, 8, 8, 8, 8, 8, 8, 8, 8, 8, 8, 8, 8, 8, 8, 8, 8, 8, 8, 8, 8, 8, 8, 8, 8, 8, 8, 8, 8, 8, 8, 8, 8, 8, 8, 8, 8, 8, 8, 8, 8, 8, 8, 8, 8, 8, 8, 8, 8, 8, 8, 8, 8, 8, 8, 8, 8, 8, 8, 8, 8, 8, 8, 8, 8, 8, 8]⟩)) (.tmp 21) (by kernel_rfl) (by kernel_rfl) (by kernel_rfl) (by kernel_rfl) (by kernel_rfl) e7 ?_))
        refine WR.runk [4, 5, 6] [] [2] (L' := [(2, .int .i64 (wi ((wi (32 + 16)) + (wi v6))))]) (w' := w0) (by kernel_rfl) ?_
        refine WR.nil ?_
        refine At.go ?_
        refine WC.ret (by kernel_rfl) ?_
        obtain rfl := Option.some.inj H
        have hS : Sat w0 (rf w0) [] := hS.sel [] (by kernel_rfl)
        exact At.body [.int .i64 (wi ((wi (32 + 16)) + (wi v6)))] (by kernel_rfl) ⟨_, rfl, rfl, hS⟩
    · replace H := ite_f H hb2
      refine WC.skip (by kernel_rfl) ?_
      refine At.go ?_
      refine WC.seq (by kernel_rfl) ?_
      refine WC.seq (by kernel_rfl) ?_
      refine WC.reg [0, 1] (by kernel_rfl) (by kernel_rfl) ?_
      refine WR.runk [0, 1] [] [0, 2, 14] (L' := [(0, .int .u64 (ishr .u64 a0 32)), (2, .int .i64 32), (14, .bool (decide (ishr .u64 a0 32 ≥ 256)))]) (w' := w0) (by kernel_rfl) ?_
      refine WR.nil ?_
      refine At.go ?_
      refine WC.cond (by kernel_rfl) (decide (ishr .u64 a0 32 ≥ 256)) (by kernel_rfl) (by kernel_rfl) (fun hb8 => ?_) (fun hb8 => ?_)
      · replace H := ite_t H hb8
        refine WC.seq (by kernel_rfl) ?_
        refine WC.reg [0, 1, 2] (by kernel_rfl) (by kernel_rfl) ?_
        refine WR.runk [0, 1, 2] [] [0, 2] (L' := [(0, .int .u64 (ishr .u64 (ishr .u64 a0 32) 8)), (2, .int .i64 32)]) (w' := w0) (by kernel_rfl) ?_
        refine WR.nil ?_
        refine At.go ?_
        refine WC.reg [0, 1, 2] (by kernel_rfl) (by kernel_rfl) ?_
        refine WR.runk [0, 1, 2] [] [0, 2] (L' := [(0, .int .u64 (ishr .u64 (ishr .u64 a0 32) 8)), (2, .int .i64 (wi (32 + 8)))]) (w' := w0) (by kernel_rfl) ?_
        refine WR.nil ?_
        refine At.go ?_
        refine WC.seq (by kernel_rfl) ?_
        refine WC.reg [0, 1, 2, 3, 4, 5, 6] (by kernel_rfl) (by kernel_rfl) ?_
        refine WR.runk [0, 1, 2] [3, 4, 5, 6] [2, 19, 21] (L' := [(2, .int .i64 (wi (32 + 8))), (19, .int .i64 (wi (32 + 8))), (21, .int .u8 (IntKind.wrap .u8 (ishr .u64 (ishr .u64 a0 32) 8)))]) (w' := w0) (by kernel_rfl) ?_
        obtain ⟨v9, e10, H⟩ := bind_ex H
        refine WR.st (St.ofP (PSt.chr (k := .u8) (t := 9) (.const (.string ⟨#[0, 1, 2, 2, 3, 3, 3, 3, 4, 4, 4, 4, 4, 4, 4, 4, 5, 5, 5, 5, 5, 5, 5, 5, 5, 5, 5, 5, 5, 5, 5, 5, 6, 6, 6, 6, 6, 6, 6, 6, 6, 6, 6, 6, 6, 6, 6, 6, 6, 6, 6, 6, 6, 6, 6, 6, 6, 6, 6, 6, 6, 6, 6, 6, 7, 7, 7, 7, 7, 7, 7, 7, 7, 7, 7, 7, 7, 7, 7, 7, 7, 7, 7, 7, 7, 7, 7, 7, 7, 7, 7, 7, 7, 7, 7, 7, 7, 7, 7, 7, 7, 7, 7, 7, 7, 7, 7, 7, 7, 7, 7, 7, 7, 7, 7, 7, 7, 7, 7, 7, 7, 7, 7, 7, 7, 7, 7, 7, 8, 8, 8, 8, 8, 8, 8, 8, 8, 8, 8, 8, 8, 8, 8, 8, 8, 8, 8, 8, 8, 8, 8, 8, 8, 8, 8, 8, 8, 8, 8, 8, 8, 8, 8, 8, 8, 8, 8, 8, 8, 8, 8, 8, 8, 8, 8, 8, 8, 8, 8, 8, 8, 8, 8, 8, 8, 8, 8, 8, 8, 8, 8, 8, 8, 8, 8, 8, 8, 8, 8, 8, 8, 8, 8, 8, 8, 8, 8, 8, 8, 8, 8, 8, 8, 8, 8, 8, 8, 8, 8, 8, 8, 8, 8, 8, 8, 8, 8, 8, 8, 8, 8, 8, 8, 8, 8, 8, 8, 8, 8, 8, 8, 8, 8, 8, 8, 8, 8, 8, 8, 8, 8, 8, 8, 8, 8, 8]⟩)) (.tmp 21) (by kernel_rfl) (by kernel_rfl) (by kernel_rfl) (by kernel_rfl) (by kernel_rfl) e10 ?_))
        refine WR.runk [4, 5, 6] [] [2] (L' := [(2, .int .i64 (wi ((wi (32 + 8)) + (wi v9))))]) (w' := w0) (by kernel_rfl) ?_
        refine WR.nil ?_
        refine At.go ?_
        refine WC.ret (by kernel_rfl) ?_
        obtain rfl := Option.some.inj H
        have hS : Sat w0 (rf w0) [] := hS.sel [] (by kernel_rfl)
        exact At.body [.int .i64 (wi ((wi (32 + 8)) + (wi v9)))] (by kernel_rfl) ⟨_, rfl, rfl, hS⟩
      · replace H := ite_f H hb8
        refine WC.skip (by kernel_rfl) ?_
        refine At.go ?_
        refine WC.seq (by kernel_rfl) ?_
        refine WC.reg [0, 1, 2, 3, 4, 5, 6] (by kernel_rfl) (by kernel_rfl) ?_
        refine WR.runk [0, 1, 2] [3, 4, 5, 6] [2, 19, 21] (L' := [(2, .int .i64 32), (19, .int .i64 32), (21, .int .u8 (IntKind.wrap .u8 (ishr .u64 a0 32)))]) (w' := w0) (by kernel_rfl) ?_
        obtain ⟨v11, e12, H⟩ := bind_ex H
        refine WR.st (St.ofP (PSt.chr (k := .u8) (t := 9) (.const (.string ⟨#[0, 1, 2, 2, 3, 3, 3, 3, 4, 4, 4, 4, 4, 4, 4, 4, 5, 5, 5, 5, 5, 5, 5, 5, 5, 5, 5, 5, 5, 5, 5, 5, 6, 6, 6, 6, 6, 6, 6, 6, 6, 6, 6, 6, 6, 6, 6, 6, 6, 6, 6, 6, 6, 6, 6, 6, 6, 6, 6, 6, 6, 6, 6, 6, 7, 7, 7, 7, 7, 7, 7, 7, 7, 7, 7, 7, 7, 7, 7, 7, 7, 7, 7, 7, 7, 7, 7, 7, 7, 7, 7, 7, 7, 7, 7, 7, 7, 7, 7, 7, 7, 7, 7, 7, 7, 7, 7, 7, 7, 7, 7, 7, 7, 7, 7, 7, 7, 7, 7, 7, 7, 7, 7, 7, 7, 7, 7, 7, 8, 8, 8, 8, 8, 8, 8, 8, 8, 8, 8, 8, 8, 8, 8, 8, 8, 8, 8, 8, 8, 8, 8, 8, 8, 8, 8, 8, 8, 8, 8, 8, 8, 8, 8, 8, 8, 8, 8, 8, 8, 8, 8, 8, 8, 8, 8, 8, 8, 8, 8, 8, 8, 8, 8, 8, 8, 8, 8, 8, 8, 8, 8, 8, 8, 8, 8, 8, 8, 8, 8, 8, 8, 8, 8, 8, 8, 8, 8, 8, 8, 8, 8, 8, 8, 8, 8, 8, 8, 8, 8, 8, 8, 8, 8, 8, 8, 8, 8, 8, 8, 8, 8, 8, 8, 8, 8, 8, 8, 8, 8, 8, 8, 8, 8, 8, 8, 8, 8, 8, 8, 8, 8, 8, 8, 8, 8, 8]⟩)) (.tmp 21) (by kernel_rfl) (by kernel_rfl) (by kernel_rfl) (by kernel_rfl) (by kernel_rfl) e12 ?_))
        refine WR.runk [4, 5, 6] [] [2] (L' := [(2, .int .i64 (wi (32 + (wi v11))))]) (w' := w0) (by kernel_rfl) ?_
        refine WR.nil ?_
        refine At.go ?_
        refine WC.ret (by kernel_rfl) ?_
        obtain rfl := Option.some.inj H
        have hS : Sat w0 (rf w0) [] := hS.sel [] (by kernel_rfl)
        exact At.body [.int .i64 (wi (32 + (wi v11)))] (by kernel_rfl) ⟨_, rfl, rfl, hS⟩
  · replace H := ite_f H hb1
    refine WC.skip (by kernel_rfl) ?_
    refine At.go ?_
    refine WC.seq (by kernel_rfl) ?_
    refine WC.seq (by kernel_rfl) ?_
    refine WC.reg [0, 1] (by kernel_rfl) (by kernel_rfl) ?_
    refine WR.runk [0, 1] [] [0, 2, 8] (L' := [(0, .int .u64 a0), (2, .int .i64 0), (8, .bool (decide (a0 ≥ 65536)))]) (w' := w0) (by kernel_rfl) ?_
    refine WR.nil ?_
    refine At.go ?_
    refine WC.cond (by kernel_rfl) (decide (a0 ≥ 65536)) (by kernel_rfl) (by kernel_rfl) (fun hb13 => ?_) (fun hb13 => ?_)
    · replace H := ite_t H hb13
      refine WC.seq (by kernel_rfl) ?_
      refine WC.reg [0, 1, 2] (by kernel_rfl) (by kernel_rfl) ?_
      refine WR.runk [0, 1, 2] [] [0, 2] (L' := [(0, .int .u64 (ishr .u64 a0 16)), (2, .int .i64 0)]) (w' := w0) (by kernel_rfl) ?_
      refine WR.nil ?_
      refine At.go ?_
      refine WC.reg [0, 1, 2] (by kernel_rfl) (by kernel_rfl) ?_
      refine WR.runk [0, 1, 2] [] [0, 2] (L' := [(0, .int .u64 (ishr .u64 a0 16)), (2, .int .i64 (wi (0 + 16)))]) (w' := w0) (by kernel_rfl) ?_
      refine WR.nil ?_
      refine At.go ?_
      refine WC.seq (by kernel_rfl) ?_
      refine WC.seq (by kernel_rfl) ?_
      refine WC.reg [0, 1] (by kernel_rfl) (by kernel_rfl) ?_
      refine WR.runk [0, 1] [] [0, 2, 14] (L' := [(0, .int .u64 (ishr .u64 a0 16)), (2, .int .i64 (wi (0 + 16))), (14, .bool (decide (ishr .u64 a0 16 ≥ 256)))]) (w' := w0) (by kernel_rfl) ?_
      refine WR.nil ?_
      refine At.go ?_
      refine WC.cond (by kernel_rfl) (decide (ishr .u64 a0 16 ≥ 256)) (by kernel_rfl) (by kernel_rfl) (fun hb14 => ?_) (fun hb14 => ?_)
      · replace H := ite_t H hb14
        refine WC.seq (by kernel_rfl) ?_
        refine WC.reg [0, 1, 2] (by kernel_rfl) (by kernel_rfl) ?_
        refine WR.runk [0, 1, 2] [] [0, 2] (L' := [(0, .int .u64 (ishr .u64 (ishr .u64 a0 16) 8)), (2, .int .i64 (wi (0 + 16)))]) (w' := w0) (by kernel_rfl) ?_
        refine WR.nil ?_
        refine At.go ?_
        refine WC.reg [0, 1, 2] (by kernel_rfl) (by kernel_rfl) ?_
        refine WR.runk [0, 1, 2] [] [0, 2] (L' := [(0, .int .u64 (ishr .u64 (ishr .u64 a0 16) 8)), (2, .int .i64 (wi ((wi (0 + 16)) + 8)))]) (w' := w0) (by kernel_rfl) ?_
        refine WR.nil ?_
        refine At.go ?_
        refine WC.seq (by kernel_rfl) ?_
        refine WC.reg [0, 1, 2, 3, 4, 5, 6] (by kernel_rfl) (by kernel_rfl) ?_
        refine WR.runk [0, 1, 2] [3, 4, 5, 6] [2, 19, 21] (L' := [(2, .int .i64 (wi ((wi (0 + 16)) + 8))), (19, .int .i64 (wi ((wi (0 + 16)) + 8))), (21, .int .u8 (IntKind.wrap .u8 (ishr .u64 (ishr .u64 a0 16) 8)))]) (w' := w0) (by kernel_rfl) ?_
        obtain ⟨v15, e16, H⟩ := bind_ex H
        refine WR.st (St.ofP (PSt.chr (k := .u8) (t := 9) (.const (.string ⟨#[0, 1, 2, 2, 3, 3, 3, 3, 4, 4, 4, 4, 4, 4, 4, 4, 5, 5, 5, 5, 5, 5, 5, 5, 5, 5, 5, 5, 5, 5, 5, 5, 6, 6, 6, 6, 6, 6, 6, 6, 6, 6, 6, 6, 6, 6, 6, 6, 6, 6, 6, 6, 6, 6, 6, 6, 6, 6, 6, 6, 6, 6, 6, 6, 7, 7, 7, 7, 7, 7, 7, 7, 7, 7, 7, 7, 7, 7, 7, 7, 7, 7, 7, 7, 7, 7, 7, 7, 7, 7, 7, 7, 7, 7, 7, 7, 7, 7, 7, 7, 7, 7, 7, 7, 7, 7, 7, 7, 7, 7, 7, 7, 7, 7, 7, 7, 7, 7, 7, 7, 7, 7, 7, 7, 7, 7, 7, 7, 8, 8, 8, 8, 8, 8, 8, 8, 8, 8, 8, 8, 8, 8, 8, 8, 8, 8, 8, 8, 8, 8, 8, 8, 8, 8, 8, 8, 8, 8, 8, 8, 8, 8, 8, 8, 8, 8, 8, 8, 8, 8, 8, 8, 8, 8, 8, 8, 8, 8, 8, 8, 8, 8, 8, 8, 8, 8, 8, 8, 8, 8, 8, 8, 8, 8, 8, 8, 8, 8, 8, 8, 8, 8, 8, 8, 8, 8, 8, 8, 8, 8, 8, 8, 8, 8, 8, 8, 8, 8, 8, 8, 8, 8, 8, 8, 8, 8, 8, 8, 8, 8, 8, 8, 8, 8, 8, 8, 8, 8, 8, 8, 8, 8, 8, 8, 8, 8, 8, 8, 8, 8, 8, 8, 8, 8, 8, 8]⟩)) (.tmp 21) (by kernel_rfl) (by kernel_rfl) (by kernel_rfl) (by kernel_rfl) (by kernel_rfl) e16 ?_))
        refine WR.runk [4, 5, 6] [] [2] (L' := [(2, .int .i64 (wi ((wi ((wi (0 + 16)) + 8)) + (wi v15))))]) (w' := w0) (by kernel_rfl) ?_
        refine WR.nil ?_
        refine At.go ?_
        refine WC.ret (by kernel_rfl) ?_
        obtain rfl := Option.some.inj H
        have hS : Sat w0 (rf w0) [] := hS.sel [] (by kernel_rfl)
        exact At.body [.int .i64 (wi ((wi ((wi (0 + 16)) + 8)) + (wi v15)))] (by kernel_rfl) ⟨_, rfl, rfl, hS⟩
      · replace H := ite_f H hb14
        refine WC.skip (by kernel_rfl) ?_
        refine At.go ?_
        refine WC.seq (by kernel_rfl) ?_
        refine WC.reg [0, 1, 2, 3, 4, 5, 6] (by kernel_rfl) (by kernel_rfl) ?_
        refine WR.runk [0, 1, 2] [3, 4, 5, 6] [2, 19, 21] (L' := [(2, .int .i64 (wi (0 + 16))), (19, .int .i64 (wi (0 + 16))), (21, .int .u8 (IntKind.wrap .u8 (ishr .u64 a0 16)))]) (w' := w0) (by kernel_rfl) ?_
        obtain ⟨v17, e18, H⟩ := bind_ex H
        refine WR.st (St.ofP (PSt.chr (k := .u8) (t := 9) (.const (.string ⟨#[0, 1, 2, 2, 3, 3, 3, 3, 4, 4, 4, 4, 4, 4, 4, 4, 5, 5, 5, 5, 5, 5, 5, 5, 5, 5, 5, 5, 5, 5, 5, 5, 6, 6, 6, 6, 6, 6, 6, 6, 6, 6, 6, 6, 6, 6, 6, 6, 6, 6, 6, 6, 6, 6, 6, 6, 6, 6, 6, 6, 6, 6, 6, 6, 7, 7, 7, 7, 7, 7, 7, 7, 7, 7, 7, 7, 7, 7, 7, 7, 7, 7, 7, 7, 7, 7, 7, 7, 7, 7, 7, 7, 7, 7, 7, 7, 7, 7, 7, 7, 7, 7, 7, 7, 7, 7, 7, 7, 7, 7, 7, 7, 7, 7, 7, 7, 7, 7, 7, 7, 7, 7, 7, 7, 7, 7, 7, 7, 8, 8, 8, 8, 8, 8, 8, 8, 8, 8, 8, 8, 8, 8, 8, 8, 8, 8, 8, 8, 8, 8, 8, 8, 8, 8, 8, 8, 8, 8, 8, 8, 8, 8, 8, 8, 8, 8, 8, 8, 8, 8, 8, 8, 8, 8, 8, 8, 8, 8, 8, 8, 8, 8, 8, 8, 8, 8, 8, 8, 8, 8, 8, 8, 8, 8, 8, 8, 8, 8, 8, 8, 8, 8, 8, 8, 8, 8, 8, 8, 8, 8, 8, 8, 8, 8, 8, 8, 8, 8, 8, 8, 8, 8, 8, 8, 8, 8, 8, 8, 8, 8, 8, 8, 8, 8, 8, 8, 8, 8, 8, 8, 8, 8, 8, 8, 8, 8, 8, 8, 8, 8, 8, 8, 8, 8, 8, 8]⟩)) (.tmp 21) (by kernel_rfl) (by kernel_rfl) (by kernel_rfl) (by kernel_rfl) (by kernel_rfl) e18 ?_))
        refine WR.runk [4, 5, 6] [] [2] (L' := [(2, .int .i64 (wi ((wi (0 + 16)) + (wi v17))))]) (w' := w0) (by kernel_rfl) ?_
        refine WR.nil ?_
        refine At.go ?_
        refine WC.ret (by kernel_rfl) ?_
        obtain rfl := Option.some.inj H
        have hS : Sat w0 (rf w0) [] := hS.sel [] (by kernel_rfl)
        exact At.body [.int .i64 (wi ((wi (0 + 16)) + (wi v17)))] (by kernel_rfl) ⟨_, rfl, rfl, hS⟩
    · replace H := ite_f H hb13
      refine WC.skip (by kernel_rfl) ?_
      refine At.go ?_
      refine WC.seq (by kernel_rfl) ?_
      refine WC.seq (by kernel_rfl) ?_
      refine WC.reg [0, 1] (by kernel_rfl) (by kernel_rfl) ?_
      refine WR.runk [0, 1] [] [0, 2, 14] (L' := [(0, .int .u64 a0), (2, .int .i64 0), (14, .bool (decide (a0 ≥ 256)))]) (w' := w0) (by kernel_rfl) ?_
      refine WR.nil ?_
      refine At.go ?_
      refine WC.cond (by kernel_rfl) (decide (a0 ≥ 256)) (by kernel_rfl) (by kernel_rfl) (fun hb19 => ?_) (fun hb19 => ?_)
      · replace H := ite_t H hb19
        refine WC.seq (by kernel_rfl) ?_
        refine WC.reg [0, 1, 2] (by kernel_rfl) (by kernel_rfl) ?_
        refine WR.runk [0, 1, 2] [] [0, 2] (L' := [(0, .int .u64 (ishr .u64 a0 8)), (2, .int .i64 0)]) (w' := w0) (by kernel_rfl) ?_
        refine WR.nil ?_
        refine At.go ?_
        refine WC.reg [0, 1, 2] (by kernel_rfl) (by kernel_rfl) ?_
        refine WR.runk [0, 1, 2] [] [0, 2] (L' := [(0, .int .u64 (ishr .u64 a0 8)), (2, .int .i64 (wi (0 + 8)))]) (w' := w0) (by kernel_rfl) ?_
        refine WR.nil ?_
        refine At.go ?_
        refine WC.seq (by kernel_rfl) ?_
        refine WC.reg [0, 1, 2, 3, 4, 5, 6] (by kernel_rfl) (by kernel_rfl) ?_
        refine WR.runk [0, 1, 2] [3, 4, 5, 6] [2, 19, 21] (L' := [(2, .int .i64 (wi (0 + 8))), (19, .int .i64 (wi (0 + 8))), (21, .int .u8 (IntKind.wrap .u8 (ishr .u64 a0 8)))]) (w' := w0) (by kernel_rfl) ?_
        obtain ⟨v20, e21, H⟩ := bind_ex H
        refine WR.st (St.ofP (PSt.chr (k := .u8) (t := 9) (.const (.string ⟨#[0, 1, 2, 2, 3, 3, 3, 3, 4, 4, 4, 4, 4, 4, 4, 4, 5, 5, 5, 5, 5, 5, 5, 5, 5, 5, 5, 5, 5, 5, 5, 5, 6, 6, 6, 6, 6, 6, 6, 6, 6, 6, 6, 6, 6, 6, 6, 6, 6, 6, 6, 6, 6, 6, 6, 6, 6, 6, 6, 6, 6, 6, 6, 6, 7, 7, 7, 7, 7, 7, 7, 7, 7, 7, 7, 7, 7, 7, 7, 7, 7, 7, 7, 7, 7, 7, 7, 7, 7, 7, 7, 7, 7, 7, 7, 7, 7, 7, 7, 7, 7, 7, 7, 7, 7, 7, 7, 7, 7, 7, 7, 7, 7, 7, 7, 7, 7, 7, 7, 7, 7, 7, 7, 7, 7, 7, 7, 7, 8, 8, 8, 8, 8, 8, 8, 8, 8, 8, 8, 8, 8, 8, 8, 8, 8, 8, 8, 8, 8, 8, 8, 8, 8, 8, 8, 8, 8, 8, 8, 8, 8, 8, 8, 8, 8, 8, 8, 8, 8, 8, 8, 8, 8, 8, 8, 8, 8, 8, 8, 8, 8, 8, 8, 8, 8, 8, 8, 8, 8, 8, 8, 8, 8, 8, 8, 8, 8, 8, 8, 8, 8, 8, 8, 8, 8, 8, 8, 8, 8, 8, 8, 8, 8, 8, 8, 8, 8, 8, 8, 8, 8, 8, 8, 8, 8, 8, 8, 8, 8, 8, 8, 8, 8, 8, 8, 8, 8, 8, 8, 8, 8, 8, 8, 8, 8, 8, 8, 8, 8, 8, 8, 8, 8, 8, 8, 8]⟩)) (.tmp 21) (by kernel_rfl) (by kernel_rfl) (by kernel_rfl) (by kernel_rfl) (by kernel_rfl) e21 ?_))
        refine WR.runk [4, 5, 6] [] [2] (L' := [(2, .int .i64 (wi ((wi (0 + 8)) + (wi v20))))]) (w' := w0) (by kernel_rfl) ?_
        refine WR.nil ?_
        refine At.go ?_
        refine WC.ret (by kernel_rfl) ?_
        obtain rfl := Option.some.inj H
        have hS : Sat w0 (rf w0) [] := hS.sel [] (by kernel_rfl)
        exact At.body [.int .i64 (wi ((wi (0 + 8)) + (wi v20)))] (by kernel_rfl) ⟨_, rfl, rfl, hS⟩
      · replace H := ite_f H hb19
        refine WC.skip (by kernel_rfl) ?_
        refine At.go ?_
        refine WC.seq (by kernel_rfl) ?_
        refine WC.reg [0, 1, 2, 3, 4, 5, 6] (by kernel_rfl) (by kernel_rfl) ?_
        refine WR.runk [0, 1, 2] [3, 4, 5, 6] [2, 19, 21] (L' := [(2, .int .i64 0), (19, .int .i64 0), (21, .int .u8 (IntKind.wrap .u8 a0))]) (w' := w0) (by kernel_rfl) ?_
        obtain ⟨v22, e23, H⟩ := bind_ex H
        refine WR.st (St.ofP (PSt.chr (k := .u8) (t := 9) (.const (.string ⟨#[0, 1, 2, 2, 3, 3, 3, 3, 4, 4, 4, 4, 4, 4, 4, 4, 5, 5, 5, 5, 5, 5, 5, 5, 5, 5, 5, 5, 5, 5, 5, 5, 6, 6, 6, 6, 6, 6, 6, 6, 6, 6, 6, 6, 6, 6, 6, 6, 6, 6, 6, 6, 6, 6, 6, 6, 6, 6, 6, 6, 6, 6, 6, 6, 7, 7, 7, 7, 7, 7, 7, 7, 7, 7, 7, 7, 7, 7, 7, 7, 7, 7, 7, 7, 7, 7, 7, 7, 7, 7, 7, 7, 7, 7, 7, 7, 7, 7, 7, 7, 7, 7, 7, 7, 7, 7, 7, 7, 7, 7, 7, 7, 7, 7, 7, 7, 7, 7, 7, 7, 7, 7, 7, 7, 7, 7, 7, 7, 8, 8, 8, 8, 8, 8, 8, 8, 8, 8, 8, 8, 8, 8, 8, 8, 8, 8, 8, 8, 8, 8, 8, 8, 8, 8, 8, 8, 8, 8, 8, 8, 8, 8, 8, 8, 8, 8, 8, 8, 8, 8, 8, 8, 8, 8, 8, 8, 8, 8, 8, 8, 8, 8, 8, 8, 8, 8, 8, 8, 8, 8, 8, 8, 8, 8, 8, 8, 8, 8, 8, 8, 8, 8, 8, 8, 8, 8, 8, 8, 8, 8, 8, 8, 8, 8, 8, 8, 8, 8, 8, 8, 8, 8, 8, 8, 8, 8, 8, 8, 8, 8, 8, 8, 8, 8, 8, 8, 8, 8, 8, 8, 8, 8, 8, 8, 8, 8, 8, 8, 8, 8, 8, 8, 8, 8, 8, 8]⟩)) (.tmp 21) (by kernel_rfl) (by kernel_rfl) (by kernel_rfl) (by kernel_rfl) (by kernel_rfl) e23 ?_))
        refine WR.runk [4, 5, 6] [] [2] (L' := [(2, .int .i64 (wi (0 + (wi v22))))]) (w' := w0) (by kernel_rfl) ?_
        refine WR.nil ?_
        refine At.go ?_
        refine WC.ret (by kernel_rfl) ?_
        obtain rfl := Option.some.inj H
        have hS : Sat w0 (rf w0) [] := hS.sel [] (by kernel_rfl)
        exact At.body [.int .i64 (wi (0 + (wi v22)))] (by kernel_rfl) ⟨_, rfl, rfl, hS⟩
/-! ### 32 math/bits.Len -/
def bits_Len.f (a0 : Int) : Option Int := ((bits_Len64.f a0).bind fun r1 => some r1)
def bits_Len.post (w : World) (r : Int) (v : Value) (w' : World) : Prop := v = (.int .i64 r : Value) ∧ Sat w' (rf w) []
theorem bits_Len.calls (w0 : World) (a0 : Int) (r : Int) (H : bits_Len.f a0 = some r) :
    Calls Try.prog 32 #[.int .u64 a0] w0 (fun e w' => ∃ v, e = .returned v ∧ bits_Len.post w0 r v w') := by
  have hS : Sat w0 (rf w0) [] := Sat.start w0
  unfold bits_Len.f at H
  refine calls_of_WC (vs := [.int .u64 a0]) Try.func32 (c := C32) (n := 8) (by kernel_rfl) (by kernel_rfl) (by kernel_rfl) ?_
  refine WC.seq (by kernel_rfl) ?_
  refine WC.reg [0] (by kernel_rfl) (by kernel_rfl) ?_
  refine WR.runk [0] [] [0] (L' := [(0, .int .u64 a0)]) (w' := w0) (by kernel_rfl) ?_
  refine WR.nil ?_
  refine At.go ?_
  refine WC.seq (by kernel_rfl) ?_
  refine WC.condF (by kernel_rfl) (by kernel_rfl) (by kernel_rfl) ?_
  refine WC.skip (by kernel_rfl) ?_
  refine At.go ?_
  refine WC.seq (by kernel_rfl) ?_
  refine WC.reg [0, 1, 2] (by kernel_rfl) (by kernel_rfl) ?_
  refine WR.runk [0] [1, 2] [6] (L' := [(6, .int .u64 a0)]) (w' := w0) (by kernel_rfl) ?_
  obtain ⟨r1, e2, H⟩ := bind_ex H
  refine WR.st (St.call (by kernel_rfl) (f := 43) (args := #[.int .u64 a0]) (by kernel_rfl) (bits_Len64.calls w0 a0 r1 e2) ?_)
  rintro _ w8 ⟨rfl, hS9⟩
  have hS : Sat w8 (rf w0) [] := hS.ext hS9
  refine WR.runk [2] [] [2] (L' := [(2, .int .i64 r1)]) (w' := w8) (by kernel_rfl) ?_
  refine WR.nil ?_
  refine At.go ?_
  refine WC.ret (by kernel_rfl) ?_
  obtain rfl := Option.some.inj H
  have hS : Sat w8 (rf w0) [] := hS.sel [] (by kernel_rfl)
  exact At.body [.int .i64 r1] (by kernel_rfl) ⟨_, rfl, rfl, hS⟩
/-! ### 19 (*colophon/rmq.Table).Least -/
def rmq_Table_Least.f (p0 : Option ((List Int) × (List (List Int)))) (a1 : Int) (a2 : Int) : Option Int := ((rmq_Table_Len.f p0).bind fun r1 => (if decide (imax a1 0 ≥ imin a2 r1) then some (-1) else (if decide (wi (Int.tdiv (wi ((wi ((imax a1 0) + 32)) - 1)) 32) ≥ wi (Int.tdiv (imin a2 r1) 32)) then ((rmq_Table_scan.f p0 (imax a1 0) (imin a2 r1)).bind fun r12 => some r12) else ((rmq_Table_scan.f p0 (imax a1 0) (wi ((wi (Int.tdiv (wi ((wi ((imax a1 0) + 32)) - 1)) 32)) * 32))).bind fun r21 => ((bits_Len.f (IntKind.wrap .u64 (wi ((wi (Int.tdiv (imin a2 r1) 32)) - (wi (Int.tdiv (wi ((wi ((imax a1 0) + 32)) - 1)) 32)))))).bind fun r30 => (p0.bind fun y41 => ((at? y41.2 (wi (r30 - 1))).bind fun v53 => ((at? v53 (wi (Int.tdiv (wi ((wi ((imax a1 0) + 32)) - 1)) 32))).bind fun v58 => ((rmq_Table_better.f (some y41) r21 v58).bind fun r60 => ((chk? (decide (0 ≤ (wi (r30 - 1))))).bind fun _ => ((at? v53 (wi ((wi (Int.tdiv (imin a2 r1) 32)) - (ishl .i64 1 (wi (r30 - 1)))))).bind fun v75 => ((rmq_Table_better.f (some y41) r60 v75).bind fun r77 => ((rmq_Table_scan.f (some y41) (wi ((wi (Int.tdiv (imin a2 r1) 32)) * 32)) (imin a2 r1)).bind fun r86 => ((rmq_Table_better.f (some y41) r77 r86).bind fun r95 => some r95))))))))))))))
def rmq_Table_Least.post (w : World) (r : Int) (v : Value) (w' : World) : Prop := v = (.int .i64 r : Value) ∧ Sat w' (rf w) []
theorem rmq_Table_Least.calls (w0 : World) (v0 : Value) (p0 : Option ((List Int) × (List (List Int)))) (R0 : rd (hp w0) (.ptr 65 (.pair (.slice 3 (.int .i64)) (.slice 22 (.slice 3 (.int .i64))))) [v0] p0) (a1 : Int) (a2 : Int) (r : Int) (H : rmq_Table_Least.f p0 a1 a2 = some r) :
    Calls Try.prog 19 #[v0, .int .i64 a1, .int .i64 a2] w0 (fun e w' => ∃ v, e = .returned v ∧ rmq_Table_Least.post w0 r v w') := by
  have hS : Sat w0 (rf w0) [] := Sat.start w0
  unfold rmq_Table_Least.f at H
  refine calls_of_WC (vs := [v0, .int .i64 a1, .int .i64 a2]) Try.func19 (c := C19) (n := 81) (by kernel_rfl) (by kernel_rfl) (by kernel_rfl) ?_
  refine WC.seq (by kernel_rfl) ?_
  refine WC.reg [0] (by kernel_rfl) (by kernel_rfl) ?_
  refine WR.runk [0] [] [0, 1, 2] (L' := [(0, v0), (1, .int .i64 a1), (2, .int .i64 a2)]) (w' := w0) (by kernel_rfl) ?_
  refine WR.nil ?_
  refine At.go ?_
  refine WC.seq (by kernel_rfl) ?_
  refine WC.reg [0, 1, 2, 3, 4, 5, 6, 7] (by kernel_rfl) (by kernel_rfl) ?_
  refine WR.runk [0, 1, 2, 3] [4, 5, 6, 7] [0, 1, 2, 12, 13, 14] (L' := [(0, v0), (1, .int .i64 a1), (2, .int .i64 a2), (12, .int .i64 (imax a1 0)), (13, .int .i64 a2), (14, v0)]) (w' := w0) (by kernel_rfl) ?_
  obtain ⟨r1, e2, H⟩ := bind_ex H
  refine WR.st (St.call (by kernel_rfl) (f := 31) (args := #[v0]) (by kernel_rfl) (rmq_Table_Len.calls w0 (v0) p0 (rd.mono hS.sub0 _ _ _ R0) r1 e2) ?_)
  rintro _ w8 ⟨rfl, hS9⟩
  have hS : Sat w8 (rf w0) [] := hS.ext hS9
  refine WR.runk [5, 6, 7] [] [0, 1, 2] (L' := [(0, v0), (1, .int .i64 (imax a1 0)), (2, .int .i64 (imin a2 r1))]) (w' := w8) (by kernel_rfl) ?_
  refine WR.nil ?_
  refine At.go ?_
  refine WC.seq (by kernel_rfl) ?_
  refine WC.seq (by kernel_rfl) ?_
  refine WC.reg [0, 1, 2] (by kernel_rfl) (by kernel_rfl) ?_
  refine WR.runk [0, 1, 2] [] [0, 1, 2, 19] (L' := [(0, v0), (1, .int .i64 (imax a1 0)), (2, .int .i64 (imin a2 r1)), (19, .bool (decide (imax a1 0 ≥ imin a2 r1)))]) (w' := w8) (by kernel_rfl) ?_
  refine WR.nil ?_
  refine At.go ?_
  refine WC.cond (by kernel_rfl) (decide (imax a1 0 ≥ imin a2 r1)) (by kernel_rfl) (by kernel_rfl) (fun hb10 => ?_) (fun hb10 => ?_)
  · replace H := ite_t H hb10
    refine WC.seq (by kernel_rfl) ?_
    refine WC.reg [0] (by kernel_rfl) (by kernel_rfl) ?_
    refine WR.runk [0] [] [6] (L' := [(6, .int .i64 (-1))]) (w' := w8) (by kernel_rfl) ?_
    refine WR.nil ?_
    refine At.go ?_
    refine WC.ret (by kernel_rfl) ?_
    refine At.thenRet ?_
    obtain rfl := Option.some.inj H
    have hS : Sat w8 (rf w0) [] := hS.sel [] (by kernel_rfl)
    exact At.body [.int .i64 (-1)] (by kernel_rfl) ⟨_, rfl, rfl, hS⟩
  · replace H := ite_f H hb10
    refine WC.skip (by kernel_rfl) ?_
    refine At.go ?_
    refine WC.seq (by kernel_rfl) ?_
    refine WC.reg [0, 1, 2, 3, 4, 5, 6, 7] (by kernel_rfl) (by kernel_rfl) ?_
    refine WR.runk [0, 1, 2, 3, 4, 5, 6, 7] [] [0, 1, 2, 7, 8] (L' := [(0, v0), (1, .int .i64 (imax a1 0)), (2, .int .i64 (imin a2 r1)), (7, .int .i64 (wi (Int.tdiv (wi ((wi ((imax a1 0) + 32)) - 1)) 32))), (8, .int .i64 (wi (Int.tdiv (imin a2 r1) 32)))]) (w' := w8) (by kernel_rfl) ?_
    refine WR.nil ?_
    refine At.go ?_
    refine WC.seq (by kernel_rfl) ?_
    refine WC.seq (by kernel_rfl) ?_
    refine WC.reg [0, 1, 2] (by kernel_rfl) (by kernel_rfl) ?_
    refine WR.runk [0, 1, 2] [] [0, 1, 2, 7, 8, 28] (L' := [(0, v0), (1, .int .i64 (imax a1 0)), (2, .int .i64 (imin a2 r1)), (7, .int .i64 (wi (Int.tdiv (wi ((wi ((imax a1 0) + 32)) - 1)) 32))), (8, .int .i64 (wi (Int.tdiv (imin a2 r1) 32))), (28, .bool (decide (wi (Int.tdiv (wi ((wi ((imax a1 0) + 32)) - 1)) 32) ≥ wi (Int.tdiv (imin a2 r1) 32))))]) (w' := w8) (by kernel_rfl) ?_
    refine WR.nil ?_
    refine At.go ?_
    refine WC.cond (by kernel_rfl) (decide (wi (Int.tdiv (wi ((wi ((imax a1 0) + 32)) - 1)) 32) ≥ wi (Int.tdiv (imin a2 r1) 32))) (by kernel_rfl) (by kernel_rfl) (fun hb11 => ?_) (fun hb11 => ?_)
    · replace H := ite_t H hb11
      refine WC.seq (by kernel_rfl) ?_
      refine WC.reg [0, 1, 2, 3, 4] (by kernel_rfl) (by kernel_rfl) ?_
      refine WR.runk [0, 1, 2] [3, 4] [29, 30, 31] (L' := [(29, v0), (30, .int .i64 (imax a1 0)), (31, .int .i64 (imin a2 r1))]) (w' := w8) (by kernel_rfl) ?_
      obtain ⟨r12, e13, H⟩ := bind_ex H
      refine WR.st (St.call (by kernel_rfl) (f := 29) (args := #[v0, .int .i64 (imax a1 0), .int .i64 (imin a2 r1)]) (by kernel_rfl) (rmq_Table_scan.calls w8 (v0) p0 (rd.mono hS.sub0 _ _ _ R0) (imax a1 0) (imin a2 r1) r12 e13) ?_)
      rintro _ w19 ⟨rfl, hS20⟩
      have hS : Sat w19 (rf w0) [] := hS.ext hS20
      refine WR.runk [4] [] [6] (L' := [(6, .int .i64 r12)]) (w' := w19) (by kernel_rfl) ?_
      refine WR.nil ?_
      refine At.go ?_
      refine WC.ret (by kernel_rfl) ?_
      refine At.thenRet ?_
      obtain rfl := Option.some.inj H
      have hS : Sat w19 (rf w0) [] := hS.sel [] (by kernel_rfl)
      exact At.body [.int .i64 r12] (by kernel_rfl) ⟨_, rfl, rfl, hS⟩
    · replace H := ite_f H hb11
      refine WC.skip (by kernel_rfl) ?_
      refine At.go ?_
      refine WC.seq (by kernel_rfl) ?_
      refine WC.reg [0, 1, 2, 3, 4, 5] (by kernel_rfl) (by kernel_rfl) ?_
      refine WR.runk [0, 1, 2, 3] [4, 5] [0, 2, 7, 8, 33, 34, 36] (L' := [(0, v0), (2, .int .i64 (imin a2 r1)), (7, .int .i64 (wi (Int.tdiv (wi ((wi ((imax a1 0) + 32)) - 1)) 32))), (8, .int .i64 (wi (Int.tdiv (imin a2 r1) 32))), (33, v0), (34, .int .i64 (imax a1 0)), (36, .int .i64 (wi ((wi (Int.tdiv (wi ((wi ((imax a1 0) + 32)) - 1)) 32)) * 32)))]) (w' := w8) (by kernel_rfl) ?_
      obtain ⟨r21, e22, H⟩ := bind_ex H
      refine WR.st (St.call (by kernel_rfl) (f := 29) (args := #[v0, .int .i64 (imax a1 0), .int .i64 (wi ((wi (Int.tdiv (wi ((wi ((imax a1 0) + 32)) - 1)) 32)) * 32))]) (by kernel_rfl) (rmq_Table_scan.calls w8 (v0) p0 (rd.mono hS.sub0 _ _ _ R0) (imax a1 0) (wi ((wi (Int.tdiv (wi ((wi ((imax a1 0) + 32)) - 1)) 32)) * 32)) r21 e22) ?_)
      rintro _ w28 ⟨rfl, hS29⟩
      have hS : Sat w28 (rf w0) [] := hS.ext hS29
      refine WR.runk [5] [] [0, 2, 7, 8, 9] (L' := [(0, v0), (2, .int .i64 (imin a2 r1)), (7, .int .i64 (wi (Int.tdiv (wi ((wi ((imax a1 0) + 32)) - 1)) 32))), (8, .int .i64 (wi (Int.tdiv (imin a2 r1) 32))), (9, .int .i64 r21)]) (w' := w28) (by kernel_rfl) ?_
      refine WR.nil ?_
      refine At.go ?_
      refine WC.seq (by kernel_rfl) ?_
      refine WC.reg [0, 1, 2, 3, 4, 5, 6] (by kernel_rfl) (by kernel_rfl) ?_
      refine WR.runk [0, 1, 2, 3] [4, 5, 6] [0, 2, 7, 8, 9, 41] (L' := [(0, v0), (2, .int .i64 (imin a2 r1)), (7, .int .i64 (wi (Int.tdiv (wi ((wi ((imax a1 0) + 32)) - 1)) 32))), (8, .int .i64 (wi (Int.tdiv (imin a2 r1) 32))), (9, .int .i64 r21), (41, .int .u64 (IntKind.wrap .u64 (wi ((wi (Int.tdiv (imin a2 r1) 32)) - (wi (Int.tdiv (wi ((wi ((imax a1 0) + 32)) - 1)) 32))))))]) (w' := w28) (by kernel_rfl) ?_
      obtain ⟨r30, e31, H⟩ := bind_ex H
      refine WR.st (St.call (by kernel_rfl) (f := 32) (args := #[.int .u64 (IntKind.wrap .u64 (wi ((wi (Int.tdiv (imin a2 r1) 32)) - (wi (Int.tdiv (wi ((wi ((imax a1 0) + 32)) - 1)) 32)))))]) (by kernel_rfl) (bits_Len.calls w28 (IntKind.wrap .u64 (wi ((wi (Int.tdiv (imin a2 r1) 32)) - (wi (Int.tdiv (wi ((wi ((imax a1 0) + 32)) - 1)) 32))))) r30 e31) ?_)
      rintro _ w37 ⟨rfl, hS38⟩
      have hS : Sat w37 (rf w0) [] := hS.ext hS38
      refine WR.runk [5, 6] [] [0, 2, 7, 8, 9, 10] (L' := [(0, v0), (2, .int .i64 (imin a2 r1)), (7, .int .i64 (wi (Int.tdiv (wi ((wi ((imax a1 0) + 32)) - 1)) 32))), (8, .int .i64 (wi (Int.tdiv (imin a2 r1) 32))), (9, .int .i64 r21), (10, .int .i64 (wi (r30 - 1)))]) (w' := w37) (by kernel_rfl) ?_
      refine WR.nil ?_
      refine At.go ?_
      refine WC.seq (by kernel_rfl) ?_
      refine WC.reg [0, 1, 2, 3, 4, 5, 6, 7, 8, 9, 10, 11, 12, 13] (by kernel_rfl) (by kernel_rfl) ?_
      refine WR.runk [0, 1, 2] [3, 4, 5, 6, 7, 8, 9, 10, 11, 12, 13] [0, 2, 7, 8, 9, 10, 44, 45, 46] (L' := [(0, v0), (2, .int .i64 (imin a2 r1)), (7, .int .i64 (wi (Int.tdiv (wi ((wi ((imax a1 0) + 32)) - 1)) 32))), (8, .int .i64 (wi (Int.tdiv (imin a2 r1) 32))), (9, .int .i64 r21), (10, .int .i64 (wi (r30 - 1))), (44, v0), (45, .int .i64 r21), (46, v0)]) (w' := w37) (by kernel_rfl) ?_
      obtain ⟨y41, hr39, H⟩ := bind_ex H
      obtain ⟨b42, fr43, A47, c48, A50, c51, hv44, hb45, R49, R52⟩ := P65.open R0 hr39
      have R46 := R0
      rw [hv44, hr39] at R46
      try subst hv44
      replace R49 : rdS (r0 (.int .i64)) 1 (hp w0) A47 c48 y41.1 := R49
      replace R52 : rdS (rd (hp w0) (.slice 3 (.int .i64))) 1 (hp w0) A50 c51 y41.2 := R52
      refine WR.runk [3, 4] [5, 6, 7, 8, 9, 10, 11, 12, 13] [0, 2, 7, 8, 9, 10, 44, 45, 48] (L' := [(0, .pointer (some ⟨b42, 0, none⟩)), (2, .int .i64 (imin a2 r1)), (7, .int .i64 (wi (Int.tdiv (wi ((wi ((imax a1 0) + 32)) - 1)) 32))), (8, .int .i64 (wi (Int.tdiv (imin a2 r1) 32))), (9, .int .i64 r21), (10, .int .i64 (wi (r30 - 1))), (44, .pointer (some ⟨b42, 0, none⟩)), (45, .int .i64 r21), (48, .pointer (some ⟨b42, 1, none⟩))]) (w' := w37) (by kernel_rfl) ?_
      refine WR.st (St.ofR (RSt.loadRo (t := 63) (k := 1) (v := .slice A50 y41.2.length c51) (.tmp 48) (by kernel_rfl) (by kernel_rfl) (by kernel_rfl) hS.sub0 hb45 (by kernel_rfl) rfl ?_))
      refine WR.runk [6] [7, 8, 9, 10, 11, 12, 13] [0, 2, 7, 8, 9, 10, 44, 45, 49, 50] (L' := [(0, .pointer (some ⟨b42, 0, none⟩)), (2, .int .i64 (imin a2 r1)), (7, .int .i64 (wi (Int.tdiv (wi ((wi ((imax a1 0) + 32)) - 1)) 32))), (8, .int .i64 (wi (Int.tdiv (imin a2 r1) 32))), (9, .int .i64 r21), (10, .int .i64 (wi (r30 - 1))), (44, .pointer (some ⟨b42, 0, none⟩)), (45, .int .i64 r21), (49, .slice A50 y41.2.length c51), (50, .int .i64 (wi (r30 - 1)))]) (w' := w37) (by kernel_rfl) ?_
      obtain ⟨v53, e54, H⟩ := bind_ex H
      refine WR.st (St.ofP (PSt.idx (k := .i64) (.tmp 49) (.tmp 50) (by kernel_rfl) (by kernel_rfl) E63 (by kernel_rfl) (by kernel_rfl) (rdS.up R52 hS.sub0) e54 ?_))
      refine WR.runk [] [8, 9, 10, 11, 12, 13] [0, 2, 7, 8, 9, 10, 44, 45, 51] (L' := [(0, .pointer (some ⟨b42, 0, none⟩)), (2, .int .i64 (imin a2 r1)), (7, .int .i64 (wi (Int.tdiv (wi ((wi ((imax a1 0) + 32)) - 1)) 32))), (8, .int .i64 (wi (Int.tdiv (imin a2 r1) 32))), (9, .int .i64 r21), (10, .int .i64 (wi (r30 - 1))), (44, .pointer (some ⟨b42, 0, none⟩)), (45, .int .i64 r21), (51, .pointer (some (adr A50 (wi (r30 - 1)).toNat 1)))]) (w' := w37) (by kernel_rfl) ?_
      refine WR.st (St.ofR (RSt.loadSl (t := 22) (.tmp 51) (by kernel_rfl) (by kernel_rfl) (by kernel_rfl) (by kernel_rfl) R52 e54 hS.sub0 (fun A55 c56 R57 => ?_)))
      replace R57 : rdS (r0 (.int .i64)) 1 (hp w0) A55 c56 v53 := R57
      refine WR.runk [9] [10, 11, 12, 13] [0, 2, 8, 9, 10, 44, 45, 52, 53] (L' := [(0, .pointer (some ⟨b42, 0, none⟩)), (2, .int .i64 (imin a2 r1)), (8, .int .i64 (wi (Int.tdiv (imin a2 r1) 32))), (9, .int .i64 r21), (10, .int .i64 (wi (r30 - 1))), (44, .pointer (some ⟨b42, 0, none⟩)), (45, .int .i64 r21), (52, .slice A55 v53.length c56), (53, .int .i64 (wi (Int.tdiv (wi ((wi ((imax a1 0) + 32)) - 1)) 32)))]) (w' := w37) (by kernel_rfl) ?_
      obtain ⟨v58, e59, H⟩ := bind_ex H
      refine WR.st (St.ofP (PSt.idx (k := .i64) (.tmp 52) (.tmp 53) (by kernel_rfl) (by kernel_rfl) E22 (by kernel_rfl) (by kernel_rfl) (rdS.up R57 hS.sub0) e59 ?_))
      refine WR.runk [] [11, 12, 13] [0, 2, 8, 9, 10, 44, 45, 54] (L' := [(0, .pointer (some ⟨b42, 0, none⟩)), (2, .int .i64 (imin a2 r1)), (8, .int .i64 (wi (Int.tdiv (imin a2 r1) 32))), (9, .int .i64 r21), (10, .int .i64 (wi (r30 - 1))), (44, .pointer (some ⟨b42, 0, none⟩)), (45, .int .i64 r21), (54, .pointer (some (adr A55 (wi (Int.tdiv (wi ((wi ((imax a1 0) + 32)) - 1)) 32)).toNat 1)))]) (w' := w37) (by kernel_rfl) ?_
      refine WR.st (St.ofR (RSt.loadInt (t := 3) (.tmp 54) (by kernel_rfl) (by kernel_rfl) (by kernel_rfl) (by kernel_rfl) (rdS.up R57 hS.sub0) e59 ?_))
      refine WR.runk [] [12, 13] [0, 2, 8, 9, 10, 44, 45, 55] (L' := [(0, .pointer (some ⟨b42, 0, none⟩)), (2, .int .i64 (imin a2 r1)), (8, .int .i64 (wi (Int.tdiv (imin a2 r1) 32))), (9, .int .i64 r21), (10, .int .i64 (wi (r30 - 1))), (44, .pointer (some ⟨b42, 0, none⟩)), (45, .int .i64 r21), (55, .int .i64 v58)]) (w' := w37) (by kernel_rfl) ?_
      obtain ⟨r60, e61, H⟩ := bind_ex H
      refine WR.st (St.call (by kernel_rfl) (f := 30) (args := #[.pointer (some ⟨b42, 0, none⟩), .int .i64 r21, .int .i64 v58]) (by kernel_rfl) (rmq_Table_better.calls w37 (.pointer (some ⟨b42, 0, none⟩)) (some y41) (rd.mono hS.sub0 _ _ _ R46) r21 v58 r60 e61) ?_)
      rintro _ w67 ⟨rfl, hS68⟩
      have hS : Sat w67 (rf w0) [] := hS.ext hS68
      refine WR.runk [13] [] [0, 2, 8, 9, 10] (L' := [(0, .pointer (some ⟨b42, 0, none⟩)), (2, .int .i64 (imin a2 r1)), (8, .int .i64 (wi (Int.tdiv (imin a2 r1) 32))), (9, .int .i64 r60), (10, .int .i64 (wi (r30 - 1)))]) (w' := w67) (by kernel_rfl) ?_
      refine WR.nil ?_
      refine At.go ?_
      refine WC.seq (by kernel_rfl) ?_
      refine WC.drawn (by kernel_rfl) (by kernel_rfl) 17 (by kernel_rfl) (fun w69 hw70 => ?_)
      have hS := hS.heap hw70.1 hw70.2
      refine WD.weaken [0, 2, 8, 9, 10] (L' := [(0, .pointer (some ⟨b42, 0, none⟩)), (2, .int .i64 (imin a2 r1)), (8, .int .i64 (wi (Int.tdiv (imin a2 r1) 32))), (9, .int .i64 r60), (10, .int .i64 (wi (r30 - 1)))]) (by kernel_rfl) ?_
      refine WD.pure (i := 0) (v := .pointer (some ⟨b42, 0, none⟩)) (by kernel_rfl) (by kernel_rfl) (fun _ => by kernel_rfl) ?_
      refine WD.weaken [0, 2, 8, 9, 10, 57] (L' := [(0, .pointer (some ⟨b42, 0, none⟩)), (2, .int .i64 (imin a2 r1)), (8, .int .i64 (wi (Int.tdiv (imin a2 r1) 32))), (9, .int .i64 r60), (10, .int .i64 (wi (r30 - 1))), (57, .pointer (some ⟨b42, 0, none⟩))]) (by kernel_rfl) ?_
      refine WD.pure (i := 1) (v := .int .i64 r60) (by kernel_rfl) (by kernel_rfl) (fun _ => by kernel_rfl) ?_
      refine WD.weaken [0, 2, 8, 9, 10, 57, 58] (L' := [(0, .pointer (some ⟨b42, 0, none⟩)), (2, .int .i64 (imin a2 r1)), (8, .int .i64 (wi (Int.tdiv (imin a2 r1) 32))), (9, .int .i64 r60), (10, .int .i64 (wi (r30 - 1))), (57, .pointer (some ⟨b42, 0, none⟩)), (58, .int .i64 r60)]) (by kernel_rfl) ?_
      refine WD.pure (i := 2) (v := .pointer (some ⟨b42, 0, none⟩)) (by kernel_rfl) (by kernel_rfl) (fun _ => by kernel_rfl) ?_
      refine WD.weaken [0, 2, 8, 9, 10, 57, 58, 59] (L' := [(0, .pointer (some ⟨b42, 0, none⟩)), (2, .int .i64 (imin a2 r1)), (8, .int .i64 (wi (Int.tdiv (imin a2 r1) 32))), (9, .int .i64 r60), (10, .int .i64 (wi (r30 - 1))), (57, .pointer (some ⟨b42, 0, none⟩)), (58, .int .i64 r60), (59, .pointer (some ⟨b42, 0, none⟩))]) (by kernel_rfl) ?_
      refine WD.pure (i := 3) (v := .pointer (some ⟨b42, 0, none⟩)) (by kernel_rfl) (by kernel_rfl) (fun _ => by kernel_rfl) ?_
      refine WD.weaken [0, 2, 8, 9, 10, 57, 58, 60] (L' := [(0, .pointer (some ⟨b42, 0, none⟩)), (2, .int .i64 (imin a2 r1)), (8, .int .i64 (wi (Int.tdiv (imin a2 r1) 32))), (9, .int .i64 r60), (10, .int .i64 (wi (r30 - 1))), (57, .pointer (some ⟨b42, 0, none⟩)), (58, .int .i64 r60), (60, .pointer (some ⟨b42, 0, none⟩))]) (by kernel_rfl) ?_
      refine WD.pure (i := 4) (v := .pointer (some ⟨b42, 1, none⟩)) (by kernel_rfl) (by kernel_rfl) (fun _ => by kernel_rfl) ?_
      refine WD.weaken [0, 2, 8, 9, 10, 57, 58, 61] (L' := [(0, .pointer (some ⟨b42, 0, none⟩)), (2, .int .i64 (imin a2 r1)), (8, .int .i64 (wi (Int.tdiv (imin a2 r1) 32))), (9, .int .i64 r60), (10, .int .i64 (wi (r30 - 1))), (57, .pointer (some ⟨b42, 0, none⟩)), (58, .int .i64 r60), (61, .pointer (some ⟨b42, 1, none⟩))]) (by kernel_rfl) ?_
      refine WD.ofR (i := 5) (by kernel_rfl) (RSt.loadRo (t := 63) (k := 1) (v := .slice A50 y41.2.length c51) (.tmp 61) (by kernel_rfl) (by kernel_rfl) (by kernel_rfl) hS.sub0 hb45 (by kernel_rfl) rfl ?_)
      refine WD.weaken [0, 2, 8, 9, 10, 57, 58, 62] (L' := [(0, .pointer (some ⟨b42, 0, none⟩)), (2, .int .i64 (imin a2 r1)), (8, .int .i64 (wi (Int.tdiv (imin a2 r1) 32))), (9, .int .i64 r60), (10, .int .i64 (wi (r30 - 1))), (57, .pointer (some ⟨b42, 0, none⟩)), (58, .int .i64 r60), (62, .slice A50 y41.2.length c51)]) (by kernel_rfl) ?_
      refine WD.pure (i := 6) (v := .int .i64 (wi (r30 - 1))) (by kernel_rfl) (by kernel_rfl) (fun _ => by kernel_rfl) ?_
      refine WD.weaken [0, 2, 8, 9, 10, 57, 58, 62, 63] (L' := [(0, .pointer (some ⟨b42, 0, none⟩)), (2, .int .i64 (imin a2 r1)), (8, .int .i64 (wi (Int.tdiv (imin a2 r1) 32))), (9, .int .i64 r60), (10, .int .i64 (wi (r30 - 1))), (57, .pointer (some ⟨b42, 0, none⟩)), (58, .int .i64 r60), (62, .slice A50 y41.2.length c51), (63, .int .i64 (wi (r30 - 1)))]) (by kernel_rfl) ?_
      refine WD.ofP (i := 7) (by kernel_rfl) (PSt.idx (k := .i64) (.tmp 62) (.tmp 63) (by kernel_rfl) (by kernel_rfl) E63 (by kernel_rfl) (by kernel_rfl) (rdS.up R52 hS.sub0) e54 ?_)
      refine WD.weaken [0, 2, 8, 9, 10, 57, 58, 64] (L' := [(0, .pointer (some ⟨b42, 0, none⟩)), (2, .int .i64 (imin a2 r1)), (8, .int .i64 (wi (Int.tdiv (imin a2 r1) 32))), (9, .int .i64 r60), (10, .int .i64 (wi (r30 - 1))), (57, .pointer (some ⟨b42, 0, none⟩)), (58, .int .i64 r60), (64, .pointer (some (adr A50 (wi (r30 - 1)).toNat 1)))]) (by kernel_rfl) ?_
      refine WD.ofR (i := 8) (by kernel_rfl) (RSt.loadSl (t := 22) (.tmp 64) (by kernel_rfl) (by kernel_rfl) (by kernel_rfl) (by kernel_rfl) R52 e54 hS.sub0 (fun A71 c72 R73 => ?_))
      replace R73 : rdS (r0 (.int .i64)) 1 (hp w0) A71 c72 v53 := R73
      refine WD.weaken [0, 2, 8, 9, 10, 57, 58, 65] (L' := [(0, .pointer (some ⟨b42, 0, none⟩)), (2, .int .i64 (imin a2 r1)), (8, .int .i64 (wi (Int.tdiv (imin a2 r1) 32))), (9, .int .i64 r60), (10, .int .i64 (wi (r30 - 1))), (57, .pointer (some ⟨b42, 0, none⟩)), (58, .int .i64 r60), (65, .slice A71 v53.length c72)]) (by kernel_rfl) ?_
      refine WD.pure (i := 9) (v := .int .i64 (wi (Int.tdiv (imin a2 r1) 32))) (by kernel_rfl) (by kernel_rfl) (fun _ => by kernel_rfl) ?_
      refine WD.weaken [0, 2, 8, 9, 10, 57, 58, 65, 66] (L' := [(0, .pointer (some ⟨b42, 0, none⟩)), (2, .int .i64 (imin a2 r1)), (8, .int .i64 (wi (Int.tdiv (imin a2 r1) 32))), (9, .int .i64 r60), (10, .int .i64 (wi (r30 - 1))), (57, .pointer (some ⟨b42, 0, none⟩)), (58, .int .i64 r60), (65, .slice A71 v53.length c72), (66, .int .i64 (wi (Int.tdiv (imin a2 r1) 32)))]) (by kernel_rfl) ?_
      refine WD.pure (i := 10) (v := .int .i64 (wi (r30 - 1))) (by kernel_rfl) (by kernel_rfl) (fun _ => by kernel_rfl) ?_
      refine WD.weaken [0, 2, 8, 9, 57, 58, 65, 66, 67] (L' := [(0, .pointer (some ⟨b42, 0, none⟩)), (2, .int .i64 (imin a2 r1)), (8, .int .i64 (wi (Int.tdiv (imin a2 r1) 32))), (9, .int .i64 r60), (57, .pointer (some ⟨b42, 0, none⟩)), (58, .int .i64 r60), (65, .slice A71 v53.length c72), (66, .int .i64 (wi (Int.tdiv (imin a2 r1) 32))), (67, .int .i64 (wi (r30 - 1)))]) (by kernel_rfl) ?_
      obtain ⟨_, e74, H⟩ := bind_ex H
      refine WD.ofP (i := 11) (by kernel_rfl) (PSt.shift (k := .i64) (k2 := .i64) (t := 3) (t2 := 3) (a := 1) (b := (wi (r30 - 1))) .shl (by decide) (.const (.int .i64 1)) (.tmp 67) (by kernel_rfl) (by kernel_rfl) (by kernel_rfl) (by kernel_rfl) (of_decide_eq_true (chk?_some e74)) ?_)
      refine WD.weaken [0, 2, 8, 9, 57, 58, 65, 66, 68] (L' := [(0, .pointer (some ⟨b42, 0, none⟩)), (2, .int .i64 (imin a2 r1)), (8, .int .i64 (wi (Int.tdiv (imin a2 r1) 32))), (9, .int .i64 r60), (57, .pointer (some ⟨b42, 0, none⟩)), (58, .int .i64 r60), (65, .slice A71 v53.length c72), (66, .int .i64 (wi (Int.tdiv (imin a2 r1) 32))), (68, .int .i64 (ishl .i64 1 (wi (r30 - 1))))]) (by kernel_rfl) ?_
      refine WD.pure (i := 12) (v := .int .i64 (wi ((wi (Int.tdiv (imin a2 r1) 32)) - (ishl .i64 1 (wi (r30 - 1)))))) (by kernel_rfl) (by kernel_rfl) (fun _ => by kernel_rfl) ?_
      refine WD.weaken [0, 2, 8, 9, 57, 58, 65, 69] (L' := [(0, .pointer (some ⟨b42, 0, none⟩)), (2, .int .i64 (imin a2 r1)), (8, .int .i64 (wi (Int.tdiv (imin a2 r1) 32))), (9, .int .i64 r60), (57, .pointer (some ⟨b42, 0, none⟩)), (58, .int .i64 r60), (65, .slice A71 v53.length c72), (69, .int .i64 (wi ((wi (Int.tdiv (imin a2 r1) 32)) - (ishl .i64 1 (wi (r30 - 1))))))]) (by kernel_rfl) ?_
      obtain ⟨v75, e76, H⟩ := bind_ex H
      refine WD.ofP (i := 13) (by kernel_rfl) (PSt.idx (k := .i64) (.tmp 65) (.tmp 69) (by kernel_rfl) (by kernel_rfl) E22 (by kernel_rfl) (by kernel_rfl) (rdS.up R73 hS.sub0) e76 ?_)
      refine WD.weaken [0, 2, 8, 9, 57, 58, 70] (L' := [(0, .pointer (some ⟨b42, 0, none⟩)), (2, .int .i64 (imin a2 r1)), (8, .int .i64 (wi (Int.tdiv (imin a2 r1) 32))), (9, .int .i64 r60), (57, .pointer (some ⟨b42, 0, none⟩)), (58, .int .i64 r60), (70, .pointer (some (adr A71 (wi ((wi (Int.tdiv (imin a2 r1) 32)) - (ishl .i64 1 (wi (r30 - 1))))).toNat 1)))]) (by kernel_rfl) ?_
      refine WD.ofR (i := 14) (by kernel_rfl) (RSt.loadInt (t := 3) (.tmp 70) (by kernel_rfl) (by kernel_rfl) (by kernel_rfl) (by kernel_rfl) (rdS.up R73 hS.sub0) e76 ?_)
      refine WD.weaken [0, 2, 8, 9, 57, 58, 71] (L' := [(0, .pointer (some ⟨b42, 0, none⟩)), (2, .int .i64 (imin a2 r1)), (8, .int .i64 (wi (Int.tdiv (imin a2 r1) 32))), (9, .int .i64 r60), (57, .pointer (some ⟨b42, 0, none⟩)), (58, .int .i64 r60), (71, .int .i64 v75)]) (by kernel_rfl) ?_
      obtain ⟨r77, e78, H⟩ := bind_ex H
      refine WD.act (i := 15) (by kernel_rfl) (St.call (by kernel_rfl) (f := 30) (args := #[.pointer (some ⟨b42, 0, none⟩), .int .i64 r60, .int .i64 v75]) (by kernel_rfl) (rmq_Table_better.calls w69 (.pointer (some ⟨b42, 0, none⟩)) (some y41) (rd.mono hS.sub0 _ _ _ R46) r60 v75 r77 e78) ?_)
      rintro _ w84 ⟨rfl, hS85⟩
      have hS : Sat w84 (rf w0) [] := hS.ext hS85
      refine ⟨(asked.anc (by kernel_rfl) (asked.anc (by kernel_rfl) (asked.anc (by kernel_rfl) (asked.nil _ _)))), ?_⟩
      refine WD.weaken [0, 2, 8, 9, 72] (L' := [(0, .pointer (some ⟨b42, 0, none⟩)), (2, .int .i64 (imin a2 r1)), (8, .int .i64 (wi (Int.tdiv (imin a2 r1) 32))), (9, .int .i64 r60), (72, .int .i64 r77)]) (by kernel_rfl) ?_
      refine WD.pure (i := 16) (v := .int .i64 r77) (by kernel_rfl) (by kernel_rfl) (fun _ => by kernel_rfl) ?_
      refine WD.weaken [0, 2, 8, 9] (L' := [(0, .pointer (some ⟨b42, 0, none⟩)), (2, .int .i64 (imin a2 r1)), (8, .int .i64 (wi (Int.tdiv (imin a2 r1) 32))), (9, .int .i64 r77)]) (by kernel_rfl) ?_
      refine WD.nil (by kernel_rfl) ?_
      refine At.go ?_
      refine WC.seq (by kernel_rfl) ?_
      refine WC.reg [0, 1, 2, 3, 4, 5, 6, 7, 8] (by kernel_rfl) (by kernel_rfl) ?_
      refine WR.runk [0, 1, 2, 3, 4, 5] [6, 7, 8] [73, 74, 75, 77, 78] (L' := [(73, .pointer (some ⟨b42, 0, none⟩)), (74, .int .i64 r77), (75, .pointer (some ⟨b42, 0, none⟩)), (77, .int .i64 (wi ((wi (Int.tdiv (imin a2 r1) 32)) * 32))), (78, .int .i64 (imin a2 r1))]) (w' := w84) (by kernel_rfl) ?_
      obtain ⟨r86, e87, H⟩ := bind_ex H
      refine WR.st (St.call (by kernel_rfl) (f := 29) (args := #[.pointer (some ⟨b42, 0, none⟩), .int .i64 (wi ((wi (Int.tdiv (imin a2 r1) 32)) * 32)), .int .i64 (imin a2 r1)]) (by kernel_rfl) (rmq_Table_scan.calls w84 (.pointer (some ⟨b42, 0, none⟩)) (some y41) (rd.mono hS.sub0 _ _ _ R46) (wi ((wi (Int.tdiv (imin a2 r1) 32)) * 32)) (imin a2 r1) r86 e87) ?_)
      rintro _ w93 ⟨rfl, hS94⟩
      have hS : Sat w93 (rf w0) [] := hS.ext hS94
      refine WR.runk [] [7, 8] [73, 74, 79] (L' := [(73, .pointer (some ⟨b42, 0, none⟩)), (74, .int .i64 r77), (79, .int .i64 r86)]) (w' := w93) (by kernel_rfl) ?_
      obtain ⟨r95, e96, H⟩ := bind_ex H
      refine WR.st (St.call (by kernel_rfl) (f := 30) (args := #[.pointer (some ⟨b42, 0, none⟩), .int .i64 r77, .int .i64 r86]) (by kernel_rfl) (rmq_Table_better.calls w93 (.pointer (some ⟨b42, 0, none⟩)) (some y41) (rd.mono hS.sub0 _ _ _ R46) r77 r86 r95 e96) ?_)
      rintro _ w102 ⟨rfl, hS103⟩
      have hS : Sat w102 (rf w0) [] := hS.ext hS103
      refine WR.runk [8] [] [6] (L' := [(6, .int .i64 r95)]) (w' := w102) (by kernel_rfl) ?_
      refine WR.nil ?_
      refine At.go ?_
      refine WC.ret (by kernel_rfl) ?_
      obtain rfl := Option.some.inj H
      have hS : Sat w102 (rf w0) [] := hS.sel [] (by kernel_rfl)
      exact At.body [.int .i64 r95] (by kernel_rfl) ⟨_, rfl, rfl, hS⟩
/-! ### 33 colophon/pack.need -/
def pack_need.f (a0 : Int) (a1 : Int) : Option Int := some (wi (Int.tdiv (wi ((wi (a0 * a1)) + 63)) 64))
def pack_need.post (w : World) (r : Int) (v : Value) (w' : World) : Prop := v = (.int .i64 r : Value) ∧ Sat w' (rf w) []
theorem pack_need.calls (w0 : World) (a0 : Int) (a1 : Int) (r : Int) (H : pack_need.f a0 a1 = some r) :
    Calls Try.prog 33 #[.int .i64 a0, .int .i64 a1] w0 (fun e w' => ∃ v, e = .returned v ∧ pack_need.post w0 r v w') := by
  have hS : Sat w0 (rf w0) [] := Sat.start w0
  unfold pack_need.f at H
  refine calls_of_WC (vs := [.int .i64 a0, .int .i64 a1]) Try.func33 (c := C33) (n := 10) (by kernel_rfl) (by kernel_rfl) (by kernel_rfl) ?_
  refine WC.seq (by kernel_rfl) ?_
  refine WC.reg [0] (by kernel_rfl) (by kernel_rfl) ?_
  refine WR.runk [0] [] [0, 1] (L' := [(0, .int .i64 a0), (1, .int .i64 a1)]) (w' := w0) (by kernel_rfl) ?_
  refine WR.nil ?_
  refine At.go ?_
  refine WC.seq (by kernel_rfl) ?_
  refine WC.reg [0, 1, 2, 3, 4, 5] (by kernel_rfl) (by kernel_rfl) ?_
  refine WR.runk [0, 1, 2, 3, 4, 5] [] [4] (L' := [(4, .int .i64 (wi (Int.tdiv (wi ((wi (a0 * a1)) + 63)) 64)))]) (w' := w0) (by kernel_rfl) ?_
  refine WR.nil ?_
  refine At.go ?_
  refine WC.ret (by kernel_rfl) ?_
  obtain rfl := Option.some.inj H
  have hS : Sat w0 (rf w0) [] := hS.sel [] (by kernel_rfl)
  exact At.body [.int .i64 (wi (Int.tdiv (wi ((wi (a0 * a1)) + 63)) 64))] (by kernel_rfl) ⟨_, rfl, rfl, hS⟩
/-! ### 20 colophon/pack.New -/
def pack_New.f (a0 : Int) (a1 : Int) : Option ((Option (Int × Int × (List Int))) × Int) := (if decide (a0 < 1) then some (none, 2) else (if decide (a0 > 64) then some (none, 2) else (if decide (a1 < 0) then some (none, 2) else (if decide (a1 > 4194304) then some (none, 2) else ((pack_need.f a0 a1).bind fun r5 => ((make? 17592186044416 0 r5).bind fun y14 => some (some (a0, a1, y14), 0)))))))
def pack_New.post (w : World) (r : (Option (Int × Int × (List Int))) × Int) (v : Value) (w' : World) : Prop := ∃ (v0 : Value), v = .tuple #[v0, .int .i64 r.2] ∧ Sat w' (rf w) [optP O72 v0 r.1]
theorem pack_New.calls (w0 : World) (a0 : Int) (a1 : Int) (r : (Option (Int × Int × (List Int))) × Int) (H : pack_New.f a0 a1 = some r) :
    Calls Try.prog 20 #[.int .i64 a0, .int .i64 a1] w0 (fun e w' => ∃ v, e = .returned v ∧ pack_New.post w0 r v w') := by
  have hS : Sat w0 (rf w0) [] := Sat.start w0
  unfold pack_New.f at H
  refine calls_of_WC (vs := [.int .i64 a0, .int .i64 a1]) Try.func20 (c := C20) (n := 28) (by kernel_rfl) (by kernel_rfl) (by kernel_rfl) ?_
  refine WC.seq (by kernel_rfl) ?_
  refine WC.reg [0, 1] (by kernel_rfl) (by kernel_rfl) ?_
  refine WR.runk [0, 1] [] [0, 1] (L' := [(0, .int .i64 a0), (1, .int .i64 a1)]) (w' := w0) (by kernel_rfl) ?_
  refine WR.nil ?_
  refine At.go ?_
  refine WC.seq (by kernel_rfl) ?_
  refine WC.seq (by kernel_rfl) ?_
  refine WC.reg [0, 1, 2, 3, 4, 5, 6, 7, 8, 9, 10, 11, 12, 13] (by kernel_rfl) (by kernel_rfl) ?_
  refine WR.runk [0, 1, 2] [3, 4, 5, 6, 7, 8, 9, 10, 11, 12, 13] [0, 1, 8] (L' := [(0, .int .i64 a0), (1, .int .i64 a1), (8, .bool (decide (a0 < 1)))]) (w' := w0) (by kernel_rfl) ?_
  refine WR.split 8 (b := decide (a0 < 1)) (by kernel_rfl) (fun hb1 => ?_) (fun hb1 => ?_)
  · replace H := ite_t H hb1
    refine WR.runk [3, 4, 5, 6, 7, 8, 9, 10, 11, 12, 13] [] [0, 1, 19] (L' := [(0, .int .i64 a0), (1, .int .i64 a1), (19, .bool true)]) (w' := w0) (by kernel_rfl) ?_
    refine WR.nil ?_
    refine At.go ?_
    refine WC.condT (by kernel_rfl) (by kernel_rfl) (by kernel_rfl) ?_
    refine WC.seq (by kernel_rfl) ?_
    refine WC.reg [0, 1] (by kernel_rfl) (by kernel_rfl) ?_
    refine WR.runk [0, 1] [] [4, 5] (L' := [(4, .pointer none), (5, .int .i64 2)]) (w' := w0) (by kernel_rfl) ?_
    refine WR.nil ?_
    refine At.go ?_
    refine WC.ret (by kernel_rfl) ?_
    refine At.thenRet ?_
    obtain rfl := Option.some.inj H
    have hS := optP.nil (O := O72) hS
    have hS : Sat w0 (rf w0) [optP O72 (.pointer none) none] := hS.sel [0] (by kernel_rfl)
    exact At.body [.pointer none, .int .i64 2] (by kernel_rfl) ⟨_, rfl, _, rfl, hS⟩
  · replace H := ite_f H hb1
    refine WR.runk [3, 4, 5, 6] [7, 8, 9, 10, 11, 12, 13] [0, 1, 12] (L' := [(0, .int .i64 a0), (1, .int .i64 a1), (12, .bool (decide (a0 > 64)))]) (w' := w0) (by kernel_rfl) ?_
    refine WR.split 12 (b := decide (a0 > 64)) (by kernel_rfl) (fun hb2 => ?_) (fun hb2 => ?_)
    · replace H := ite_t H hb2
      refine WR.runk [7, 8, 9, 10, 11, 12, 13] [] [0, 1, 19] (L' := [(0, .int .i64 a0), (1, .int .i64 a1), (19, .bool true)]) (w' := w0) (by kernel_rfl) ?_
      refine WR.nil ?_
      refine At.go ?_
      refine WC.condT (by kernel_rfl) (by kernel_rfl) (by kernel_rfl) ?_
      refine WC.seq (by kernel_rfl) ?_
      refine WC.reg [0, 1] (by kernel_rfl) (by kernel_rfl) ?_
      refine WR.runk [0, 1] [] [4, 5] (L' := [(4, .pointer none), (5, .int .i64 2)]) (w' := w0) (by kernel_rfl) ?_
      refine WR.nil ?_
      refine At.go ?_
      refine WC.ret (by kernel_rfl) ?_
      refine At.thenRet ?_
      obtain rfl := Option.some.inj H
      have hS := optP.nil (O := O72) hS
      have hS : Sat w0 (rf w0) [optP O72 (.pointer none) none] := hS.sel [0] (by kernel_rfl)
      exact At.body [.pointer none, .int .i64 2] (by kernel_rfl) ⟨_, rfl, _, rfl, hS⟩
    · replace H := ite_f H hb2
      refine WR.runk [7, 8, 9, 10] [11, 12, 13] [0, 1, 16] (L' := [(0, .int .i64 a0), (1, .int .i64 a1), (16, .bool (decide (a1 < 0)))]) (w' := w0) (by kernel_rfl) ?_
      refine WR.split 16 (b := decide (a1 < 0)) (by kernel_rfl) (fun hb3 => ?_) (fun hb3 => ?_)
      · replace H := ite_t H hb3
        refine WR.runk [11, 12, 13] [] [0, 1, 19] (L' := [(0, .int .i64 a0), (1, .int .i64 a1), (19, .bool true)]) (w' := w0) (by kernel_rfl) ?_
        refine WR.nil ?_
        refine At.go ?_
        refine WC.condT (by kernel_rfl) (by kernel_rfl) (by kernel_rfl) ?_
        refine WC.seq (by kernel_rfl) ?_
        refine WC.reg [0, 1] (by kernel_rfl) (by kernel_rfl) ?_
        refine WR.runk [0, 1] [] [4, 5] (L' := [(4, .pointer none), (5, .int .i64 2)]) (w' := w0) (by kernel_rfl) ?_
        refine WR.nil ?_
        refine At.go ?_
        refine WC.ret (by kernel_rfl) ?_
        refine At.thenRet ?_
        obtain rfl := Option.some.inj H
        have hS := optP.nil (O := O72) hS
        have hS : Sat w0 (rf w0) [optP O72 (.pointer none) none] := hS.sel [0] (by kernel_rfl)
        exact At.body [.pointer none, .int .i64 2] (by kernel_rfl) ⟨_, rfl, _, rfl, hS⟩
      · replace H := ite_f H hb3
        refine WR.runk [11, 12, 13] [] [0, 1, 19] (L' := [(0, .int .i64 a0), (1, .int .i64 a1), (19, .bool (decide (a1 > 4194304)))]) (w' := w0) (by kernel_rfl) ?_
        refine WR.nil ?_
        refine At.go ?_
        refine WC.cond (by kernel_rfl) (decide (a1 > 4194304)) (by kernel_rfl) (by kernel_rfl) (fun hb4 => ?_) (fun hb4 => ?_)
        · replace H := ite_t H hb4
          refine WC.seq (by kernel_rfl) ?_
          refine WC.reg [0, 1] (by kernel_rfl) (by kernel_rfl) ?_
          refine WR.runk [0, 1] [] [4, 5] (L' := [(4, .pointer none), (5, .int .i64 2)]) (w' := w0) (by kernel_rfl) ?_
          refine WR.nil ?_
          refine At.go ?_
          refine WC.ret (by kernel_rfl) ?_
          refine At.thenRet ?_
          obtain rfl := Option.some.inj H
          have hS := optP.nil (O := O72) hS
          have hS : Sat w0 (rf w0) [optP O72 (.pointer none) none] := hS.sel [0] (by kernel_rfl)
          exact At.body [.pointer none, .int .i64 2] (by kernel_rfl) ⟨_, rfl, _, rfl, hS⟩
        · replace H := ite_f H hb4
          refine WC.skip (by kernel_rfl) ?_
          refine At.go ?_
          refine WC.seq (by kernel_rfl) ?_
          refine WC.reg [0, 1, 2, 3, 4, 5, 6, 7, 8, 9] (by kernel_rfl) (by kernel_rfl) ?_
          refine WR.runk [0, 1, 2, 3] [4, 5, 6, 7, 8, 9] [20, 21, 22, 23] (L' := [(20, .int .i64 a0), (21, .int .i64 a1), (22, .int .i64 a0), (23, .int .i64 a1)]) (w' := w0) (by kernel_rfl) ?_
          obtain ⟨r5, e6, H⟩ := bind_ex H
          refine WR.st (St.call (by kernel_rfl) (f := 33) (args := #[.int .i64 a0, .int .i64 a1]) (by kernel_rfl) (pack_need.calls w0 a0 a1 r5 e6) ?_)
          rintro _ w12 ⟨rfl, hS13⟩
          have hS : Sat w12 (rf w0) [] := hS.ext hS13
          refine WR.runk [] [5, 6, 7, 8, 9] [20, 21, 24] (L' := [(20, .int .i64 a0), (21, .int .i64 a1), (24, .int .i64 r5)]) (w' := w12) (by kernel_rfl) ?_
          obtain ⟨y14, e15, H⟩ := bind_ex H
          refine WR.st (St.make' (t := 70) (e := 55) (sz := 1) (bytes := 8) (k1 := .i64) (k2 := .i64) (R := (r0 (.int .u64))) (.tmp 24) (.tmp 24) (by kernel_rfl) (by kernel_rfl) (.int .u64 0) (by kernel_rfl) (by kernel_rfl) rfl (by kernel_rfl) hS (by kernel_rfl) (by kernel_rfl) 17592186044416 (by kernel_rfl) (by kernel_rfl) e15 (fun A16 c17 w18 hS => ?_))
          refine WR.runk [6] [7, 8, 9] [26] (L' := [(26, .agg #[.int .i64 a0, .int .i64 a1, .slice A16 y14.length c17])]) (w' := w18) (by kernel_rfl) ?_
          refine WR.st (St.box hS (by kernel_rfl) (.cells #[.int .i64 a0, .int .i64 a1, .slice A16 y14.length c17] 72) (fun b19 => .pointer (some ⟨b19, 0, none⟩)) (fun _ => by kernel_rfl) (fun b19 w20 hS => ?_))
          refine WR.runk [8, 9] [] [4, 5] (L' := [(4, .pointer (some ⟨b19, 0, none⟩)), (5, .int .i64 0)]) (w' := w20) (by kernel_rfl) ?_
          refine WR.nil ?_
          refine At.go ?_
          refine WC.ret (by kernel_rfl) ?_
          obtain rfl := Option.some.inj H
          have hS : Sat w20 (rf w0) [pts b19 (.cells #[.int .i64 a0, .int .i64 a1, .slice A16 y14.length c17] 72 (0, 0)), osl 55 (r0 (.int .u64)) 1 A16 c17 y14] := hS.sel [0, 1] (by kernel_rfl)
          have hS : Sat w20 (rf w0) [O72 b19 (a0, a1, y14)] := O72.close (a0, a1, y14) A16 c17 hS
          have hS : Sat w20 (rf w0) [optP O72 (.pointer (some ⟨b19, 0, none⟩)) (some (a0, a1, y14))] := optP.mk hS
          have hS : Sat w20 (rf w0) [optP O72 (.pointer (some ⟨b19, 0, none⟩)) (some (a0, a1, y14))] := hS.sel [0] (by kernel_rfl)
          exact At.body [.pointer (some ⟨b19, 0, none⟩), .int .i64 0] (by kernel_rfl) ⟨_, rfl, _, rfl, hS⟩
/-! ### 34 colophon/pack.mask -/
def pack_mask.f (a0 : Int) : Option Int := ((chk? (decide (0 ≤ (wi (64 - a0))))).bind fun _ => some (ishr .u64 18446744073709551615 (wi (64 - a0))))
def pack_mask.post (w : World) (r : Int) (v : Value) (w' : World) : Prop := v = (.int .u64 r : Value) ∧ Sat w' (rf w) []
theorem pack_mask.calls (w0 : World) (a0 : Int) (r : Int) (H : pack_mask.f a0 = some r) :
    Calls Try.prog 34 #[.int .i64 a0] w0 (fun e w' => ∃ v, e = .returned v ∧ pack_mask.post w0 r v w') := by
  have hS : Sat w0 (rf w0) [] := Sat.start w0
  unfold pack_mask.f at H
  refine calls_of_WC (vs := [.int .i64 a0]) Try.func34 (c := C34) (n := 6) (by kernel_rfl) (by kernel_rfl) (by kernel_rfl) ?_
  refine WC.seq (by kernel_rfl) ?_
  refine WC.reg [0] (by kernel_rfl) (by kernel_rfl) ?_
  refine WR.runk [0] [] [0] (L' := [(0, .int .i64 a0)]) (w' := w0) (by kernel_rfl) ?_
  refine WR.nil ?_
  refine At.go ?_
  refine WC.seq (by kernel_rfl) ?_
  refine WC.reg [0, 1, 2, 3] (by kernel_rfl) (by kernel_rfl) ?_
  refine WR.runk [0, 1] [2, 3] [4] (L' := [(4, .int .i64 (wi (64 - a0)))]) (w' := w0) (by kernel_rfl) ?_
  obtain ⟨_, e1, H⟩ := bind_ex H
  refine WR.st (St.ofP (PSt.shift (k := .u64) (k2 := .i64) (t := 55) (t2 := 3) (a := 18446744073709551615) (b := (wi (64 - a0))) .shr (by decide) (.const (.int .u64 18446744073709551615)) (.tmp 4) (by kernel_rfl) (by kernel_rfl) (by kernel_rfl) (by kernel_rfl) (of_decide_eq_true (chk?_some e1)) ?_))
  refine WR.runk [3] [] [2] (L' := [(2, .int .u64 (ishr .u64 18446744073709551615 (wi (64 - a0))))]) (w' := w0) (by kernel_rfl) ?_
  refine WR.nil ?_
  refine At.go ?_
  refine WC.ret (by kernel_rfl) ?_
  obtain rfl := Option.some.inj H
  have hS : Sat w0 (rf w0) [] := hS.sel [] (by kernel_rfl)
  exact At.body [.int .u64 (ishr .u64 18446744073709551615 (wi (64 - a0)))] (by kernel_rfl) ⟨_, rfl, rfl, hS⟩
/-! ### 21 (*colophon/pack.Ints).Set -/
def pack_Ints_Set.f (p0 : Int × Int × (List Int)) (a1 : Int) (a2 : Int) : Option (Bool × (Int × Int × (List Int))) := (if decide (a1 < 0) then some (false, p0) else (if decide (a1 ≥ p0.2.1) then some (false, p0) else ((pack_mask.f p0.1).bind fun r5 => (if decide (a2 > r5) then some (false, p0) else ((pack_mask.f p0.1).bind fun r15 => ((at? p0.2.2 (wi (Int.tdiv (wi (a1 * p0.1)) 64))).bind fun v26 => ((chk? (decide (0 ≤ (Int.tmod (wi (a1 * p0.1)) 64)))).bind fun _ => ((chk? (decide (0 ≤ (Int.tmod (wi (a1 * p0.1)) 64)))).bind fun _ => ((set? p0.2.2 (wi (Int.tdiv (wi (a1 * p0.1)) 64)) (ior .u64 (iandn .u64 v26 (ishl .u64 r15 (Int.tmod (wi (a1 * p0.1)) 64))) (ishl .u64 a2 (Int.tmod (wi (a1 * p0.1)) 64)))).bind fun y30 => (if decide (wi ((Int.tmod (wi (a1 * p0.1)) 64) + p0.1) > 64) then ((at? y30 (wi ((wi (Int.tdiv (wi (a1 * p0.1)) 64)) + 1))).bind fun v37 => ((chk? (decide (0 ≤ (wi (64 - (Int.tmod (wi (a1 * p0.1)) 64)))))).bind fun _ => ((chk? (decide (0 ≤ (wi (64 - (Int.tmod (wi (a1 * p0.1)) 64)))))).bind fun _ => ((set? y30 (wi ((wi (Int.tdiv (wi (a1 * p0.1)) 64)) + 1)) (ior .u64 (iandn .u64 v37 (ishr .u64 r15 (wi (64 - (Int.tmod (wi (a1 * p0.1)) 64))))) (ishr .u64 a2 (wi (64 - (Int.tmod (wi (a1 * p0.1)) 64)))))).bind fun y41 => some (true, (p0.1, p0.2.1, y41)))))) else some (true, (p0.1, p0.2.1, y30))))))))))))
def pack_Ints_Set.post (B : Rf) (b0 : Nat) (p0 : Int × Int × (List Int)) (w : World) (r : Bool × (Int × Int × (List Int))) (v : Value) (w' : World) : Prop := v = (.bool r.1 : Value) ∧ Sat w' B [O72 b0 r.2]
theorem pack_Ints_Set.calls (B : Rf) (w0 : World) (b0 : Nat) (p0 : Int × Int × (List Int)) (hS : Sat w0 B [O72 b0 p0]) (a1 : Int) (a2 : Int) (r : Bool × (Int × Int × (List Int))) (H : pack_Ints_Set.f p0 a1 a2 = some r) :
    Calls Try.prog 21 #[.pointer (some ⟨b0, 0, none⟩), .int .i64 a1, .int .u64 a2] w0 (fun e w' => ∃ v, e = .returned v ∧ pack_Ints_Set.post B b0 p0 w0 r v w') := by
  unfold pack_Ints_Set.f at H
  refine calls_of_WC (vs := [.pointer (some ⟨b0, 0, none⟩), .int .i64 a1, .int .u64 a2]) Try.func21 (c := C21) (n := 102) (by kernel_rfl) (by kernel_rfl) (by kernel_rfl) ?_
  refine WC.seq (by kernel_rfl) ?_
  refine WC.reg [0] (by kernel_rfl) (by kernel_rfl) ?_
  refine WR.runk [0] [] [0, 1, 2] (L' := [(0, .pointer (some ⟨b0, 0, none⟩)), (1, .int .i64 a1), (2, .int .u64 a2)]) (w' := w0) (by kernel_rfl) ?_
  refine WR.nil ?_
  refine At.go ?_
  refine WC.seq (by kernel_rfl) ?_
  refine WC.seq (by kernel_rfl) ?_
  refine WC.reg [0, 1, 2, 3, 4, 5, 6, 7, 8, 9, 10, 11, 12, 13, 14, 15, 16, 17, 18, 19, 20, 21, 22] (by kernel_rfl) (by kernel_rfl) ?_
  refine WR.runk [0, 1, 2, 3, 4, 5, 6] [7, 8, 9, 10, 11, 12, 13, 14, 15, 16, 17, 18, 19, 20, 21, 22] [0, 1, 2, 17] (L' := [(0, .pointer (some ⟨b0, 0, none⟩)), (1, .int .i64 a1), (2, .int .u64 a2), (17, .bool (decide (a1 < 0)))]) (w' := w0) (by kernel_rfl) ?_
  refine WR.split 17 (b := decide (a1 < 0)) (by kernel_rfl) (fun hb1 => ?_) (fun hb1 => ?_)
  · replace H := ite_t H hb1
    refine WR.runk [7, 8, 9, 10, 11, 12, 13, 14, 15, 16, 17, 18, 19, 20, 21, 22] [] [0, 1, 2, 33] (L' := [(0, .pointer (some ⟨b0, 0, none⟩)), (1, .int .i64 a1), (2, .int .u64 a2), (33, .bool true)]) (w' := w0) (by kernel_rfl) ?_
    refine WR.nil ?_
    refine At.go ?_
    refine WC.condT (by kernel_rfl) (by kernel_rfl) (by kernel_rfl) ?_
    refine WC.seq (by kernel_rfl) ?_
    refine WC.reg [0] (by kernel_rfl) (by kernel_rfl) ?_
    refine WR.runk [0] [] [6] (L' := [(6, .bool false)]) (w' := w0) (by kernel_rfl) ?_
    refine WR.nil ?_
    refine At.go ?_
    refine WC.ret (by kernel_rfl) ?_
    refine At.thenRet ?_
    obtain rfl := Option.some.inj H
    have hS : Sat w0 B [O72 b0 p0] := hS.sel [0] (by kernel_rfl)
    exact At.body [.bool false] (by kernel_rfl) ⟨_, rfl, rfl, hS⟩
  · replace H := ite_f H hb1
    refine WR.runk [7, 8, 9, 10] [11, 12, 13, 14, 15, 16, 17, 18, 19, 20, 21, 22] [0, 1, 2, 17, 18, 21] (L' := [(0, .pointer (some ⟨b0, 0, none⟩)), (1, .int .i64 a1), (2, .int .u64 a2), (17, .bool false), (18, .int .i64 a1), (21, .pointer (some ⟨b0, 1, none⟩))]) (w' := w0) (by kernel_rfl) ?_
    obtain ⟨A2, c3, hS⟩ := O72.open hS
    have hS : Sat w0 B [pts b0 (.cells #[.int .i64 p0.1, .int .i64 p0.2.1, .slice A2 p0.2.2.length c3] 72 (0, 0)), osl 55 (r0 (.int .u64)) 1 A2 c3 p0.2.2] := hS
    refine WR.st (St.ofR (RSt.loadObj (t := 3) (k := 1) (v := .int .i64 p0.2.1) (.tmp 21) (by kernel_rfl) (by kernel_rfl) (by kernel_rfl) 0 hS rfl (by kernel_rfl) rfl ?_))
    refine WR.runk [12, 13, 14] [15, 16, 17, 18, 19, 20, 21, 22] [0, 1, 2, 25] (L' := [(0, .pointer (some ⟨b0, 0, none⟩)), (1, .int .i64 a1), (2, .int .u64 a2), (25, .bool (decide (a1 ≥ p0.2.1)))]) (w' := w0) (by kernel_rfl) ?_
    refine WR.split 25 (b := decide (a1 ≥ p0.2.1)) (by kernel_rfl) (fun hb4 => ?_) (fun hb4 => ?_)
    · replace H := ite_t H hb4
      refine WR.runk [15, 16, 17, 18, 19, 20, 21, 22] [] [0, 1, 2, 33] (L' := [(0, .pointer (some ⟨b0, 0, none⟩)), (1, .int .i64 a1), (2, .int .u64 a2), (33, .bool true)]) (w' := w0) (by kernel_rfl) ?_
      refine WR.nil ?_
      refine At.go ?_
      refine WC.condT (by kernel_rfl) (by kernel_rfl) (by kernel_rfl) ?_
      refine WC.seq (by kernel_rfl) ?_
      refine WC.reg [0] (by kernel_rfl) (by kernel_rfl) ?_
      refine WR.runk [0] [] [6] (L' := [(6, .bool false)]) (w' := w0) (by kernel_rfl) ?_
      refine WR.nil ?_
      refine At.go ?_
      refine WC.ret (by kernel_rfl) ?_
      refine At.thenRet ?_
      obtain rfl := Option.some.inj H
      have hS : Sat w0 B [pts b0 (.cells #[.int .i64 p0.1, .int .i64 p0.2.1, .slice A2 p0.2.2.length c3] 72 (0, 0)), osl 55 (r0 (.int .u64)) 1 A2 c3 p0.2.2] := hS.sel [0, 1] (by kernel_rfl)
      have hS : Sat w0 B [O72 b0 p0] := O72.close p0 A2 c3 hS
      have hS : Sat w0 B [O72 b0 p0] := hS.sel [0] (by kernel_rfl)
      exact At.body [.bool false] (by kernel_rfl) ⟨_, rfl, rfl, hS⟩
    · replace H := ite_f H hb4
      refine WR.runk [15, 16, 17, 18] [19, 20, 21, 22] [0, 1, 2, 25, 26, 29] (L' := [(0, .pointer (some ⟨b0, 0, none⟩)), (1, .int .i64 a1), (2, .int .u64 a2), (25, .bool false), (26, .int .u64 a2), (29, .pointer (some ⟨b0, 0, none⟩))]) (w' := w0) (by kernel_rfl) ?_
      refine WR.st (St.ofR (RSt.loadObj (t := 3) (k := 0) (v := .int .i64 p0.1) (.tmp 29) (by kernel_rfl) (by kernel_rfl) (by kernel_rfl) 0 hS rfl (by kernel_rfl) rfl ?_))
      refine WR.runk [] [20, 21, 22] [0, 1, 2, 25, 26, 30] (L' := [(0, .pointer (some ⟨b0, 0, none⟩)), (1, .int .i64 a1), (2, .int .u64 a2), (25, .bool false), (26, .int .u64 a2), (30, .int .i64 p0.1)]) (w' := w0) (by kernel_rfl) ?_
      obtain ⟨r5, e6, H⟩ := bind_ex H
      refine WR.st (St.call (by kernel_rfl) (f := 34) (args := #[.int .i64 p0.1]) (by kernel_rfl) (pack_mask.calls w0 p0.1 r5 e6) ?_)
      rintro _ w12 ⟨rfl, hS13⟩
      have hS : Sat w12 B [pts b0 (.cells #[.int .i64 p0.1, .int .i64 p0.2.1, .slice A2 p0.2.2.length c3] 72 (0, 0)), osl 55 (r0 (.int .u64)) 1 A2 c3 p0.2.2] := hS.ext hS13
      refine WR.runk [21, 22] [] [0, 1, 2, 33] (L' := [(0, .pointer (some ⟨b0, 0, none⟩)), (1, .int .i64 a1), (2, .int .u64 a2), (33, .bool (decide (a2 > r5)))]) (w' := w12) (by kernel_rfl) ?_
      refine WR.nil ?_
      refine At.go ?_
      refine WC.cond (by kernel_rfl) (decide (a2 > r5)) (by kernel_rfl) (by kernel_rfl) (fun hb14 => ?_) (fun hb14 => ?_)
      · replace H := ite_t H hb14
        refine WC.seq (by kernel_rfl) ?_
        refine WC.reg [0] (by kernel_rfl) (by kernel_rfl) ?_
        refine WR.runk [0] [] [6] (L' := [(6, .bool false)]) (w' := w12) (by kernel_rfl) ?_
        refine WR.nil ?_
        refine At.go ?_
        refine WC.ret (by kernel_rfl) ?_
        refine At.thenRet ?_
        obtain rfl := Option.some.inj H
        have hS : Sat w12 B [pts b0 (.cells #[.int .i64 p0.1, .int .i64 p0.2.1, .slice A2 p0.2.2.length c3] 72 (0, 0)), osl 55 (r0 (.int .u64)) 1 A2 c3 p0.2.2] := hS.sel [0, 1] (by kernel_rfl)
        have hS : Sat w12 B [O72 b0 p0] := O72.close p0 A2 c3 hS
        have hS : Sat w12 B [O72 b0 p0] := hS.sel [0] (by kernel_rfl)
        exact At.body [.bool false] (by kernel_rfl) ⟨_, rfl, rfl, hS⟩
      · replace H := ite_f H hb14
        refine WC.skip (by kernel_rfl) ?_
        refine At.go ?_
        refine WC.seq (by kernel_rfl) ?_
        refine WC.reg [0, 1, 2, 3, 4, 5, 6] (by kernel_rfl) (by kernel_rfl) ?_
        refine WR.runk [0, 1, 2, 3] [4, 5, 6] [0, 2, 34, 37] (L' := [(0, .pointer (some ⟨b0, 0, none⟩)), (2, .int .u64 a2), (34, .int .i64 a1), (37, .pointer (some ⟨b0, 0, none⟩))]) (w' := w12) (by kernel_rfl) ?_
        refine WR.st (St.ofR (RSt.loadObj (t := 3) (k := 0) (v := .int .i64 p0.1) (.tmp 37) (by kernel_rfl) (by kernel_rfl) (by kernel_rfl) 0 hS rfl (by kernel_rfl) rfl ?_))
        refine WR.runk [5, 6] [] [0, 2, 7] (L' := [(0, .pointer (some ⟨b0, 0, none⟩)), (2, .int .u64 a2), (7, .int .i64 (wi (a1 * p0.1)))]) (w' := w12) (by kernel_rfl) ?_
        refine WR.nil ?_
        refine At.go ?_
        refine WC.seq (by kernel_rfl) ?_
        refine WC.reg [0, 1, 2, 3, 4, 5] (by kernel_rfl) (by kernel_rfl) ?_
        refine WR.runk [0, 1, 2, 3, 4, 5] [] [0, 2, 8, 9] (L' := [(0, .pointer (some ⟨b0, 0, none⟩)), (2, .int .u64 a2), (8, .int .i64 (wi (Int.tdiv (wi (a1 * p0.1)) 64))), (9, .int .i64 (Int.tmod (wi (a1 * p0.1)) 64))]) (w' := w12) (by kernel_rfl) ?_
        refine WR.nil ?_
        refine At.go ?_
        refine WC.seq (by kernel_rfl) ?_
        refine WC.reg [0, 1, 2, 3, 4, 5] (by kernel_rfl) (by kernel_rfl) ?_
        refine WR.runk [0, 1, 2] [3, 4, 5] [0, 2, 8, 9, 46] (L' := [(0, .pointer (some ⟨b0, 0, none⟩)), (2, .int .u64 a2), (8, .int .i64 (wi (Int.tdiv (wi (a1 * p0.1)) 64))), (9, .int .i64 (Int.tmod (wi (a1 * p0.1)) 64)), (46, .pointer (some ⟨b0, 0, none⟩))]) (w' := w12) (by kernel_rfl) ?_
        refine WR.st (St.ofR (RSt.loadObj (t := 3) (k := 0) (v := .int .i64 p0.1) (.tmp 46) (by kernel_rfl) (by kernel_rfl) (by kernel_rfl) 0 hS rfl (by kernel_rfl) rfl ?_))
        refine WR.runk [] [4, 5] [0, 2, 8, 9, 47] (L' := [(0, .pointer (some ⟨b0, 0, none⟩)), (2, .int .u64 a2), (8, .int .i64 (wi (Int.tdiv (wi (a1 * p0.1)) 64))), (9, .int .i64 (Int.tmod (wi (a1 * p0.1)) 64)), (47, .int .i64 p0.1)]) (w' := w12) (by kernel_rfl) ?_
        obtain ⟨r15, e16, H⟩ := bind_ex H
        refine WR.st (St.call (by kernel_rfl) (f := 34) (args := #[.int .i64 p0.1]) (by kernel_rfl) (pack_mask.calls w12 p0.1 r15 e16) ?_)
        rintro _ w22 ⟨rfl, hS23⟩
        have hS : Sat w22 B [pts b0 (.cells #[.int .i64 p0.1, .int .i64 p0.2.1, .slice A2 p0.2.2.length c3] 72 (0, 0)), osl 55 (r0 (.int .u64)) 1 A2 c3 p0.2.2] := hS.ext hS23
        refine WR.runk [5] [] [0, 2, 8, 9, 10] (L' := [(0, .pointer (some ⟨b0, 0, none⟩)), (2, .int .u64 a2), (8, .int .i64 (wi (Int.tdiv (wi (a1 * p0.1)) 64))), (9, .int .i64 (Int.tmod (wi (a1 * p0.1)) 64)), (10, .int .u64 r15)]) (w' := w22) (by kernel_rfl) ?_
        refine WR.nil ?_
        refine At.go ?_
        refine WC.seq (by kernel_rfl) ?_
        refine WC.drawn (by kernel_rfl) (by kernel_rfl) 22 (by kernel_rfl) (fun w24 hw25 => ?_)
        have hS := hS.heap hw25.1 hw25.2
        refine WD.weaken [0, 2, 8, 9, 10] (L' := [(0, .pointer (some ⟨b0, 0, none⟩)), (2, .int .u64 a2), (8, .int .i64 (wi (Int.tdiv (wi (a1 * p0.1)) 64))), (9, .int .i64 (Int.tmod (wi (a1 * p0.1)) 64)), (10, .int .u64 r15)]) (by kernel_rfl) ?_
        refine WD.pure (i := 0) (v := .pointer (some ⟨b0, 0, none⟩)) (by kernel_rfl) (by kernel_rfl) (fun _ => by kernel_rfl) ?_
        refine WD.weaken [0, 2, 8, 9, 10, 49] (L' := [(0, .pointer (some ⟨b0, 0, none⟩)), (2, .int .u64 a2), (8, .int .i64 (wi (Int.tdiv (wi (a1 * p0.1)) 64))), (9, .int .i64 (Int.tmod (wi (a1 * p0.1)) 64)), (10, .int .u64 r15), (49, .pointer (some ⟨b0, 0, none⟩))]) (by kernel_rfl) ?_
        refine WD.pure (i := 1) (v := .pointer (some ⟨b0, 0, none⟩)) (by kernel_rfl) (by kernel_rfl) (fun _ => by kernel_rfl) ?_
        refine WD.weaken [0, 2, 8, 9, 10, 50] (L' := [(0, .pointer (some ⟨b0, 0, none⟩)), (2, .int .u64 a2), (8, .int .i64 (wi (Int.tdiv (wi (a1 * p0.1)) 64))), (9, .int .i64 (Int.tmod (wi (a1 * p0.1)) 64)), (10, .int .u64 r15), (50, .pointer (some ⟨b0, 0, none⟩))]) (by kernel_rfl) ?_
        refine WD.pure (i := 2) (v := .pointer (some ⟨b0, 2, none⟩)) (by kernel_rfl) (by kernel_rfl) (fun _ => by kernel_rfl) ?_
        refine WD.weaken [0, 2, 8, 9, 10, 51] (L' := [(0, .pointer (some ⟨b0, 0, none⟩)), (2, .int .u64 a2), (8, .int .i64 (wi (Int.tdiv (wi (a1 * p0.1)) 64))), (9, .int .i64 (Int.tmod (wi (a1 * p0.1)) 64)), (10, .int .u64 r15), (51, .pointer (some ⟨b0, 2, none⟩))]) (by kernel_rfl) ?_
        refine WD.ofR (i := 3) (by kernel_rfl) (RSt.loadObj (t := 70) (k := 2) (v := .slice A2 p0.2.2.length c3) (.tmp 51) (by kernel_rfl) (by kernel_rfl) (by kernel_rfl) 0 hS rfl (by kernel_rfl) rfl ?_)
        refine WD.weaken [0, 2, 8, 9, 10, 52] (L' := [(0, .pointer (some ⟨b0, 0, none⟩)), (2, .int .u64 a2), (8, .int .i64 (wi (Int.tdiv (wi (a1 * p0.1)) 64))), (9, .int .i64 (Int.tmod (wi (a1 * p0.1)) 64)), (10, .int .u64 r15), (52, .slice A2 p0.2.2.length c3)]) (by kernel_rfl) ?_
        refine WD.pure (i := 4) (v := .int .i64 (wi (Int.tdiv (wi (a1 * p0.1)) 64))) (by kernel_rfl) (by kernel_rfl) (fun _ => by kernel_rfl) ?_
        refine WD.weaken [0, 2, 8, 9, 10, 52, 53] (L' := [(0, .pointer (some ⟨b0, 0, none⟩)), (2, .int .u64 a2), (8, .int .i64 (wi (Int.tdiv (wi (a1 * p0.1)) 64))), (9, .int .i64 (Int.tmod (wi (a1 * p0.1)) 64)), (10, .int .u64 r15), (52, .slice A2 p0.2.2.length c3), (53, .int .i64 (wi (Int.tdiv (wi (a1 * p0.1)) 64)))]) (by kernel_rfl) ?_
        refine WD.pure (i := 5) (v := .pointer (some ⟨b0, 0, none⟩)) (by kernel_rfl) (by kernel_rfl) (fun _ => by kernel_rfl) ?_
        refine WD.weaken [0, 2, 8, 9, 10, 52, 53, 54] (L' := [(0, .pointer (some ⟨b0, 0, none⟩)), (2, .int .u64 a2), (8, .int .i64 (wi (Int.tdiv (wi (a1 * p0.1)) 64))), (9, .int .i64 (Int.tmod (wi (a1 * p0.1)) 64)), (10, .int .u64 r15), (52, .slice A2 p0.2.2.length c3), (53, .int .i64 (wi (Int.tdiv (wi (a1 * p0.1)) 64))), (54, .pointer (some ⟨b0, 0, none⟩))]) (by kernel_rfl) ?_
        refine WD.pure (i := 6) (v := .pointer (some ⟨b0, 0, none⟩)) (by kernel_rfl) (by kernel_rfl) (fun _ => by kernel_rfl) ?_
        refine WD.weaken [0, 2, 8, 9, 10, 52, 53, 55] (L' := [(0, .pointer (some ⟨b0, 0, none⟩)), (2, .int .u64 a2), (8, .int .i64 (wi (Int.tdiv (wi (a1 * p0.1)) 64))), (9, .int .i64 (Int.tmod (wi (a1 * p0.1)) 64)), (10, .int .u64 r15), (52, .slice A2 p0.2.2.length c3), (53, .int .i64 (wi (Int.tdiv (wi (a1 * p0.1)) 64))), (55, .pointer (some ⟨b0, 0, none⟩))]) (by kernel_rfl) ?_
        refine WD.pure (i := 7) (v := .pointer (some ⟨b0, 2, none⟩)) (by kernel_rfl) (by kernel_rfl) (fun _ => by kernel_rfl) ?_
        refine WD.weaken [0, 2, 8, 9, 10, 52, 53, 56] (L' := [(0, .pointer (some ⟨b0, 0, none⟩)), (2, .int .u64 a2), (8, .int .i64 (wi (Int.tdiv (wi (a1 * p0.1)) 64))), (9, .int .i64 (Int.tmod (wi (a1 * p0.1)) 64)), (10, .int .u64 r15), (52, .slice A2 p0.2.2.length c3), (53, .int .i64 (wi (Int.tdiv (wi (a1 * p0.1)) 64))), (56, .pointer (some ⟨b0, 2, none⟩))]) (by kernel_rfl) ?_
        refine WD.ofR (i := 8) (by kernel_rfl) (RSt.loadObj (t := 70) (k := 2) (v := .slice A2 p0.2.2.length c3) (.tmp 56) (by kernel_rfl) (by kernel_rfl) (by kernel_rfl) 0 hS rfl (by kernel_rfl) rfl ?_)
        refine WD.weaken [0, 2, 8, 9, 10, 52, 53, 57] (L' := [(0, .pointer (some ⟨b0, 0, none⟩)), (2, .int .u64 a2), (8, .int .i64 (wi (Int.tdiv (wi (a1 * p0.1)) 64))), (9, .int .i64 (Int.tmod (wi (a1 * p0.1)) 64)), (10, .int .u64 r15), (52, .slice A2 p0.2.2.length c3), (53, .int .i64 (wi (Int.tdiv (wi (a1 * p0.1)) 64))), (57, .slice A2 p0.2.2.length c3)]) (by kernel_rfl) ?_
        refine WD.pure (i := 9) (v := .int .i64 (wi (Int.tdiv (wi (a1 * p0.1)) 64))) (by kernel_rfl) (by kernel_rfl) (fun _ => by kernel_rfl) ?_
        refine WD.weaken [0, 2, 8, 9, 10, 52, 53, 57, 58] (L' := [(0, .pointer (some ⟨b0, 0, none⟩)), (2, .int .u64 a2), (8, .int .i64 (wi (Int.tdiv (wi (a1 * p0.1)) 64))), (9, .int .i64 (Int.tmod (wi (a1 * p0.1)) 64)), (10, .int .u64 r15), (52, .slice A2 p0.2.2.length c3), (53, .int .i64 (wi (Int.tdiv (wi (a1 * p0.1)) 64))), (57, .slice A2 p0.2.2.length c3), (58, .int .i64 (wi (Int.tdiv (wi (a1 * p0.1)) 64)))]) (by kernel_rfl) ?_
        obtain ⟨v26, e27, H⟩ := bind_ex H
        refine WD.ofP (i := 10) (by kernel_rfl) (PSt.idx (k := .i64) (.tmp 57) (.tmp 58) (by kernel_rfl) (by kernel_rfl) E70 (by kernel_rfl) (by kernel_rfl) (Sat.rdAt 1 hS rfl) e27 ?_)
        refine WD.weaken [0, 2, 8, 9, 10, 52, 53, 59] (L' := [(0, .pointer (some ⟨b0, 0, none⟩)), (2, .int .u64 a2), (8, .int .i64 (wi (Int.tdiv (wi (a1 * p0.1)) 64))), (9, .int .i64 (Int.tmod (wi (a1 * p0.1)) 64)), (10, .int .u64 r15), (52, .slice A2 p0.2.2.length c3), (53, .int .i64 (wi (Int.tdiv (wi (a1 * p0.1)) 64))), (59, .pointer (some (adr A2 (wi (Int.tdiv (wi (a1 * p0.1)) 64)).toNat 1)))]) (by kernel_rfl) ?_
        refine WD.ofR (i := 11) (by kernel_rfl) (RSt.loadInt (t := 55) (.tmp 59) (by kernel_rfl) (by kernel_rfl) (by kernel_rfl) (by kernel_rfl) (Sat.rdAt 1 hS rfl) e27 ?_)
        refine WD.weaken [0, 2, 8, 9, 10, 52, 53, 60] (L' := [(0, .pointer (some ⟨b0, 0, none⟩)), (2, .int .u64 a2), (8, .int .i64 (wi (Int.tdiv (wi (a1 * p0.1)) 64))), (9, .int .i64 (Int.tmod (wi (a1 * p0.1)) 64)), (10, .int .u64 r15), (52, .slice A2 p0.2.2.length c3), (53, .int .i64 (wi (Int.tdiv (wi (a1 * p0.1)) 64))), (60, .int .u64 v26)]) (by kernel_rfl) ?_
        refine WD.pure (i := 12) (v := .int .u64 r15) (by kernel_rfl) (by kernel_rfl) (fun _ => by kernel_rfl) ?_
        refine WD.weaken [0, 2, 8, 9, 10, 52, 53, 60, 61] (L' := [(0, .pointer (some ⟨b0, 0, none⟩)), (2, .int .u64 a2), (8, .int .i64 (wi (Int.tdiv (wi (a1 * p0.1)) 64))), (9, .int .i64 (Int.tmod (wi (a1 * p0.1)) 64)), (10, .int .u64 r15), (52, .slice A2 p0.2.2.length c3), (53, .int .i64 (wi (Int.tdiv (wi (a1 * p0.1)) 64))), (60, .int .u64 v26), (61, .int .u64 r15)]) (by kernel_rfl) ?_
        refine WD.pure (i := 13) (v := .int .i64 (Int.tmod (wi (a1 * p0.1)) 64)) (by kernel_rfl) (by kernel_rfl) (fun _ => by kernel_rfl) ?_
        refine WD.weaken [0, 2, 8, 9, 10, 52, 53, 60, 61, 62] (L' := [(0, .pointer (some ⟨b0, 0, none⟩)), (2, .int .u64 a2), (8, .int .i64 (wi (Int.tdiv (wi (a1 * p0.1)) 64))), (9, .int .i64 (Int.tmod (wi (a1 * p0.1)) 64)), (10, .int .u64 r15), (52, .slice A2 p0.2.2.length c3), (53, .int .i64 (wi (Int.tdiv (wi (a1 * p0.1)) 64))), (60, .int .u64 v26), (61, .int .u64 r15), (62, .int .i64 (Int.tmod (wi (a1 * p0.1)) 64))]) (by kernel_rfl) ?_
        obtain ⟨_, e28, H⟩ := bind_ex H
        refine WD.ofP (i := 14) (by kernel_rfl) (PSt.shift (k := .u64) (k2 := .i64) (t := 55) (t2 := 3) (a := r15) (b := (Int.tmod (wi (a1 * p0.1)) 64)) .shl (by decide) (.tmp 61) (.tmp 62) (by kernel_rfl) (by kernel_rfl) (by kernel_rfl) (by kernel_rfl) (of_decide_eq_true (chk?_some e28)) ?_)
        refine WD.weaken [0, 2, 8, 9, 10, 52, 53, 60, 63] (L' := [(0, .pointer (some ⟨b0, 0, none⟩)), (2, .int .u64 a2), (8, .int .i64 (wi (Int.tdiv (wi (a1 * p0.1)) 64))), (9, .int .i64 (Int.tmod (wi (a1 * p0.1)) 64)), (10, .int .u64 r15), (52, .slice A2 p0.2.2.length c3), (53, .int .i64 (wi (Int.tdiv (wi (a1 * p0.1)) 64))), (60, .int .u64 v26), (63, .int .u64 (ishl .u64 r15 (Int.tmod (wi (a1 * p0.1)) 64)))]) (by kernel_rfl) ?_
        refine WD.pure (i := 15) (v := .int .u64 (iandn .u64 v26 (ishl .u64 r15 (Int.tmod (wi (a1 * p0.1)) 64)))) (by kernel_rfl) (by kernel_rfl) (fun _ => by kernel_rfl) ?_
        refine WD.weaken [0, 2, 8, 9, 10, 52, 53, 64] (L' := [(0, .pointer (some ⟨b0, 0, none⟩)), (2, .int .u64 a2), (8, .int .i64 (wi (Int.tdiv (wi (a1 * p0.1)) 64))), (9, .int .i64 (Int.tmod (wi (a1 * p0.1)) 64)), (10, .int .u64 r15), (52, .slice A2 p0.2.2.length c3), (53, .int .i64 (wi (Int.tdiv (wi (a1 * p0.1)) 64))), (64, .int .u64 (iandn .u64 v26 (ishl .u64 r15 (Int.tmod (wi (a1 * p0.1)) 64))))]) (by kernel_rfl) ?_
        refine WD.pure (i := 16) (v := .int .u64 a2) (by kernel_rfl) (by kernel_rfl) (fun _ => by kernel_rfl) ?_
        refine WD.weaken [0, 2, 8, 9, 10, 52, 53, 64, 65] (L' := [(0, .pointer (some ⟨b0, 0, none⟩)), (2, .int .u64 a2), (8, .int .i64 (wi (Int.tdiv (wi (a1 * p0.1)) 64))), (9, .int .i64 (Int.tmod (wi (a1 * p0.1)) 64)), (10, .int .u64 r15), (52, .slice A2 p0.2.2.length c3), (53, .int .i64 (wi (Int.tdiv (wi (a1 * p0.1)) 64))), (64, .int .u64 (iandn .u64 v26 (ishl .u64 r15 (Int.tmod (wi (a1 * p0.1)) 64)))), (65, .int .u64 a2)]) (by kernel_rfl) ?_
        refine WD.pure (i := 17) (v := .int .i64 (Int.tmod (wi (a1 * p0.1)) 64)) (by kernel_rfl) (by kernel_rfl) (fun _ => by kernel_rfl) ?_
        refine WD.weaken [0, 2, 8, 9, 10, 52, 53, 64, 65, 66] (L' := [(0, .pointer (some ⟨b0, 0, none⟩)), (2, .int .u64 a2), (8, .int .i64 (wi (Int.tdiv (wi (a1 * p0.1)) 64))), (9, .int .i64 (Int.tmod (wi (a1 * p0.1)) 64)), (10, .int .u64 r15), (52, .slice A2 p0.2.2.length c3), (53, .int .i64 (wi (Int.tdiv (wi (a1 * p0.1)) 64))), (64, .int .u64 (iandn .u64 v26 (ishl .u64 r15 (Int.tmod (wi (a1 * p0.1)) 64)))), (65, .int .u64 a2), (66, .int .i64 (Int.tmod (wi (a1 * p0.1)) 64))]) (by kernel_rfl) ?_
        obtain ⟨_, e29, H⟩ := bind_ex H
        refine WD.ofP (i := 18) (by kernel_rfl) (PSt.shift (k := .u64) (k2 := .i64) (t := 55) (t2 := 3) (a := a2) (b := (Int.tmod (wi (a1 * p0.1)) 64)) .shl (by decide) (.tmp 65) (.tmp 66) (by kernel_rfl) (by kernel_rfl) (by kernel_rfl) (by kernel_rfl) (of_decide_eq_true (chk?_some e29)) ?_)
        refine WD.weaken [0, 2, 8, 9, 10, 52, 53, 64, 67] (L' := [(0, .pointer (some ⟨b0, 0, none⟩)), (2, .int .u64 a2), (8, .int .i64 (wi (Int.tdiv (wi (a1 * p0.1)) 64))), (9, .int .i64 (Int.tmod (wi (a1 * p0.1)) 64)), (10, .int .u64 r15), (52, .slice A2 p0.2.2.length c3), (53, .int .i64 (wi (Int.tdiv (wi (a1 * p0.1)) 64))), (64, .int .u64 (iandn .u64 v26 (ishl .u64 r15 (Int.tmod (wi (a1 * p0.1)) 64)))), (67, .int .u64 (ishl .u64 a2 (Int.tmod (wi (a1 * p0.1)) 64)))]) (by kernel_rfl) ?_
        refine WD.pure (i := 19) (v := .int .u64 (ior .u64 (iandn .u64 v26 (ishl .u64 r15 (Int.tmod (wi (a1 * p0.1)) 64))) (ishl .u64 a2 (Int.tmod (wi (a1 * p0.1)) 64)))) (by kernel_rfl) (by kernel_rfl) (fun _ => by kernel_rfl) ?_
        refine WD.weaken [0, 2, 8, 9, 10, 52, 53, 68] (L' := [(0, .pointer (some ⟨b0, 0, none⟩)), (2, .int .u64 a2), (8, .int .i64 (wi (Int.tdiv (wi (a1 * p0.1)) 64))), (9, .int .i64 (Int.tmod (wi (a1 * p0.1)) 64)), (10, .int .u64 r15), (52, .slice A2 p0.2.2.length c3), (53, .int .i64 (wi (Int.tdiv (wi (a1 * p0.1)) 64))), (68, .int .u64 (ior .u64 (iandn .u64 v26 (ishl .u64 r15 (Int.tmod (wi (a1 * p0.1)) 64))) (ishl .u64 a2 (Int.tmod (wi (a1 * p0.1)) 64))))]) (by kernel_rfl) ?_
        refine WD.ofP (i := 20) (by kernel_rfl) (PSt.idx (k := .i64) (.tmp 52) (.tmp 53) (by kernel_rfl) (by kernel_rfl) E70 (by kernel_rfl) (by kernel_rfl) (Sat.rdAt 1 hS rfl) e27 ?_)
        refine WD.weaken [0, 2, 8, 9, 10, 68, 69] (L' := [(0, .pointer (some ⟨b0, 0, none⟩)), (2, .int .u64 a2), (8, .int .i64 (wi (Int.tdiv (wi (a1 * p0.1)) 64))), (9, .int .i64 (Int.tmod (wi (a1 * p0.1)) 64)), (10, .int .u64 r15), (68, .int .u64 (ior .u64 (iandn .u64 v26 (ishl .u64 r15 (Int.tmod (wi (a1 * p0.1)) 64))) (ishl .u64 a2 (Int.tmod (wi (a1 * p0.1)) 64)))), (69, .pointer (some (adr A2 (wi (Int.tdiv (wi (a1 * p0.1)) 64)).toNat 1)))]) (by kernel_rfl) ?_
        have hS : Sat w24 B [osl 55 (r0 (.int .u64)) 1 A2 c3 p0.2.2, pts b0 (.cells #[.int .i64 p0.1, .int .i64 p0.2.1, .slice A2 p0.2.2.length c3] 72 (0, 0))] := hS.sel [1, 0] (by kernel_rfl)
        obtain ⟨y30, e31, H⟩ := bind_ex H
        refine WD.act (i := 21) (by kernel_rfl) (St.storeElem' (t := 55) (.tmp 69) (.tmp 68) (by kernel_rfl) (by kernel_rfl) (by kernel_rfl) hS (by kernel_rfl) (by kernel_rfl) rfl e31 rfl (fun w32 hS => ?_))
        refine ⟨(asked.anc (by kernel_rfl) (asked.anc (by kernel_rfl) (asked.anc (by kernel_rfl) (asked.nil _ _)))), ?_⟩
        have hl33 := set?_len e31
        have hS : Sat w32 B [osl 55 (r0 (.int .u64)) 1 A2 c3 y30, pts b0 (.cells #[.int .i64 p0.1, .int .i64 p0.2.1, .slice A2 y30.length c3] 72 (0, 0))] := by simpa only [hl33] using hS
        refine WD.weaken [0, 2, 8, 9, 10] (L' := [(0, .pointer (some ⟨b0, 0, none⟩)), (2, .int .u64 a2), (8, .int .i64 (wi (Int.tdiv (wi (a1 * p0.1)) 64))), (9, .int .i64 (Int.tmod (wi (a1 * p0.1)) 64)), (10, .int .u64 r15)]) (by kernel_rfl) ?_
        refine WD.nil (by kernel_rfl) ?_
        refine At.go ?_
        refine WC.seq (by kernel_rfl) ?_
        refine WC.seq (by kernel_rfl) ?_
        refine WC.reg [0, 1, 2, 3, 4, 5, 6] (by kernel_rfl) (by kernel_rfl) ?_
        refine WR.runk [0, 1, 2, 3] [4, 5, 6] [0, 2, 8, 9, 10, 70, 73] (L' := [(0, .pointer (some ⟨b0, 0, none⟩)), (2, .int .u64 a2), (8, .int .i64 (wi (Int.tdiv (wi (a1 * p0.1)) 64))), (9, .int .i64 (Int.tmod (wi (a1 * p0.1)) 64)), (10, .int .u64 r15), (70, .int .i64 (Int.tmod (wi (a1 * p0.1)) 64)), (73, .pointer (some ⟨b0, 0, none⟩))]) (w' := w32) (by kernel_rfl) ?_
        refine WR.st (St.ofR (RSt.loadObj (t := 3) (k := 0) (v := .int .i64 p0.1) (.tmp 73) (by kernel_rfl) (by kernel_rfl) (by kernel_rfl) 1 hS rfl (by kernel_rfl) rfl ?_))
        refine WR.runk [5, 6] [] [0, 2, 8, 9, 10, 76] (L' := [(0, .pointer (some ⟨b0, 0, none⟩)), (2, .int .u64 a2), (8, .int .i64 (wi (Int.tdiv (wi (a1 * p0.1)) 64))), (9, .int .i64 (Int.tmod (wi (a1 * p0.1)) 64)), (10, .int .u64 r15), (76, .bool (decide (wi ((Int.tmod (wi (a1 * p0.1)) 64) + p0.1) > 64)))]) (w' := w32) (by kernel_rfl) ?_
        refine WR.nil ?_
        refine At.go ?_
        refine WC.cond (by kernel_rfl) (decide (wi ((Int.tmod (wi (a1 * p0.1)) 64) + p0.1) > 64)) (by kernel_rfl) (by kernel_rfl) (fun hb34 => ?_) (fun hb34 => ?_)
        · replace H := ite_t H hb34
          refine WC.drawn (by kernel_rfl) (by kernel_rfl) 26 (by kernel_rfl) (fun w35 hw36 => ?_)
          have hS := hS.heap hw36.1 hw36.2
          refine WD.weaken [0, 2, 8, 9, 10] (L' := [(0, .pointer (some ⟨b0, 0, none⟩)), (2, .int .u64 a2), (8, .int .i64 (wi (Int.tdiv (wi (a1 * p0.1)) 64))), (9, .int .i64 (Int.tmod (wi (a1 * p0.1)) 64)), (10, .int .u64 r15)]) (by kernel_rfl) ?_
          refine WD.pure (i := 0) (v := .pointer (some ⟨b0, 0, none⟩)) (by kernel_rfl) (by kernel_rfl) (fun _ => by kernel_rfl) ?_
          refine WD.weaken [0, 2, 8, 9, 10, 77] (L' := [(0, .pointer (some ⟨b0, 0, none⟩)), (2, .int .u64 a2), (8, .int .i64 (wi (Int.tdiv (wi (a1 * p0.1)) 64))), (9, .int .i64 (Int.tmod (wi (a1 * p0.1)) 64)), (10, .int .u64 r15), (77, .pointer (some ⟨b0, 0, none⟩))]) (by kernel_rfl) ?_
          refine WD.pure (i := 1) (v := .pointer (some ⟨b0, 0, none⟩)) (by kernel_rfl) (by kernel_rfl) (fun _ => by kernel_rfl) ?_
          refine WD.weaken [0, 2, 8, 9, 10, 78] (L' := [(0, .pointer (some ⟨b0, 0, none⟩)), (2, .int .u64 a2), (8, .int .i64 (wi (Int.tdiv (wi (a1 * p0.1)) 64))), (9, .int .i64 (Int.tmod (wi (a1 * p0.1)) 64)), (10, .int .u64 r15), (78, .pointer (some ⟨b0, 0, none⟩))]) (by kernel_rfl) ?_
          refine WD.pure (i := 2) (v := .pointer (some ⟨b0, 2, none⟩)) (by kernel_rfl) (by kernel_rfl) (fun _ => by kernel_rfl) ?_
          refine WD.weaken [0, 2, 8, 9, 10, 79] (L' := [(0, .pointer (some ⟨b0, 0, none⟩)), (2, .int .u64 a2), (8, .int .i64 (wi (Int.tdiv (wi (a1 * p0.1)) 64))), (9, .int .i64 (Int.tmod (wi (a1 * p0.1)) 64)), (10, .int .u64 r15), (79, .pointer (some ⟨b0, 2, none⟩))]) (by kernel_rfl) ?_
          refine WD.ofR (i := 3) (by kernel_rfl) (RSt.loadObj (t := 70) (k := 2) (v := .slice A2 y30.length c3) (.tmp 79) (by kernel_rfl) (by kernel_rfl) (by kernel_rfl) 1 hS rfl (by kernel_rfl) rfl ?_)
          refine WD.weaken [0, 2, 8, 9, 10, 80] (L' := [(0, .pointer (some ⟨b0, 0, none⟩)), (2, .int .u64 a2), (8, .int .i64 (wi (Int.tdiv (wi (a1 * p0.1)) 64))), (9, .int .i64 (Int.tmod (wi (a1 * p0.1)) 64)), (10, .int .u64 r15), (80, .slice A2 y30.length c3)]) (by kernel_rfl) ?_
          refine WD.pure (i := 4) (v := .int .i64 (wi (Int.tdiv (wi (a1 * p0.1)) 64))) (by kernel_rfl) (by kernel_rfl) (fun _ => by kernel_rfl) ?_
          refine WD.weaken [0, 2, 8, 9, 10, 80, 81] (L' := [(0, .pointer (some ⟨b0, 0, none⟩)), (2, .int .u64 a2), (8, .int .i64 (wi (Int.tdiv (wi (a1 * p0.1)) 64))), (9, .int .i64 (Int.tmod (wi (a1 * p0.1)) 64)), (10, .int .u64 r15), (80, .slice A2 y30.length c3), (81, .int .i64 (wi (Int.tdiv (wi (a1 * p0.1)) 64)))]) (by kernel_rfl) ?_
          refine WD.pure (i := 5) (v := .int .i64 (wi ((wi (Int.tdiv (wi (a1 * p0.1)) 64)) + 1))) (by kernel_rfl) (by kernel_rfl) (fun _ => by kernel_rfl) ?_
          refine WD.weaken [0, 2, 8, 9, 10, 80, 82] (L' := [(0, .pointer (some ⟨b0, 0, none⟩)), (2, .int .u64 a2), (8, .int .i64 (wi (Int.tdiv (wi (a1 * p0.1)) 64))), (9, .int .i64 (Int.tmod (wi (a1 * p0.1)) 64)), (10, .int .u64 r15), (80, .slice A2 y30.length c3), (82, .int .i64 (wi ((wi (Int.tdiv (wi (a1 * p0.1)) 64)) + 1)))]) (by kernel_rfl) ?_
          refine WD.pure (i := 6) (v := .pointer (some ⟨b0, 0, none⟩)) (by kernel_rfl) (by kernel_rfl) (fun _ => by kernel_rfl) ?_
          refine WD.weaken [2, 8, 9, 10, 80, 82, 83] (L' := [(2, .int .u64 a2), (8, .int .i64 (wi (Int.tdiv (wi (a1 * p0.1)) 64))), (9, .int .i64 (Int.tmod (wi (a1 * p0.1)) 64)), (10, .int .u64 r15), (80, .slice A2 y30.length c3), (82, .int .i64 (wi ((wi (Int.tdiv (wi (a1 * p0.1)) 64)) + 1))), (83, .pointer (some ⟨b0, 0, none⟩))]) (by kernel_rfl) ?_
          refine WD.pure (i := 7) (v := .pointer (some ⟨b0, 0, none⟩)) (by kernel_rfl) (by kernel_rfl) (fun _ => by kernel_rfl) ?_
          refine WD.weaken [2, 8, 9, 10, 80, 82, 84] (L' := [(2, .int .u64 a2), (8, .int .i64 (wi (Int.tdiv (wi (a1 * p0.1)) 64))), (9, .int .i64 (Int.tmod (wi (a1 * p0.1)) 64)), (10, .int .u64 r15), (80, .slice A2 y30.length c3), (82, .int .i64 (wi ((wi (Int.tdiv (wi (a1 * p0.1)) 64)) + 1))), (84, .pointer (some ⟨b0, 0, none⟩))]) (by kernel_rfl) ?_
          refine WD.pure (i := 8) (v := .pointer (some ⟨b0, 2, none⟩)) (by kernel_rfl) (by kernel_rfl) (fun _ => by kernel_rfl) ?_
          refine WD.weaken [2, 8, 9, 10, 80, 82, 85] (L' := [(2, .int .u64 a2), (8, .int .i64 (wi (Int.tdiv (wi (a1 * p0.1)) 64))), (9, .int .i64 (Int.tmod (wi (a1 * p0.1)) 64)), (10, .int .u64 r15), (80, .slice A2 y30.length c3), (82, .int .i64 (wi ((wi (Int.tdiv (wi (a1 * p0.1)) 64)) + 1))), (85, .pointer (some ⟨b0, 2, none⟩))]) (by kernel_rfl) ?_
          refine WD.ofR (i := 9) (by kernel_rfl) (RSt.loadObj (t := 70) (k := 2) (v := .slice A2 y30.length c3) (.tmp 85) (by kernel_rfl) (by kernel_rfl) (by kernel_rfl) 1 hS rfl (by kernel_rfl) rfl ?_)
          refine WD.weaken [2, 8, 9, 10, 80, 82, 86] (L' := [(2, .int .u64 a2), (8, .int .i64 (wi (Int.tdiv (wi (a1 * p0.1)) 64))), (9, .int .i64 (Int.tmod (wi (a1 * p0.1)) 64)), (10, .int .u64 r15), (80, .slice A2 y30.length c3), (82, .int .i64 (wi ((wi (Int.tdiv (wi (a1 * p0.1)) 64)) + 1))), (86, .slice A2 y30.length c3)]) (by kernel_rfl) ?_
          refine WD.pure (i := 10) (v := .int .i64 (wi (Int.tdiv (wi (a1 * p0.1)) 64))) (by kernel_rfl) (by kernel_rfl) (fun _ => by kernel_rfl) ?_
          refine WD.weaken [2, 9, 10, 80, 82, 86, 87] (L' := [(2, .int .u64 a2), (9, .int .i64 (Int.tmod (wi (a1 * p0.1)) 64)), (10, .int .u64 r15), (80, .slice A2 y30.length c3), (82, .int .i64 (wi ((wi (Int.tdiv (wi (a1 * p0.1)) 64)) + 1))), (86, .slice A2 y30.length c3), (87, .int .i64 (wi (Int.tdiv (wi (a1 * p0.1)) 64)))]) (by kernel_rfl) ?_
          refine WD.pure (i := 11) (v := .int .i64 (wi ((wi (Int.tdiv (wi (a1 * p0.1)) 64)) + 1))) (by kernel_rfl) (by kernel_rfl) (fun _ => by kernel_rfl) ?_
          refine WD.weaken [2, 9, 10, 80, 82, 86, 88] (L' := [(2, .int .u64 a2), (9, .int .i64 (Int.tmod (wi (a1 * p0.1)) 64)), (10, .int .u64 r15), (80, .slice A2 y30.length c3), (82, .int .i64 (wi ((wi (Int.tdiv (wi (a1 * p0.1)) 64)) + 1))), (86, .slice A2 y30.length c3), (88, .int .i64 (wi ((wi (Int.tdiv (wi (a1 * p0.1)) 64)) + 1)))]) (by kernel_rfl) ?_
          obtain ⟨v37, e38, H⟩ := bind_ex H
          refine WD.ofP (i := 12) (by kernel_rfl) (PSt.idx (k := .i64) (.tmp 86) (.tmp 88) (by kernel_rfl) (by kernel_rfl) E70 (by kernel_rfl) (by kernel_rfl) (Sat.rdAt 0 hS rfl) e38 ?_)
          refine WD.weaken [2, 9, 10, 80, 82, 89] (L' := [(2, .int .u64 a2), (9, .int .i64 (Int.tmod (wi (a1 * p0.1)) 64)), (10, .int .u64 r15), (80, .slice A2 y30.length c3), (82, .int .i64 (wi ((wi (Int.tdiv (wi (a1 * p0.1)) 64)) + 1))), (89, .pointer (some (adr A2 (wi ((wi (Int.tdiv (wi (a1 * p0.1)) 64)) + 1)).toNat 1)))]) (by kernel_rfl) ?_
          refine WD.ofR (i := 13) (by kernel_rfl) (RSt.loadInt (t := 55) (.tmp 89) (by kernel_rfl) (by kernel_rfl) (by kernel_rfl) (by kernel_rfl) (Sat.rdAt 0 hS rfl) e38 ?_)
          refine WD.weaken [2, 9, 10, 80, 82, 90] (L' := [(2, .int .u64 a2), (9, .int .i64 (Int.tmod (wi (a1 * p0.1)) 64)), (10, .int .u64 r15), (80, .slice A2 y30.length c3), (82, .int .i64 (wi ((wi (Int.tdiv (wi (a1 * p0.1)) 64)) + 1))), (90, .int .u64 v37)]) (by kernel_rfl) ?_
          refine WD.pure (i := 14) (v := .int .u64 r15) (by kernel_rfl) (by kernel_rfl) (fun _ => by kernel_rfl) ?_
          refine WD.weaken [2, 9, 80, 82, 90, 91] (L' := [(2, .int .u64 a2), (9, .int .i64 (Int.tmod (wi (a1 * p0.1)) 64)), (80, .slice A2 y30.length c3), (82, .int .i64 (wi ((wi (Int.tdiv (wi (a1 * p0.1)) 64)) + 1))), (90, .int .u64 v37), (91, .int .u64 r15)]) (by kernel_rfl) ?_
          refine WD.pure (i := 15) (v := .int .i64 (Int.tmod (wi (a1 * p0.1)) 64)) (by kernel_rfl) (by kernel_rfl) (fun _ => by kernel_rfl) ?_
          refine WD.weaken [2, 9, 80, 82, 90, 91, 92] (L' := [(2, .int .u64 a2), (9, .int .i64 (Int.tmod (wi (a1 * p0.1)) 64)), (80, .slice A2 y30.length c3), (82, .int .i64 (wi ((wi (Int.tdiv (wi (a1 * p0.1)) 64)) + 1))), (90, .int .u64 v37), (91, .int .u64 r15), (92, .int .i64 (Int.tmod (wi (a1 * p0.1)) 64))]) (by kernel_rfl) ?_
          refine WD.pure (i := 16) (v := .int .i64 (wi (64 - (Int.tmod (wi (a1 * p0.1)) 64)))) (by kernel_rfl) (by kernel_rfl) (fun _ => by kernel_rfl) ?_
          refine WD.weaken [2, 9, 80, 82, 90, 91, 93] (L' := [(2, .int .u64 a2), (9, .int .i64 (Int.tmod (wi (a1 * p0.1)) 64)), (80, .slice A2 y30.length c3), (82, .int .i64 (wi ((wi (Int.tdiv (wi (a1 * p0.1)) 64)) + 1))), (90, .int .u64 v37), (91, .int .u64 r15), (93, .int .i64 (wi (64 - (Int.tmod (wi (a1 * p0.1)) 64))))]) (by kernel_rfl) ?_
          obtain ⟨_, e39, H⟩ := bind_ex H
          refine WD.ofP (i := 17) (by kernel_rfl) (PSt.shift (k := .u64) (k2 := .i64) (t := 55) (t2 := 3) (a := r15) (b := (wi (64 - (Int.tmod (wi (a1 * p0.1)) 64)))) .shr (by decide) (.tmp 91) (.tmp 93) (by kernel_rfl) (by kernel_rfl) (by kernel_rfl) (by kernel_rfl) (of_decide_eq_true (chk?_some e39)) ?_)
          refine WD.weaken [2, 9, 80, 82, 90, 94] (L' := [(2, .int .u64 a2), (9, .int .i64 (Int.tmod (wi (a1 * p0.1)) 64)), (80, .slice A2 y30.length c3), (82, .int .i64 (wi ((wi (Int.tdiv (wi (a1 * p0.1)) 64)) + 1))), (90, .int .u64 v37), (94, .int .u64 (ishr .u64 r15 (wi (64 - (Int.tmod (wi (a1 * p0.1)) 64)))))]) (by kernel_rfl) ?_
          refine WD.pure (i := 18) (v := .int .u64 (iandn .u64 v37 (ishr .u64 r15 (wi (64 - (Int.tmod (wi (a1 * p0.1)) 64)))))) (by kernel_rfl) (by kernel_rfl) (fun _ => by kernel_rfl) ?_
          refine WD.weaken [2, 9, 80, 82, 95] (L' := [(2, .int .u64 a2), (9, .int .i64 (Int.tmod (wi (a1 * p0.1)) 64)), (80, .slice A2 y30.length c3), (82, .int .i64 (wi ((wi (Int.tdiv (wi (a1 * p0.1)) 64)) + 1))), (95, .int .u64 (iandn .u64 v37 (ishr .u64 r15 (wi (64 - (Int.tmod (wi (a1 * p0.1)) 64))))))]) (by kernel_rfl) ?_
          refine WD.pure (i := 19) (v := .int .u64 a2) (by kernel_rfl) (by kernel_rfl) (fun _ => by kernel_rfl) ?_
          refine WD.weaken [9, 80, 82, 95, 96] (L' := [(9, .int .i64 (Int.tmod (wi (a1 * p0.1)) 64)), (80, .slice A2 y30.length c3), (82, .int .i64 (wi ((wi (Int.tdiv (wi (a1 * p0.1)) 64)) + 1))), (95, .int .u64 (iandn .u64 v37 (ishr .u64 r15 (wi (64 - (Int.tmod (wi (a1 * p0.1)) 64)))))), (96, .int .u64 a2)]) (by kernel_rfl) ?_
          refine WD.pure (i := 20) (v := .int .i64 (Int.tmod (wi (a1 * p0.1)) 64)) (by kernel_rfl) (by kernel_rfl) (fun _ => by kernel_rfl) ?_
          refine WD.weaken [80, 82, 95, 96, 97] (L' := [(80, .slice A2 y30.length c3), (82, .int .i64 (wi ((wi (Int.tdiv (wi (a1 * p0.1)) 64)) + 1))), (95, .int .u64 (iandn .u64 v37 (ishr .u64 r15 (wi (64 - (Int.tmod (wi (a1 * p0.1)) 64)))))), (96, .int .u64 a2), (97, .int .i64 (Int.tmod (wi (a1 * p0.1)) 64))]) (by kernel_rfl) ?_
          refine WD.pure (i := 21) (v := .int .i64 (wi (64 - (Int.tmod (wi (a1 * p0.1)) 64)))) (by kernel_rfl) (by kernel_rfl) (fun _ => by kernel_rfl) ?_
          refine WD.weaken [80, 82, 95, 96, 98] (L' := [(80, .slice A2 y30.length c3), (82, .int .i64 (wi ((wi (Int.tdiv (wi (a1 * p0.1)) 64)) + 1))), (95, .int .u64 (iandn .u64 v37 (ishr .u64 r15 (wi (64 - (Int.tmod (wi (a1 * p0.1)) 64)))))), (96, .int .u64 a2), (98, .int .i64 (wi (64 - (Int.tmod (wi (a1 * p0.1)) 64))))]) (by kernel_rfl) ?_
          obtain ⟨_, e40, H⟩ := bind_ex H
          refine WD.ofP (i := 22) (by kernel_rfl) (PSt.shift (k := .u64) (k2 := .i64) (t := 55) (t2 := 3) (a := a2) (b := (wi (64 - (Int.tmod (wi (a1 * p0.1)) 64)))) .shr (by decide) (.tmp 96) (.tmp 98) (by kernel_rfl) (by kernel_rfl) (by kernel_rfl) (by kernel_rfl) (of_decide_eq_true (chk?_some e40)) ?_)
          refine WD.weaken [80, 82, 95, 99] (L' := [(80, .slice A2 y30.length c3), (82, .int .i64 (wi ((wi (Int.tdiv (wi (a1 * p0.1)) 64)) + 1))), (95, .int .u64 (iandn .u64 v37 (ishr .u64 r15 (wi (64 - (Int.tmod (wi (a1 * p0.1)) 64)))))), (99, .int .u64 (ishr .u64 a2 (wi (64 - (Int.tmod (wi (a1 * p0.1)) 64)))))]) (by kernel_rfl) ?_
          refine WD.pure (i := 23) (v := .int .u64 (ior .u64 (iandn .u64 v37 (ishr .u64 r15 (wi (64 - (Int.tmod (wi (a1 * p0.1)) 64))))) (ishr .u64 a2 (wi (64 - (Int.tmod (wi (a1 * p0.1)) 64)))))) (by kernel_rfl) (by kernel_rfl) (fun _ => by kernel_rfl) ?_
          refine WD.weaken [80, 82, 100] (L' := [(80, .slice A2 y30.length c3), (82, .int .i64 (wi ((wi (Int.tdiv (wi (a1 * p0.1)) 64)) + 1))), (100, .int .u64 (ior .u64 (iandn .u64 v37 (ishr .u64 r15 (wi (64 - (Int.tmod (wi (a1 * p0.1)) 64))))) (ishr .u64 a2 (wi (64 - (Int.tmod (wi (a1 * p0.1)) 64))))))]) (by kernel_rfl) ?_
          refine WD.ofP (i := 24) (by kernel_rfl) (PSt.idx (k := .i64) (.tmp 80) (.tmp 82) (by kernel_rfl) (by kernel_rfl) E70 (by kernel_rfl) (by kernel_rfl) (Sat.rdAt 0 hS rfl) e38 ?_)
          refine WD.weaken [100, 101] (L' := [(100, .int .u64 (ior .u64 (iandn .u64 v37 (ishr .u64 r15 (wi (64 - (Int.tmod (wi (a1 * p0.1)) 64))))) (ishr .u64 a2 (wi (64 - (Int.tmod (wi (a1 * p0.1)) 64)))))), (101, .pointer (some (adr A2 (wi ((wi (Int.tdiv (wi (a1 * p0.1)) 64)) + 1)).toNat 1)))]) (by kernel_rfl) ?_
          obtain ⟨y41, e42, H⟩ := bind_ex H
          refine WD.act (i := 25) (by kernel_rfl) (St.storeElem' (t := 55) (.tmp 101) (.tmp 100) (by kernel_rfl) (by kernel_rfl) (by kernel_rfl) hS (by kernel_rfl) (by kernel_rfl) rfl e42 rfl (fun w43 hS => ?_))
          refine ⟨(asked.anc (by kernel_rfl) (asked.anc (by kernel_rfl) (asked.anc (by kernel_rfl) (asked.nil _ _)))), ?_⟩
          have hl44 := set?_len e42
          have hS : Sat w43 B [osl 55 (r0 (.int .u64)) 1 A2 c3 y41, pts b0 (.cells #[.int .i64 p0.1, .int .i64 p0.2.1, .slice A2 y41.length c3] 72 (0, 0))] := by simpa only [hl44] using hS
          refine WD.weaken [] (L' := []) (by kernel_rfl) ?_
          refine WD.nil (by kernel_rfl) ?_
          refine At.go ?_
          refine WC.seq (by kernel_rfl) ?_
          refine WC.reg [0] (by kernel_rfl) (by kernel_rfl) ?_
          refine WR.runk [0] [] [6] (L' := [(6, .bool true)]) (w' := w43) (by kernel_rfl) ?_
          refine WR.nil ?_
          refine At.go ?_
          refine WC.ret (by kernel_rfl) ?_
          obtain rfl := Option.some.inj H
          have hS : Sat w43 B [pts b0 (.cells #[.int .i64 p0.1, .int .i64 p0.2.1, .slice A2 y41.length c3] 72 (0, 0)), osl 55 (r0 (.int .u64)) 1 A2 c3 y41] := hS.sel [1, 0] (by kernel_rfl)
          have hS : Sat w43 B [O72 b0 (p0.1, p0.2.1, y41)] := O72.close (p0.1, p0.2.1, y41) A2 c3 hS
          have hS : Sat w43 B [O72 b0 (p0.1, p0.2.1, y41)] := hS.sel [0] (by kernel_rfl)
          exact At.body [.bool true] (by kernel_rfl) ⟨_, rfl, rfl, hS⟩
        · replace H := ite_f H hb34
          refine WC.skip (by kernel_rfl) ?_
          refine At.go ?_
          refine WC.seq (by kernel_rfl) ?_
          refine WC.reg [0] (by kernel_rfl) (by kernel_rfl) ?_
          refine WR.runk [0] [] [6] (L' := [(6, .bool true)]) (w' := w32) (by kernel_rfl) ?_
          refine WR.nil ?_
          refine At.go ?_
          refine WC.ret (by kernel_rfl) ?_
          obtain rfl := Option.some.inj H
          have hS : Sat w32 B [pts b0 (.cells #[.int .i64 p0.1, .int .i64 p0.2.1, .slice A2 y30.length c3] 72 (0, 0)), osl 55 (r0 (.int .u64)) 1 A2 c3 y30] := hS.sel [1, 0] (by kernel_rfl)
          have hS : Sat w32 B [O72 b0 (p0.1, p0.2.1, y30)] := O72.close (p0.1, p0.2.1, y30) A2 c3 hS
          have hS : Sat w32 B [O72 b0 (p0.1, p0.2.1, y30)] := hS.sel [0] (by kernel_rfl)
          exact At.body [.bool true] (by kernel_rfl) ⟨_, rfl, rfl, hS⟩
/-! ### 35 (*colophon/pack.Ints).Width -/
def pack_Ints_Width.f (p0 : Option (Int × Int × (List Int))) : Option Int := (match p0 with | none => some 0 | some y3 => some y3.1)
def pack_Ints_Width.post (w : World) (r : Int) (v : Value) (w' : World) : Prop := v = (.int .i64 r : Value) ∧ Sat w' (rf w) []
theorem pack_Ints_Width.calls (w0 : World) (v0 : Value) (p0 : Option (Int × Int × (List Int))) (R0 : rd (hp w0) (.ptr 72 (.pair (.int .i64) (.pair (.int .i64) (.slice 55 (.int .u64))))) [v0] p0) (r : Int) (H : pack_Ints_Width.f p0 = some r) :
    Calls Try.prog 35 #[v0] w0 (fun e w' => ∃ v, e = .returned v ∧ pack_Ints_Width.post w0 r v w') := by
  have hS : Sat w0 (rf w0) [] := Sat.start w0
  unfold pack_Ints_Width.f at H
  refine calls_of_WC (vs := [v0]) Try.func35 (c := C35) (n := 9) (by kernel_rfl) (by kernel_rfl) (by kernel_rfl) ?_
  refine WC.seq (by kernel_rfl) ?_
  refine WC.reg [0] (by kernel_rfl) (by kernel_rfl) ?_
  refine WR.runk [0] [] [0] (L' := [(0, v0)]) (w' := w0) (by kernel_rfl) ?_
  refine WR.nil ?_
  refine At.go ?_
  refine WC.seq (by kernel_rfl) ?_
  refine WC.seq (by kernel_rfl) ?_
  refine WC.reg [0, 1] (by kernel_rfl) (by kernel_rfl) ?_
  refine WR.runk [0] [1] [0, 3] (L' := [(0, v0), (3, v0)]) (w' := w0) (by kernel_rfl) ?_
  rcases opt_cases p0 with hr1 | ⟨y3, hr1⟩
  · rw [hr1] at H
    dsimp only at H
    have hx2 := rd_ptr_none R0 hr1
    try subst hx2
    refine WR.runk [1] [] [0, 4] (L' := [(0, .pointer none), (4, .bool true)]) (w' := w0) (by kernel_rfl) ?_
    refine WR.nil ?_
    refine At.go ?_
    refine WC.condT (by kernel_rfl) (by kernel_rfl) (by kernel_rfl) ?_
    refine WC.seq (by kernel_rfl) ?_
    refine WC.reg [0] (by kernel_rfl) (by kernel_rfl) ?_
    refine WR.runk [0] [] [2] (L' := [(2, .int .i64 0)]) (w' := w0) (by kernel_rfl) ?_
    refine WR.nil ?_
    refine At.go ?_
    refine WC.ret (by kernel_rfl) ?_
    refine At.thenRet ?_
    obtain rfl := Option.some.inj H
    have hS : Sat w0 (rf w0) [] := hS.sel [] (by kernel_rfl)
    exact At.body [.int .i64 0] (by kernel_rfl) ⟨_, rfl, rfl, hS⟩
  · rw [hr1] at H
    dsimp only at H
    obtain ⟨b4, fr5, A9, c10, hv6, hb7, R11⟩ := P72.open R0 hr1
    have R8 := R0
    rw [hv6, hr1] at R8
    try subst hv6
    replace R11 : rdS (r0 (.int .u64)) 1 (hp w0) A9 c10 y3.2.2 := R11
    refine WR.runk [1] [] [0, 4] (L' := [(0, .pointer (some ⟨b4, 0, none⟩)), (4, .bool false)]) (w' := w0) (by kernel_rfl) ?_
    refine WR.nil ?_
    refine At.go ?_
    refine WC.condF (by kernel_rfl) (by kernel_rfl) (by kernel_rfl) ?_
    refine WC.skip (by kernel_rfl) ?_
    refine At.go ?_
    refine WC.seq (by kernel_rfl) ?_
    refine WC.reg [0, 1, 2, 3, 4] (by kernel_rfl) (by kernel_rfl) ?_
    refine WR.runk [0, 1, 2] [3, 4] [7] (L' := [(7, .pointer (some ⟨b4, 0, none⟩))]) (w' := w0) (by kernel_rfl) ?_
    refine WR.st (St.ofR (RSt.loadRo (t := 3) (k := 0) (v := .int .i64 y3.1) (.tmp 7) (by kernel_rfl) (by kernel_rfl) (by kernel_rfl) hS.sub0 hb7 (by kernel_rfl) rfl ?_))
    refine WR.runk [4] [] [2] (L' := [(2, .int .i64 y3.1)]) (w' := w0) (by kernel_rfl) ?_
    refine WR.nil ?_
    refine At.go ?_
    refine WC.ret (by kernel_rfl) ?_
    obtain rfl := Option.some.inj H
    have hS : Sat w0 (rf w0) [] := hS.sel [] (by kernel_rfl)
    exact At.body [.int .i64 y3.1] (by kernel_rfl) ⟨_, rfl, rfl, hS⟩
/-! ### 36 (*colophon/pack.Ints).Len -/
def pack_Ints_Len.f (p0 : Option (Int × Int × (List Int))) : Option Int := (match p0 with | none => some 0 | some y3 => some y3.2.1)
def pack_Ints_Len.post (w : World) (r : Int) (v : Value) (w' : World) : Prop := v = (.int .i64 r : Value) ∧ Sat w' (rf w) []
theorem pack_Ints_Len.calls (w0 : World) (v0 : Value) (p0 : Option (Int × Int × (List Int))) (R0 : rd (hp w0) (.ptr 72 (.pair (.int .i64) (.pair (.int .i64) (.slice 55 (.int .u64))))) [v0] p0) (r : Int) (H : pack_Ints_Len.f p0 = some r) :
    Calls Try.prog 36 #[v0] w0 (fun e w' => ∃ v, e = .returned v ∧ pack_Ints_Len.post w0 r v w') := by
  have hS : Sat w0 (rf w0) [] := Sat.start w0
  unfold pack_Ints_Len.f at H
  refine calls_of_WC (vs := [v0]) Try.func36 (c := C36) (n := 9) (by kernel_rfl) (by kernel_rfl) (by kernel_rfl) ?_
  refine WC.seq (by kernel_rfl) ?_
  refine WC.reg [0] (by kernel_rfl) (by kernel_rfl) ?_
  refine WR.runk [0] [] [0] (L' := [(0, v0)]) (w' := w0) (by kernel_rfl) ?_
  refine WR.nil ?_
  refine At.go ?_
  refine WC.seq (by kernel_rfl) ?_
  refine WC.seq (by kernel_rfl) ?_
  refine WC.reg [0, 1] (by kernel_rfl) (by kernel_rfl) ?_
  refine WR.runk [0] [1] [0, 3] (L' := [(0, v0), (3, v0)]) (w' := w0) (by kernel_rfl) ?_
  rcases opt_cases p0 with hr1 | ⟨y3, hr1⟩
  · rw [hr1] at H
    dsimp only at H
    have hx2 := rd_ptr_none R0 hr1
    try subst hx2
    refine WR.runk [1] [] [0, 4] (L' := [(0, .pointer none), (4, .bool true)]) (w' := w0) (by kernel_rfl) ?_
    refine WR.nil ?_
    refine At.go ?_
    refine WC.condT (by kernel_rfl) (by kernel_rfl) (by kernel_rfl) ?_
    refine WC.seq (by kernel_rfl) ?_
    refine WC.reg [0] (by kernel_rfl) (by kernel_rfl) ?_
    refine WR.runk [0] [] [2] (L' := [(2, .int .i64 0)]) (w' := w0) (by kernel_rfl) ?_
    refine WR.nil ?_
    refine At.go ?_
    refine WC.ret (by kernel_rfl) ?_
    refine At.thenRet ?_
    obtain rfl := Option.some.inj H
    have hS : Sat w0 (rf w0) [] := hS.sel [] (by kernel_rfl)
    exact At.body [.int .i64 0] (by kernel_rfl) ⟨_, rfl, rfl, hS⟩
  · rw [hr1] at H
    dsimp only at H
    obtain ⟨b4, fr5, A9, c10, hv6, hb7, R11⟩ := P72.open R0 hr1
    have R8 := R0
    rw [hv6, hr1] at R8
    try subst hv6
    replace R11 : rdS (r0 (.int .u64)) 1 (hp w0) A9 c10 y3.2.2 := R11
    refine WR.runk [1] [] [0, 4] (L' := [(0, .pointer (some ⟨b4, 0, none⟩)), (4, .bool false)]) (w' := w0) (by kernel_rfl) ?_
    refine WR.nil ?_
    refine At.go ?_
    refine WC.condF (by kernel_rfl) (by kernel_rfl) (by kernel_rfl) ?_
    refine WC.skip (by kernel_rfl) ?_
    refine At.go ?_
    refine WC.seq (by kernel_rfl) ?_
    refine WC.reg [0, 1, 2, 3, 4] (by kernel_rfl) (by kernel_rfl) ?_
    refine WR.runk [0, 1, 2] [3, 4] [7] (L' := [(7, .pointer (some ⟨b4, 1, none⟩))]) (w' := w0) (by kernel_rfl) ?_
    refine WR.st (St.ofR (RSt.loadRo (t := 3) (k := 1) (v := .int .i64 y3.2.1) (.tmp 7) (by kernel_rfl) (by kernel_rfl) (by kernel_rfl) hS.sub0 hb7 (by kernel_rfl) rfl ?_))
    refine WR.runk [4] [] [2] (L' := [(2, .int .i64 y3.2.1)]) (w' := w0) (by kernel_rfl) ?_
    refine WR.nil ?_
    refine At.go ?_
    refine WC.ret (by kernel_rfl) ?_
    obtain rfl := Option.some.inj H
    have hS : Sat w0 (rf w0) [] := hS.sel [] (by kernel_rfl)
    exact At.body [.int .i64 y3.2.1] (by kernel_rfl) ⟨_, rfl, rfl, hS⟩
/-! ### 44 slices.Clone[[]uint64,uint64] -/
def slices_Clone_44.f (l0 : List Int) : Option (List Int) := ((app? 17592186044416 (([] : List Int) : List Int) l0).bind fun y5 => some y5)
def slices_Clone_44.post (w : World) (r : (List Int)) (v : Value) (w' : World) : Prop := ∃ (A0' : Option Addr) (c0' : Nat), v = (.slice A0' r.length c0' : Value) ∧ Sat w' (rf w) [osl 55 (r0 (.int .u64)) 1 A0' c0' r]
theorem slices_Clone_44.calls (w0 : World) (A0 : Option Addr) (c0 : Nat) (l0 : List Int) (R0 : rdS (r0 (.int .u64)) 1 (hp w0) A0 c0 l0) (r : (List Int)) (H : slices_Clone_44.f l0 = some r) :
    Calls Try.prog 44 #[.slice A0 l0.length c0] w0 (fun e w' => ∃ v, e = .returned v ∧ slices_Clone_44.post w0 r v w') := by
  have hS : Sat w0 (rf w0) [] := Sat.start w0
  unfold slices_Clone_44.f at H
  refine calls_of_WC (vs := [.slice A0 l0.length c0]) Try.func44 (c := C44) (n := 8) (by kernel_rfl) (by kernel_rfl) (by kernel_rfl) ?_
  refine WC.seq (by kernel_rfl) ?_
  refine WC.reg [0] (by kernel_rfl) (by kernel_rfl) ?_
  refine WR.runk [0] [] [0] (L' := [(0, .slice A0 l0.length c0)]) (w' := w0) (by kernel_rfl) ?_
  refine WR.nil ?_
  refine At.go ?_
  refine WC.seq (by kernel_rfl) ?_
  refine WC.seq (by kernel_rfl) ?_
  refine WC.reg [0, 1] (by kernel_rfl) (by kernel_rfl) ?_
  refine WR.runk [0] [1] [0, 3] (L' := [(0, .slice A0 l0.length c0), (3, .slice A0 l0.length c0)]) (w' := w0) (by kernel_rfl) ?_
  refine WR.st (St.ofP (PSt.eqNil (t := 70) (t2 := 70) (e := 55) (A := A0) (m := l0.length) (c := c0) .eql (by decide) (.tmp 3) (by kernel_rfl) (by kernel_rfl) (by kernel_rfl) (by kernel_rfl) ?_))
  refine WR.runk [] [] [0, 4] (L' := [(0, .slice A0 l0.length c0), (4, .bool A0.isNone)]) (w' := w0) (by kernel_rfl) ?_
  refine WR.nil ?_
  refine At.go ?_
  refine WC.cond (by kernel_rfl) A0.isNone (by kernel_rfl) (by kernel_rfl) (fun hb1 => ?_) (fun hb1 => ?_)
  · have hnl := rdS.isNone (rdS.up R0 hS.sub0) (by simpa using hb1)
    rw [hnl] at H
    refine WC.seq (by kernel_rfl) ?_
    refine WC.reg [0] (by kernel_rfl) (by kernel_rfl) ?_
    refine WR.runk [0] [] [2] (L' := [(2, .slice none 0 0)]) (w' := w0) (by kernel_rfl) ?_
    refine WR.nil ?_
    refine At.go ?_
    refine WC.ret (by kernel_rfl) ?_
    refine At.thenRet ?_
    obtain rfl := Option.some.inj (show some ([] : List Int) = some r from H)
    have hS := hS.addNil (α := Int) 55 (r0 (.int .u64)) 1
    have hS : Sat w0 (rf w0) [osl 55 (r0 (.int .u64)) 1 none 0 ([] : List Int)] := hS.sel [0] (by kernel_rfl)
    exact At.body [.slice none 0 0] (by kernel_rfl) ⟨_, rfl, _, _, rfl, hS⟩
  · refine WC.skip (by kernel_rfl) ?_
    refine At.go ?_
    refine WC.seq (by kernel_rfl) ?_
    refine WC.reg [0, 1, 2, 3] (by kernel_rfl) (by kernel_rfl) ?_
    refine WR.runk [] [0, 1, 2, 3] [0] (L' := [(0, .slice A0 l0.length c0)]) (w' := w0) (by kernel_rfl) ?_
    refine WR.st (St.box hS (by kernel_rfl) (.cells #[] 55) (fun b2 => .slice (some ⟨b2, 0, none⟩) 0 0) (fun _ => by kernel_rfl) (fun b2 w3 hS => ?_))
    refine WR.runk [1] [2, 3] [5, 6] (L' := [(5, .slice (some ⟨b2, 0, none⟩) 0 0), (6, .slice A0 l0.length c0)]) (w' := w3) (by kernel_rfl) ?_
    have hS : Sat w3 (rf w0) [osl 55 (r0 (.int .u64)) 1 (some ⟨b2, 0, none⟩) (([] : List Int) : List Int).length (([] : List Int) : List Int)] := Sat.toOsl' (r0 (.int .u64)) 1 (([] : List Int) : List Int) hS rfl (rdL.nil _ _)
    obtain ⟨y5, e4, H⟩ := bind_ex H
    refine WR.st (St.append' (.tmp 5) (.tmp 6) (by kernel_rfl) (by kernel_rfl) E70 (r0_one _) hS (by kernel_rfl) (by kernel_rfl) (rdS.up R0 hS.sub0) 17592186044416 (by kernel_rfl) (by kernel_rfl) e4 (fun A6 c7 w8 hS => ?_))
    refine WR.runk [3] [] [2] (L' := [(2, .slice A6 y5.length c7)]) (w' := w8) (by kernel_rfl) ?_
    refine WR.nil ?_
    refine At.go ?_
    refine WC.ret (by kernel_rfl) ?_
    obtain rfl := Option.some.inj H
    have hS : Sat w8 (rf w0) [osl 55 (r0 (.int .u64)) 1 A6 c7 y5] := hS.sel [0] (by kernel_rfl)
    exact At.body [.slice A6 y5.length c7] (by kernel_rfl) ⟨_, rfl, _, _, rfl, hS⟩
end Go.Proofs.Ytmdemfbkdbilpaa
