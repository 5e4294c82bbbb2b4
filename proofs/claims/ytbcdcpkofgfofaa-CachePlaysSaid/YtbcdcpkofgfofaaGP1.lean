/-
  Printed by gen.py (my own tool): for each Go function a plain Lean function and the proof that a call of it does what that function says.
-/
import Derived.Test.YtbcdcpkofgfofaaProg
import Derived.Test.YtbcdcpkofgfofaaGGr
import Derived.Test.YtbcdcpkofgfofaaGX
import Derived.Test.YtbcdcpkofgfofaaGM
set_option linter.unusedVariables false
set_option linter.unusedSimpArgs false
set_option maxRecDepth 100000
namespace Go.Proofs.Ytbcdcpkofgfofaa
open Go Go.Gol
def F63 (cs : List Value) (x : Int × (List Int) × Bool × Int) : HP := fun H => ∃ a : Option Addr × Nat, cs = [.int .i64 x.1, .slice a.1 x.2.1.length a.2, .bool x.2.2.1, .int .i64 x.2.2.2] ∧ osl 5 (r0 (.int .u8)) 1 a.1 a.2 x.2.1 H
theorem F63.un {H : Heap} {cs : List Value} {x : Int × (List Int) × Bool × Int} (h : Gol.rd H (.pair (.int .i64) (.pair (.slice 5 (.int .u8)) (.pair .bool (.int .i64)))) cs x) : ∃ (A : Option Addr) (c : Nat), cs = [.int .i64 x.1, .slice A x.2.1.length c, .bool x.2.2.1, .int .i64 x.2.2.2] ∧ rdS (r0 (.int .u8)) 1 H A c x.2.1 := by
  obtain ⟨_, _, e0, g0, z0, ⟨_, _, e1, g1, ⟨A, c, z1, R⟩, ⟨_, _, e2, g2, z2, z3⟩⟩⟩ := h
  have z0' := z0; replace z0' : _ = ([.int .i64 x.1] : List Value) := z0'
  have z1' := z1; replace z1' : _ = ([.slice A x.2.1.length c] : List Value) := z1'
  have z2' := z2; replace z2' : _ = ([.bool x.2.2.1] : List Value) := z2'
  have z3' := z3; replace z3' : _ = ([.int .i64 x.2.2.2] : List Value) := z3'
  exact ⟨A, c, by rw [e0, z0', e1, z1', e2, z2', z3']; rfl, R⟩
theorem F63.rd (cs : List Value) (x : Int × (List Int) × Bool × Int) (H : Heap) (h : F63 cs x H) : Gol.rd H (.pair (.int .i64) (.pair (.slice 5 (.int .u8)) (.pair .bool (.int .i64)))) cs x := by
  obtain ⟨a, rfl, h⟩ := h
  exact ⟨[.int .i64 x.1], [.slice a.1 x.2.1.length a.2, .bool x.2.2.1, .int .i64 x.2.2.2], rfl, rfl, rfl, ⟨[.slice a.1 x.2.1.length a.2], [.bool x.2.2.1, .int .i64 x.2.2.2], rfl, rfl, ⟨a.1, a.2, rfl, (rdS.r0up (osl.read h))⟩, ⟨[.bool x.2.2.1], [.int .i64 x.2.2.2], rfl, rfl, rfl, rfl⟩⟩⟩
theorem E31 : ElemInfo Try.prog 31 5 1 1 := ElemInfo.mk' (.int .u8 0) (by kernel_rfl) (by kernel_rfl) rfl
theorem E71 : ElemInfo Try.prog 71 31 1 24 := ElemInfo.mk' (.slice none 0 0) (by kernel_rfl) (by kernel_rfl) rfl
theorem E47 : ElemInfo Try.prog 47 3 1 8 := ElemInfo.mk' (.int .i64 0) (by kernel_rfl) (by kernel_rfl) rfl
theorem E64 : ElemInfo Try.prog 64 63 4 48 := ElemInfo.mk' (.agg #[.int .i64 0, .slice none 0 0, .bool false, .int .i64 0]) (by kernel_rfl) (by kernel_rfl) rfl
theorem E38 : ElemInfo Try.prog 38 42 3 24 := ElemInfo.mk' (.agg #[.int .i64 0, .int .i64 0, .bool false]) (by kernel_rfl) (by kernel_rfl) rfl
theorem E22 : ElemInfo Try.prog 22 30 2 16 := ElemInfo.mk' (.agg #[.int .i64 0, .int .i64 0]) (by kernel_rfl) (by kernel_rfl) rfl
noncomputable abbrev C25 : Code := Try.f25.body.getD .skip
noncomputable abbrev C37 : Code := Try.f37.body.getD .skip
noncomputable abbrev C26 : Code := Try.f26.body.getD .skip
noncomputable abbrev C46 : Code := Try.f46.body.getD .skip
noncomputable abbrev C43 : Code := Try.f43.body.getD .skip
noncomputable abbrev C21 : Code := Try.f21.body.getD .skip
noncomputable abbrev C38 : Code := Try.f38.body.getD .skip
noncomputable abbrev C27 : Code := Try.f27.body.getD .skip
noncomputable abbrev C18 : Code := Try.f18.body.getD .skip
noncomputable abbrev C32 : Code := Try.f32.body.getD .skip
noncomputable abbrev C40 : Code := Try.f40.body.getD .skip
noncomputable abbrev C29 : Code := Try.f29.body.getD .skip
noncomputable abbrev C30 : Code := Try.f30.body.getD .skip
noncomputable abbrev C44 : Code := Try.f44.body.getD .skip
noncomputable abbrev C41 : Code := Try.f41.body.getD .skip
noncomputable abbrev C42 : Code := Try.f42.body.getD .skip
noncomputable abbrev C31 : Code := Try.f31.body.getD .skip
noncomputable abbrev C19 : Code := Try.f19.body.getD .skip
noncomputable abbrev C17 : Code := Try.f17.body.getD .skip
noncomputable abbrev C8 : Code := Try.f8.body.getD .skip
noncomputable abbrev C33 : Code := Try.f33.body.getD .skip
noncomputable abbrev C34 : Code := Try.f34.body.getD .skip
noncomputable abbrev C20 : Code := Try.f20.body.getD .skip
noncomputable abbrev C22 : Code := Try.f22.body.getD .skip
noncomputable abbrev C35 : Code := Try.f35.body.getD .skip
noncomputable abbrev C36 : Code := Try.f36.body.getD .skip
noncomputable abbrev C23 : Code := Try.f23.body.getD .skip
noncomputable abbrev C10 : Code := Try.f10.body.getD .skip
noncomputable abbrev C12 : Code := Try.f12.body.getD .skip
noncomputable abbrev C14 : Code := Try.f14.body.getD .skip
noncomputable abbrev C15 : Code := Try.f15.body.getD .skip
noncomputable abbrev C7 : Code := Try.f7.body.getD .skip
noncomputable abbrev C9 : Code := Try.f9.body.getD .skip
noncomputable abbrev C24 : Code := Try.f24.body.getD .skip
noncomputable abbrev C11 : Code := Try.f11.body.getD .skip
noncomputable abbrev C16 : Code := Try.f16.body.getD .skip
noncomputable abbrev C13 : Code := Try.f13.body.getD .skip
noncomputable abbrev C3 : Code := Try.f3.body.getD .skip
noncomputable abbrev C4 : Code := Try.f4.body.getD .skip
noncomputable abbrev C5 : Code := Try.f5.body.getD .skip
noncomputable abbrev C6 : Code := Try.f6.body.getD .skip
def O80 (b : Nat) (x : (List (List Int)) × (List Int) × (List Int)) : HP := fun H => ∃ a : (Option Addr × Nat) × (Option Addr × Nat) × (Option Addr × Nat), SepL [pts b (.cells #[.slice a.1.1 x.1.length a.1.2, .slice a.2.1.1 x.2.1.length a.2.1.2, .slice a.2.2.1 x.2.2.length a.2.2.2] 80 (0, 0)), orw 31 (Esl 5 (.int .u8)) 1 a.1.1 a.1.2 x.1, osl 3 (r0 (.int .i64)) 1 a.2.1.1 a.2.1.2 x.2.1, osl 3 (r0 (.int .i64)) 1 a.2.2.1 a.2.2.2 x.2.2] H
theorem O80.open {w : World} {B : Rf} {cs : List HP} {b : Nat} {x : (List (List Int)) × (List Int) × (List Int)} (h : Sat w B (O80 b x :: cs)) : ∃ (A0 : Option Addr) (c0 : Nat) (A1 : Option Addr) (c1 : Nat) (A2 : Option Addr) (c2 : Nat), Sat w B ([pts b (.cells #[.slice A0 x.1.length c0, .slice A1 x.2.1.length c1, .slice A2 x.2.2.length c2] 80 (0, 0)), orw 31 (Esl 5 (.int .u8)) 1 A0 c0 x.1, osl 3 (r0 (.int .i64)) 1 A1 c1 x.2.1, osl 3 (r0 (.int .i64)) 1 A2 c2 x.2.2] ++ cs) := by
  obtain ⟨a, h⟩ := Sat.ex h
  exact ⟨a.1.1, a.1.2, a.2.1.1, a.2.1.2, a.2.2.1, a.2.2.2, Sat.op h⟩
theorem O80.close {w : World} {B : Rf} {cs : List HP} {b : Nat} (x : (List (List Int)) × (List Int) × (List Int)) (A0 : Option Addr) (c0 : Nat) (A1 : Option Addr) (c1 : Nat) (A2 : Option Addr) (c2 : Nat) (h : Sat w B ([pts b (.cells #[.slice A0 x.1.length c0, .slice A1 x.2.1.length c1, .slice A2 x.2.2.length c2] 80 (0, 0)), orw 31 (Esl 5 (.int .u8)) 1 A0 c0 x.1, osl 3 (r0 (.int .i64)) 1 A1 c1 x.2.1, osl 3 (r0 (.int .i64)) 1 A2 c2 x.2.2] ++ cs)) : Sat w B (O80 b x :: cs) := Sat.mono1 (c := SepL [pts b (.cells #[.slice A0 x.1.length c0, .slice A1 x.2.1.length c1, .slice A2 x.2.2.length c2] 80 (0, 0)), orw 31 (Esl 5 (.int .u8)) 1 A0 c0 x.1, osl 3 (r0 (.int .i64)) 1 A1 c1 x.2.1, osl 3 (r0 (.int .i64)) 1 A2 c2 x.2.2]) (fun H h => ⟨((A0, c0), (A1, c1), (A2, c2)), h⟩) (Sat.cl _ h)
theorem P80.open {H : Heap} {v : Value} {o : Option ((List (List Int)) × (List Int) × (List Int))} (h : Gol.rd H (.ptr 80 (.pair (.slice 31 (.slice 5 (.int .u8))) (.pair (.slice 3 (.int .i64)) (.slice 3 (.int .i64))))) [v] o) {y : (List (List Int)) × (List Int) × (List Int)} (e : o = some y) : ∃ (b : Nat) (fr : Nat × Nat) (A0 : Option Addr) (c0 : Nat) (A1 : Option Addr) (c1 : Nat) (A2 : Option Addr) (c2 : Nat), v = .pointer (some ⟨b, 0, none⟩) ∧ H b = some (.cells #[.slice A0 y.1.length c0, .slice A1 y.2.1.length c1, .slice A2 y.2.2.length c2] 80 fr) ∧ rdS (Gol.rd H (.slice 5 (.int .u8))) 1 H A0 c0 y.1 ∧ rdS (r0 (.int .i64)) 1 H A1 c1 y.2.1 ∧ rdS (r0 (.int .i64)) 1 H A2 c2 y.2.2 := by
  obtain ⟨b, cells, fr, hv, hb, hr⟩ := rd_ptr_some h e
  obtain ⟨_, _, e0, g0, ⟨A0, c0, z0, R0⟩, ⟨_, _, e1, g1, ⟨A1, c1, z1, R1⟩, ⟨A2, c2, z2, R2⟩⟩⟩ := hr
  have z0' := z0; replace z0' : _ = ([.slice A0 y.1.length c0] : List Value) := z0'
  have z1' := z1; replace z1' : _ = ([.slice A1 y.2.1.length c1] : List Value) := z1'
  have z2' := z2; replace z2' : _ = ([.slice A2 y.2.2.length c2] : List Value) := z2'
  have hc : cells = #[.slice A0 y.1.length c0, .slice A1 y.2.1.length c1, .slice A2 y.2.2.length c2] := by apply Array.ext'; rw [e0, z0', e1, z1', z2']; rfl
  subst hc
  exact ⟨b, fr, A0, c0, A1, c1, A2, c2, hv, hb, R0, R1, R2⟩
theorem P80.mk {H : Heap} {b : Nat} {fr : Nat × Nat} {y : (List (List Int)) × (List Int) × (List Int)} {A0 : Option Addr} {c0 : Nat} {A1 : Option Addr} {c1 : Nat} {A2 : Option Addr} {c2 : Nat} (hb : H b = some (.cells #[.slice A0 y.1.length c0, .slice A1 y.2.1.length c1, .slice A2 y.2.2.length c2] 80 fr)) (R0 : rdS (Gol.rd H (.slice 5 (.int .u8))) 1 H A0 c0 y.1) (R1 : rdS (r0 (.int .i64)) 1 H A1 c1 y.2.1) (R2 : rdS (r0 (.int .i64)) 1 H A2 c2 y.2.2) : Gol.rd H (.ptr 80 (.pair (.slice 31 (.slice 5 (.int .u8))) (.pair (.slice 3 (.int .i64)) (.slice 3 (.int .i64))))) [.pointer (some ⟨b, 0, none⟩)] (some y) := ⟨b, _, fr, rfl, hb, ⟨[.slice A0 y.1.length c0], [.slice A1 y.2.1.length c1, .slice A2 y.2.2.length c2], rfl, rfl, ⟨A0, c0, rfl, R0⟩, ⟨[.slice A1 y.2.1.length c1], [.slice A2 y.2.2.length c2], rfl, rfl, ⟨A1, c1, rfl, (rdS.r0up R1)⟩, ⟨A2, c2, rfl, (rdS.r0up R2)⟩⟩⟩⟩
theorem O80.rd (b : Nat) (x : (List (List Int)) × (List Int) × (List Int)) (H : Heap) (h : O80 b x H) : Gol.rd H (.ptr 80 (.pair (.slice 31 (.slice 5 (.int .u8))) (.pair (.slice 3 (.int .i64)) (.slice 3 (.int .i64))))) [.pointer (some ⟨b, 0, none⟩)] (some x) := by
  obtain ⟨a, h⟩ := h
  exact P80.mk (SepL.blockAt 0 h rfl) (SepL.rdAnyS 1 h rfl (fun _ h => orw.rdS (κ := (.slice 5 (.int .u8))) (Esl.rd (e := 5) (κ := (.int .u8))) h)) (SepL.rdAt 2 h rfl) (SepL.rdAt 3 h rfl)
def O66 (b : Nat) (x : (Option ((List (List Int)) × (List Int) × (List Int))) × (List (Int × (List Int) × Bool × Int)) × Int × Int × Int) : HP := fun H => ∃ a : Value × (Option Addr × Nat), SepL [pts b (.cells #[a.1, .slice a.2.1 x.2.1.length a.2.2, .int .i64 x.2.2.1, .int .i64 x.2.2.2.1, .int .i64 x.2.2.2.2] 66 (0, 0)), optP O80 a.1 x.1, orw 63 F63 4 a.2.1 a.2.2 x.2.1] H
theorem O66.open {w : World} {B : Rf} {cs : List HP} {b : Nat} {x : (Option ((List (List Int)) × (List Int) × (List Int))) × (List (Int × (List Int) × Bool × Int)) × Int × Int × Int} (h : Sat w B (O66 b x :: cs)) : ∃ (v0 : Value) (A1 : Option Addr) (c1 : Nat), Sat w B ([pts b (.cells #[v0, .slice A1 x.2.1.length c1, .int .i64 x.2.2.1, .int .i64 x.2.2.2.1, .int .i64 x.2.2.2.2] 66 (0, 0)), optP O80 v0 x.1, orw 63 F63 4 A1 c1 x.2.1] ++ cs) := by
  obtain ⟨a, h⟩ := Sat.ex h
  exact ⟨a.1, a.2.1, a.2.2, Sat.op h⟩
theorem O66.close {w : World} {B : Rf} {cs : List HP} {b : Nat} (x : (Option ((List (List Int)) × (List Int) × (List Int))) × (List (Int × (List Int) × Bool × Int)) × Int × Int × Int) (v0 : Value) (A1 : Option Addr) (c1 : Nat) (h : Sat w B ([pts b (.cells #[v0, .slice A1 x.2.1.length c1, .int .i64 x.2.2.1, .int .i64 x.2.2.2.1, .int .i64 x.2.2.2.2] 66 (0, 0)), optP O80 v0 x.1, orw 63 F63 4 A1 c1 x.2.1] ++ cs)) : Sat w B (O66 b x :: cs) := Sat.mono1 (c := SepL [pts b (.cells #[v0, .slice A1 x.2.1.length c1, .int .i64 x.2.2.1, .int .i64 x.2.2.2.1, .int .i64 x.2.2.2.2] 66 (0, 0)), optP O80 v0 x.1, orw 63 F63 4 A1 c1 x.2.1]) (fun H h => ⟨(v0, (A1, c1)), h⟩) (Sat.cl _ h)
theorem P66.open {H : Heap} {v : Value} {o : Option ((Option ((List (List Int)) × (List Int) × (List Int))) × (List (Int × (List Int) × Bool × Int)) × Int × Int × Int)} (h : Gol.rd H (.ptr 66 (.pair (.ptr 80 (.pair (.slice 31 (.slice 5 (.int .u8))) (.pair (.slice 3 (.int .i64)) (.slice 3 (.int .i64))))) (.pair (.slice 63 (.pair (.int .i64) (.pair (.slice 5 (.int .u8)) (.pair .bool (.int .i64))))) (.pair (.int .i64) (.pair (.int .i64) (.int .i64)))))) [v] o) {y : (Option ((List (List Int)) × (List Int) × (List Int))) × (List (Int × (List Int) × Bool × Int)) × Int × Int × Int} (e : o = some y) : ∃ (b : Nat) (fr : Nat × Nat) (v0 : Value) (A1 : Option Addr) (c1 : Nat), v = .pointer (some ⟨b, 0, none⟩) ∧ H b = some (.cells #[v0, .slice A1 y.2.1.length c1, .int .i64 y.2.2.1, .int .i64 y.2.2.2.1, .int .i64 y.2.2.2.2] 66 fr) ∧ Gol.rd H (.ptr 80 (.pair (.slice 31 (.slice 5 (.int .u8))) (.pair (.slice 3 (.int .i64)) (.slice 3 (.int .i64))))) [v0] y.1 ∧ rdS (Gol.rd H (.pair (.int .i64) (.pair (.slice 5 (.int .u8)) (.pair .bool (.int .i64))))) 4 H A1 c1 y.2.1 := by
  obtain ⟨b, cells, fr, hv, hb, hr⟩ := rd_ptr_some h e
  obtain ⟨_, _, e0, g0, S0, ⟨_, _, e1, g1, ⟨A1, c1, z1, R1⟩, ⟨_, _, e2, g2, z2, ⟨_, _, e3, g3, z3, z4⟩⟩⟩⟩ := hr
  obtain ⟨v0, z0⟩ := rd_ptr_one S0
  rw [z0] at S0
  have z0' := z0; replace z0' : _ = ([v0] : List Value) := z0'
  have z1' := z1; replace z1' : _ = ([.slice A1 y.2.1.length c1] : List Value) := z1'
  have z2' := z2; replace z2' : _ = ([.int .i64 y.2.2.1] : List Value) := z2'
  have z3' := z3; replace z3' : _ = ([.int .i64 y.2.2.2.1] : List Value) := z3'
  have z4' := z4; replace z4' : _ = ([.int .i64 y.2.2.2.2] : List Value) := z4'
  have hc : cells = #[v0, .slice A1 y.2.1.length c1, .int .i64 y.2.2.1, .int .i64 y.2.2.2.1, .int .i64 y.2.2.2.2] := by apply Array.ext'; rw [e0, z0', e1, z1', e2, z2', e3, z3', z4']; rfl
  subst hc
  exact ⟨b, fr, v0, A1, c1, hv, hb, S0, R1⟩
theorem P66.mk {H : Heap} {b : Nat} {fr : Nat × Nat} {y : (Option ((List (List Int)) × (List Int) × (List Int))) × (List (Int × (List Int) × Bool × Int)) × Int × Int × Int} {v0 : Value} {A1 : Option Addr} {c1 : Nat} (hb : H b = some (.cells #[v0, .slice A1 y.2.1.length c1, .int .i64 y.2.2.1, .int .i64 y.2.2.2.1, .int .i64 y.2.2.2.2] 66 fr)) (R0 : Gol.rd H (.ptr 80 (.pair (.slice 31 (.slice 5 (.int .u8))) (.pair (.slice 3 (.int .i64)) (.slice 3 (.int .i64))))) [v0] y.1) (R1 : rdS (Gol.rd H (.pair (.int .i64) (.pair (.slice 5 (.int .u8)) (.pair .bool (.int .i64))))) 4 H A1 c1 y.2.1) : Gol.rd H (.ptr 66 (.pair (.ptr 80 (.pair (.slice 31 (.slice 5 (.int .u8))) (.pair (.slice 3 (.int .i64)) (.slice 3 (.int .i64))))) (.pair (.slice 63 (.pair (.int .i64) (.pair (.slice 5 (.int .u8)) (.pair .bool (.int .i64))))) (.pair (.int .i64) (.pair (.int .i64) (.int .i64)))))) [.pointer (some ⟨b, 0, none⟩)] (some y) := ⟨b, _, fr, rfl, hb, ⟨[v0], [.slice A1 y.2.1.length c1, .int .i64 y.2.2.1, .int .i64 y.2.2.2.1, .int .i64 y.2.2.2.2], rfl, rfl, R0, ⟨[.slice A1 y.2.1.length c1], [.int .i64 y.2.2.1, .int .i64 y.2.2.2.1, .int .i64 y.2.2.2.2], rfl, rfl, ⟨A1, c1, rfl, R1⟩, ⟨[.int .i64 y.2.2.1], [.int .i64 y.2.2.2.1, .int .i64 y.2.2.2.2], rfl, rfl, rfl, ⟨[.int .i64 y.2.2.2.1], [.int .i64 y.2.2.2.2], rfl, rfl, rfl, rfl⟩⟩⟩⟩⟩
theorem O66.rd (b : Nat) (x : (Option ((List (List Int)) × (List Int) × (List Int))) × (List (Int × (List Int) × Bool × Int)) × Int × Int × Int) (H : Heap) (h : O66 b x H) : Gol.rd H (.ptr 66 (.pair (.ptr 80 (.pair (.slice 31 (.slice 5 (.int .u8))) (.pair (.slice 3 (.int .i64)) (.slice 3 (.int .i64))))) (.pair (.slice 63 (.pair (.int .i64) (.pair (.slice 5 (.int .u8)) (.pair .bool (.int .i64))))) (.pair (.int .i64) (.pair (.int .i64) (.int .i64)))))) [.pointer (some ⟨b, 0, none⟩)] (some x) := by
  obtain ⟨a, h⟩ := h
  exact P66.mk (SepL.blockAt 0 h rfl) (SepL.rdAny 1 h rfl (fun _ h => optP.rdd (t := 80) (κ := (.pair (.slice 31 (.slice 5 (.int .u8))) (.pair (.slice 3 (.int .i64)) (.slice 3 (.int .i64))))) (O := O80) O80.rd h)) (SepL.rdAnyS 2 h rfl (fun _ h => orw.rdS (κ := (.pair (.int .i64) (.pair (.slice 5 (.int .u8)) (.pair .bool (.int .i64))))) F63.rd h))
def O63 (b : Nat) (x : Int × (List Int) × Bool × Int) : HP := fun H => ∃ a : (Option Addr × Nat), SepL [pts b (.cells #[.int .i64 x.1, .slice a.1 x.2.1.length a.2, .bool x.2.2.1, .int .i64 x.2.2.2] 63 (0, 0)), osl 5 (r0 (.int .u8)) 1 a.1 a.2 x.2.1] H
theorem O63.open {w : World} {B : Rf} {cs : List HP} {b : Nat} {x : Int × (List Int) × Bool × Int} (h : Sat w B (O63 b x :: cs)) : ∃ (A0 : Option Addr) (c0 : Nat), Sat w B ([pts b (.cells #[.int .i64 x.1, .slice A0 x.2.1.length c0, .bool x.2.2.1, .int .i64 x.2.2.2] 63 (0, 0)), osl 5 (r0 (.int .u8)) 1 A0 c0 x.2.1] ++ cs) := by
  obtain ⟨a, h⟩ := Sat.ex h
  exact ⟨a.1, a.2, Sat.op h⟩
theorem O63.close {w : World} {B : Rf} {cs : List HP} {b : Nat} (x : Int × (List Int) × Bool × Int) (A0 : Option Addr) (c0 : Nat) (h : Sat w B ([pts b (.cells #[.int .i64 x.1, .slice A0 x.2.1.length c0, .bool x.2.2.1, .int .i64 x.2.2.2] 63 (0, 0)), osl 5 (r0 (.int .u8)) 1 A0 c0 x.2.1] ++ cs)) : Sat w B (O63 b x :: cs) := Sat.mono1 (c := SepL [pts b (.cells #[.int .i64 x.1, .slice A0 x.2.1.length c0, .bool x.2.2.1, .int .i64 x.2.2.2] 63 (0, 0)), osl 5 (r0 (.int .u8)) 1 A0 c0 x.2.1]) (fun H h => ⟨(A0, c0), h⟩) (Sat.cl _ h)
theorem P63.open {H : Heap} {v : Value} {o : Option (Int × (List Int) × Bool × Int)} (h : Gol.rd H (.ptr 63 (.pair (.int .i64) (.pair (.slice 5 (.int .u8)) (.pair .bool (.int .i64))))) [v] o) {y : Int × (List Int) × Bool × Int} (e : o = some y) : ∃ (b : Nat) (fr : Nat × Nat) (A0 : Option Addr) (c0 : Nat), v = .pointer (some ⟨b, 0, none⟩) ∧ H b = some (.cells #[.int .i64 y.1, .slice A0 y.2.1.length c0, .bool y.2.2.1, .int .i64 y.2.2.2] 63 fr) ∧ rdS (r0 (.int .u8)) 1 H A0 c0 y.2.1 := by
  obtain ⟨b, cells, fr, hv, hb, hr⟩ := rd_ptr_some h e
  obtain ⟨_, _, e0, g0, z0, ⟨_, _, e1, g1, ⟨A0, c0, z1, R0⟩, ⟨_, _, e2, g2, z2, z3⟩⟩⟩ := hr
  have z0' := z0; replace z0' : _ = ([.int .i64 y.1] : List Value) := z0'
  have z1' := z1; replace z1' : _ = ([.slice A0 y.2.1.length c0] : List Value) := z1'
  have z2' := z2; replace z2' : _ = ([.bool y.2.2.1] : List Value) := z2'
  have z3' := z3; replace z3' : _ = ([.int .i64 y.2.2.2] : List Value) := z3'
  have hc : cells = #[.int .i64 y.1, .slice A0 y.2.1.length c0, .bool y.2.2.1, .int .i64 y.2.2.2] := by apply Array.ext'; rw [e0, z0', e1, z1', e2, z2', z3']; rfl
  subst hc
  exact ⟨b, fr, A0, c0, hv, hb, R0⟩
theorem P63.mk {H : Heap} {b : Nat} {fr : Nat × Nat} {y : Int × (List Int) × Bool × Int} {A0 : Option Addr} {c0 : Nat} (hb : H b = some (.cells #[.int .i64 y.1, .slice A0 y.2.1.length c0, .bool y.2.2.1, .int .i64 y.2.2.2] 63 fr)) (R0 : rdS (r0 (.int .u8)) 1 H A0 c0 y.2.1) : Gol.rd H (.ptr 63 (.pair (.int .i64) (.pair (.slice 5 (.int .u8)) (.pair .bool (.int .i64))))) [.pointer (some ⟨b, 0, none⟩)] (some y) := ⟨b, _, fr, rfl, hb, ⟨[.int .i64 y.1], [.slice A0 y.2.1.length c0, .bool y.2.2.1, .int .i64 y.2.2.2], rfl, rfl, rfl, ⟨[.slice A0 y.2.1.length c0], [.bool y.2.2.1, .int .i64 y.2.2.2], rfl, rfl, ⟨A0, c0, rfl, (rdS.r0up R0)⟩, ⟨[.bool y.2.2.1], [.int .i64 y.2.2.2], rfl, rfl, rfl, rfl⟩⟩⟩⟩
theorem O63.rd (b : Nat) (x : Int × (List Int) × Bool × Int) (H : Heap) (h : O63 b x H) : Gol.rd H (.ptr 63 (.pair (.int .i64) (.pair (.slice 5 (.int .u8)) (.pair .bool (.int .i64))))) [.pointer (some ⟨b, 0, none⟩)] (some x) := by
  obtain ⟨a, h⟩ := h
  exact P63.mk (SepL.blockAt 0 h rfl) (SepL.rdAt 1 h rfl)
def O44 (b : Nat) (x : Int × Int × Int × Int) : HP := fun H => SepL [pts b (.cells #[.int .i64 x.1, .int .i64 x.2.1, .int .i64 x.2.2.1, .int .i64 x.2.2.2] 44 (0, 0))] H
theorem O44.open {w : World} {B : Rf} {cs : List HP} {b : Nat} {x : Int × Int × Int × Int} (h : Sat w B (O44 b x :: cs)) : Sat w B ([pts b (.cells #[.int .i64 x.1, .int .i64 x.2.1, .int .i64 x.2.2.1, .int .i64 x.2.2.2] 44 (0, 0))] ++ cs) := Sat.op h
theorem O44.close {w : World} {B : Rf} {cs : List HP} {b : Nat} (x : Int × Int × Int × Int) (h : Sat w B ([pts b (.cells #[.int .i64 x.1, .int .i64 x.2.1, .int .i64 x.2.2.1, .int .i64 x.2.2.2] 44 (0, 0))] ++ cs)) : Sat w B (O44 b x :: cs) := Sat.mono1 (c := SepL [pts b (.cells #[.int .i64 x.1, .int .i64 x.2.1, .int .i64 x.2.2.1, .int .i64 x.2.2.2] 44 (0, 0))]) (fun H h => h) (Sat.cl _ h)
theorem P44.open {H : Heap} {v : Value} {o : Option (Int × Int × Int × Int)} (h : Gol.rd H (.ptr 44 (.pair (.int .i64) (.pair (.int .i64) (.pair (.int .i64) (.int .i64))))) [v] o) {y : Int × Int × Int × Int} (e : o = some y) : ∃ (b : Nat) (fr : Nat × Nat), v = .pointer (some ⟨b, 0, none⟩) ∧ H b = some (.cells #[.int .i64 y.1, .int .i64 y.2.1, .int .i64 y.2.2.1, .int .i64 y.2.2.2] 44 fr) := by
  obtain ⟨b, cells, fr, hv, hb, hr⟩ := rd_ptr_some h e
  obtain ⟨_, _, e0, g0, z0, ⟨_, _, e1, g1, z1, ⟨_, _, e2, g2, z2, z3⟩⟩⟩ := hr
  have z0' := z0; replace z0' : _ = ([.int .i64 y.1] : List Value) := z0'
  have z1' := z1; replace z1' : _ = ([.int .i64 y.2.1] : List Value) := z1'
  have z2' := z2; replace z2' : _ = ([.int .i64 y.2.2.1] : List Value) := z2'
  have z3' := z3; replace z3' : _ = ([.int .i64 y.2.2.2] : List Value) := z3'
  have hc : cells = #[.int .i64 y.1, .int .i64 y.2.1, .int .i64 y.2.2.1, .int .i64 y.2.2.2] := by apply Array.ext'; rw [e0, z0', e1, z1', e2, z2', z3']; rfl
  subst hc
  exact ⟨b, fr, hv, hb⟩
theorem P44.mk {H : Heap} {b : Nat} {fr : Nat × Nat} {y : Int × Int × Int × Int} (hb : H b = some (.cells #[.int .i64 y.1, .int .i64 y.2.1, .int .i64 y.2.2.1, .int .i64 y.2.2.2] 44 fr)) : Gol.rd H (.ptr 44 (.pair (.int .i64) (.pair (.int .i64) (.pair (.int .i64) (.int .i64))))) [.pointer (some ⟨b, 0, none⟩)] (some y) := ⟨b, _, fr, rfl, hb, ⟨[.int .i64 y.1], [.int .i64 y.2.1, .int .i64 y.2.2.1, .int .i64 y.2.2.2], rfl, rfl, rfl, ⟨[.int .i64 y.2.1], [.int .i64 y.2.2.1, .int .i64 y.2.2.2], rfl, rfl, rfl, ⟨[.int .i64 y.2.2.1], [.int .i64 y.2.2.2], rfl, rfl, rfl, rfl⟩⟩⟩⟩
theorem O44.rd (b : Nat) (x : Int × Int × Int × Int) (H : Heap) (h : O44 b x H) : Gol.rd H (.ptr 44 (.pair (.int .i64) (.pair (.int .i64) (.pair (.int .i64) (.int .i64))))) [.pointer (some ⟨b, 0, none⟩)] (some x) := by
  exact P44.mk (SepL.blockAt 0 h rfl)
def O40 (b : Nat) (x : Int × (List (Int × Int × Bool)) × Int × Int × Int) : HP := fun H => ∃ a : (Option Addr × Nat), SepL [pts b (.cells #[.int .i64 x.1, .slice a.1 x.2.1.length a.2, .int .i64 x.2.2.1, .int .i64 x.2.2.2.1, .int .i64 x.2.2.2.2] 40 (0, 0)), osl 42 (r0 (.pair (.int .i64) (.pair (.int .i64) .bool))) 3 a.1 a.2 x.2.1] H
theorem O40.open {w : World} {B : Rf} {cs : List HP} {b : Nat} {x : Int × (List (Int × Int × Bool)) × Int × Int × Int} (h : Sat w B (O40 b x :: cs)) : ∃ (A0 : Option Addr) (c0 : Nat), Sat w B ([pts b (.cells #[.int .i64 x.1, .slice A0 x.2.1.length c0, .int .i64 x.2.2.1, .int .i64 x.2.2.2.1, .int .i64 x.2.2.2.2] 40 (0, 0)), osl 42 (r0 (.pair (.int .i64) (.pair (.int .i64) .bool))) 3 A0 c0 x.2.1] ++ cs) := by
  obtain ⟨a, h⟩ := Sat.ex h
  exact ⟨a.1, a.2, Sat.op h⟩
theorem O40.close {w : World} {B : Rf} {cs : List HP} {b : Nat} (x : Int × (List (Int × Int × Bool)) × Int × Int × Int) (A0 : Option Addr) (c0 : Nat) (h : Sat w B ([pts b (.cells #[.int .i64 x.1, .slice A0 x.2.1.length c0, .int .i64 x.2.2.1, .int .i64 x.2.2.2.1, .int .i64 x.2.2.2.2] 40 (0, 0)), osl 42 (r0 (.pair (.int .i64) (.pair (.int .i64) .bool))) 3 A0 c0 x.2.1] ++ cs)) : Sat w B (O40 b x :: cs) := Sat.mono1 (c := SepL [pts b (.cells #[.int .i64 x.1, .slice A0 x.2.1.length c0, .int .i64 x.2.2.1, .int .i64 x.2.2.2.1, .int .i64 x.2.2.2.2] 40 (0, 0)), osl 42 (r0 (.pair (.int .i64) (.pair (.int .i64) .bool))) 3 A0 c0 x.2.1]) (fun H h => ⟨(A0, c0), h⟩) (Sat.cl _ h)
theorem P40.open {H : Heap} {v : Value} {o : Option (Int × (List (Int × Int × Bool)) × Int × Int × Int)} (h : Gol.rd H (.ptr 40 (.pair (.int .i64) (.pair (.slice 42 (.pair (.int .i64) (.pair (.int .i64) .bool))) (.pair (.int .i64) (.pair (.int .i64) (.int .i64)))))) [v] o) {y : Int × (List (Int × Int × Bool)) × Int × Int × Int} (e : o = some y) : ∃ (b : Nat) (fr : Nat × Nat) (A0 : Option Addr) (c0 : Nat), v = .pointer (some ⟨b, 0, none⟩) ∧ H b = some (.cells #[.int .i64 y.1, .slice A0 y.2.1.length c0, .int .i64 y.2.2.1, .int .i64 y.2.2.2.1, .int .i64 y.2.2.2.2] 40 fr) ∧ rdS (r0 (.pair (.int .i64) (.pair (.int .i64) .bool))) 3 H A0 c0 y.2.1 := by
  obtain ⟨b, cells, fr, hv, hb, hr⟩ := rd_ptr_some h e
  obtain ⟨_, _, e0, g0, z0, ⟨_, _, e1, g1, ⟨A0, c0, z1, R0⟩, ⟨_, _, e2, g2, z2, ⟨_, _, e3, g3, z3, z4⟩⟩⟩⟩ := hr
  have z0' := z0; replace z0' : _ = ([.int .i64 y.1] : List Value) := z0'
  have z1' := z1; replace z1' : _ = ([.slice A0 y.2.1.length c0] : List Value) := z1'
  have z2' := z2; replace z2' : _ = ([.int .i64 y.2.2.1] : List Value) := z2'
  have z3' := z3; replace z3' : _ = ([.int .i64 y.2.2.2.1] : List Value) := z3'
  have z4' := z4; replace z4' : _ = ([.int .i64 y.2.2.2.2] : List Value) := z4'
  have hc : cells = #[.int .i64 y.1, .slice A0 y.2.1.length c0, .int .i64 y.2.2.1, .int .i64 y.2.2.2.1, .int .i64 y.2.2.2.2] := by apply Array.ext'; rw [e0, z0', e1, z1', e2, z2', e3, z3', z4']; rfl
  subst hc
  exact ⟨b, fr, A0, c0, hv, hb, R0⟩
theorem P40.mk {H : Heap} {b : Nat} {fr : Nat × Nat} {y : Int × (List (Int × Int × Bool)) × Int × Int × Int} {A0 : Option Addr} {c0 : Nat} (hb : H b = some (.cells #[.int .i64 y.1, .slice A0 y.2.1.length c0, .int .i64 y.2.2.1, .int .i64 y.2.2.2.1, .int .i64 y.2.2.2.2] 40 fr)) (R0 : rdS (r0 (.pair (.int .i64) (.pair (.int .i64) .bool))) 3 H A0 c0 y.2.1) : Gol.rd H (.ptr 40 (.pair (.int .i64) (.pair (.slice 42 (.pair (.int .i64) (.pair (.int .i64) .bool))) (.pair (.int .i64) (.pair (.int .i64) (.int .i64)))))) [.pointer (some ⟨b, 0, none⟩)] (some y) := ⟨b, _, fr, rfl, hb, ⟨[.int .i64 y.1], [.slice A0 y.2.1.length c0, .int .i64 y.2.2.1, .int .i64 y.2.2.2.1, .int .i64 y.2.2.2.2], rfl, rfl, rfl, ⟨[.slice A0 y.2.1.length c0], [.int .i64 y.2.2.1, .int .i64 y.2.2.2.1, .int .i64 y.2.2.2.2], rfl, rfl, ⟨A0, c0, rfl, (rdS.r0up R0)⟩, ⟨[.int .i64 y.2.2.1], [.int .i64 y.2.2.2.1, .int .i64 y.2.2.2.2], rfl, rfl, rfl, ⟨[.int .i64 y.2.2.2.1], [.int .i64 y.2.2.2.2], rfl, rfl, rfl, rfl⟩⟩⟩⟩⟩
theorem O40.rd (b : Nat) (x : Int × (List (Int × Int × Bool)) × Int × Int × Int) (H : Heap) (h : O40 b x H) : Gol.rd H (.ptr 40 (.pair (.int .i64) (.pair (.slice 42 (.pair (.int .i64) (.pair (.int .i64) .bool))) (.pair (.int .i64) (.pair (.int .i64) (.int .i64)))))) [.pointer (some ⟨b, 0, none⟩)] (some x) := by
  obtain ⟨a, h⟩ := h
  exact P40.mk (SepL.blockAt 0 h rfl) (SepL.rdAt 1 h rfl)
def O30 (b : Nat) (x : Int × Int) : HP := fun H => SepL [pts b (.cells #[.int .i64 x.1, .int .i64 x.2] 30 (0, 0))] H
theorem O30.open {w : World} {B : Rf} {cs : List HP} {b : Nat} {x : Int × Int} (h : Sat w B (O30 b x :: cs)) : Sat w B ([pts b (.cells #[.int .i64 x.1, .int .i64 x.2] 30 (0, 0))] ++ cs) := Sat.op h
theorem O30.close {w : World} {B : Rf} {cs : List HP} {b : Nat} (x : Int × Int) (h : Sat w B ([pts b (.cells #[.int .i64 x.1, .int .i64 x.2] 30 (0, 0))] ++ cs)) : Sat w B (O30 b x :: cs) := Sat.mono1 (c := SepL [pts b (.cells #[.int .i64 x.1, .int .i64 x.2] 30 (0, 0))]) (fun H h => h) (Sat.cl _ h)
theorem P30.open {H : Heap} {v : Value} {o : Option (Int × Int)} (h : Gol.rd H (.ptr 30 (.pair (.int .i64) (.int .i64))) [v] o) {y : Int × Int} (e : o = some y) : ∃ (b : Nat) (fr : Nat × Nat), v = .pointer (some ⟨b, 0, none⟩) ∧ H b = some (.cells #[.int .i64 y.1, .int .i64 y.2] 30 fr) := by
  obtain ⟨b, cells, fr, hv, hb, hr⟩ := rd_ptr_some h e
  obtain ⟨_, _, e0, g0, z0, z1⟩ := hr
  have z0' := z0; replace z0' : _ = ([.int .i64 y.1] : List Value) := z0'
  have z1' := z1; replace z1' : _ = ([.int .i64 y.2] : List Value) := z1'
  have hc : cells = #[.int .i64 y.1, .int .i64 y.2] := by apply Array.ext'; rw [e0, z0', z1']; rfl
  subst hc
  exact ⟨b, fr, hv, hb⟩
theorem P30.mk {H : Heap} {b : Nat} {fr : Nat × Nat} {y : Int × Int} (hb : H b = some (.cells #[.int .i64 y.1, .int .i64 y.2] 30 fr)) : Gol.rd H (.ptr 30 (.pair (.int .i64) (.int .i64))) [.pointer (some ⟨b, 0, none⟩)] (some y) := ⟨b, _, fr, rfl, hb, ⟨[.int .i64 y.1], [.int .i64 y.2], rfl, rfl, rfl, rfl⟩⟩
theorem O30.rd (b : Nat) (x : Int × Int) (H : Heap) (h : O30 b x H) : Gol.rd H (.ptr 30 (.pair (.int .i64) (.int .i64))) [.pointer (some ⟨b, 0, none⟩)] (some x) := by
  exact P30.mk (SepL.blockAt 0 h rfl)
def O42 (b : Nat) (x : Int × Int × Bool) : HP := fun H => SepL [pts b (.cells #[.int .i64 x.1, .int .i64 x.2.1, .bool x.2.2] 42 (0, 0))] H
theorem O42.open {w : World} {B : Rf} {cs : List HP} {b : Nat} {x : Int × Int × Bool} (h : Sat w B (O42 b x :: cs)) : Sat w B ([pts b (.cells #[.int .i64 x.1, .int .i64 x.2.1, .bool x.2.2] 42 (0, 0))] ++ cs) := Sat.op h
theorem O42.close {w : World} {B : Rf} {cs : List HP} {b : Nat} (x : Int × Int × Bool) (h : Sat w B ([pts b (.cells #[.int .i64 x.1, .int .i64 x.2.1, .bool x.2.2] 42 (0, 0))] ++ cs)) : Sat w B (O42 b x :: cs) := Sat.mono1 (c := SepL [pts b (.cells #[.int .i64 x.1, .int .i64 x.2.1, .bool x.2.2] 42 (0, 0))]) (fun H h => h) (Sat.cl _ h)
theorem P42.open {H : Heap} {v : Value} {o : Option (Int × Int × Bool)} (h : Gol.rd H (.ptr 42 (.pair (.int .i64) (.pair (.int .i64) .bool))) [v] o) {y : Int × Int × Bool} (e : o = some y) : ∃ (b : Nat) (fr : Nat × Nat), v = .pointer (some ⟨b, 0, none⟩) ∧ H b = some (.cells #[.int .i64 y.1, .int .i64 y.2.1, .bool y.2.2] 42 fr) := by
  obtain ⟨b, cells, fr, hv, hb, hr⟩ := rd_ptr_some h e
  obtain ⟨_, _, e0, g0, z0, ⟨_, _, e1, g1, z1, z2⟩⟩ := hr
  have z0' := z0; replace z0' : _ = ([.int .i64 y.1] : List Value) := z0'
  have z1' := z1; replace z1' : _ = ([.int .i64 y.2.1] : List Value) := z1'
  have z2' := z2; replace z2' : _ = ([.bool y.2.2] : List Value) := z2'
  have hc : cells = #[.int .i64 y.1, .int .i64 y.2.1, .bool y.2.2] := by apply Array.ext'; rw [e0, z0', e1, z1', z2']; rfl
  subst hc
  exact ⟨b, fr, hv, hb⟩
theorem P42.mk {H : Heap} {b : Nat} {fr : Nat × Nat} {y : Int × Int × Bool} (hb : H b = some (.cells #[.int .i64 y.1, .int .i64 y.2.1, .bool y.2.2] 42 fr)) : Gol.rd H (.ptr 42 (.pair (.int .i64) (.pair (.int .i64) .bool))) [.pointer (some ⟨b, 0, none⟩)] (some y) := ⟨b, _, fr, rfl, hb, ⟨[.int .i64 y.1], [.int .i64 y.2.1, .bool y.2.2], rfl, rfl, rfl, ⟨[.int .i64 y.2.1], [.bool y.2.2], rfl, rfl, rfl, rfl⟩⟩⟩
theorem O42.rd (b : Nat) (x : Int × Int × Bool) (H : Heap) (h : O42 b x H) : Gol.rd H (.ptr 42 (.pair (.int .i64) (.pair (.int .i64) .bool))) [.pointer (some ⟨b, 0, none⟩)] (some x) := by
  exact P42.mk (SepL.blockAt 0 h rfl)
/-! ### 25 colophon/image.little -/
def image_little.l1 (a0 : Int) (a1 : Int) : Nat → (List Int) → Int → Option (List Int)
  | 0, _, _ => none
  | k + 1, x5_l1, x8_l1 => (if decide (x8_l1 < a1) then ((chk? (decide (0 ≤ (wi (8 * x8_l1))))).bind fun _ => ((app? 140737488355328 x5_l1 ([IntKind.wrap .u8 (ishr .i64 a0 (wi (8 * x8_l1)))] : List Int)).bind fun y6 => image_little.l1 a0 a1 k y6 (wi (x8_l1 + 1)))) else some x5_l1)
def image_little.f (a0 : Int) (a1 : Int) : Option (List Int) := ((image_little.l1 a0 a1 FU ([] : List Int) 0).bind fun o10 => some o10)
def image_little.post (w : World) (r : (List Int)) (v : Value) (w' : World) : Prop := ∃ (A0' : Option Addr) (c0' : Nat), v = (.slice A0' r.length c0' : Value) ∧ Sat w' (rf w) [osl 5 (r0 (.int .u8)) 1 A0' c0' r]
theorem image_little.l1_ok {Q} (w0 : World) (a0 : Int) (a1 : Int) (out : (List Int)) (hn0 : ∀ (A5_q : Option Addr) (c5_q : Nat) (w : World), Sat w (rf w0) [osl 5 (r0 (.int .u8)) 1 A5_q c5_q out] → At Q (.exit 0) 21 [(5, .slice A5_q out.length c5_q)] w) :
    ∀ (k : Nat) (x5_l1 : List Int) (x8_l1 : Int) (A5_l1 : Option Addr) (c5_l1 : Nat) (w : World), Sat w (rf w0) [osl 5 (r0 (.int .u8)) 1 A5_l1 c5_l1 x5_l1] → image_little.l1 a0 a1 k x5_l1 x8_l1 = some out → WL Try.prog (cbody (cbody (cr (cl (cr (cr C25)))))) Q 21 [(0, .int .i64 a0), (5, .slice A5_l1 x5_l1.length c5_l1), (7, .int .i64 a1), (8, .int .i64 x8_l1)] w := by
  intro k
  induction k with
  | zero => intro x5_l1 x8_l1 A5_l1 c5_l1 w hS H; exact absurd (show none = some out from H) (by simp)
  | succ k ih =>
    intro x5_l1 x8_l1 A5_l1 c5_l1 w hS H
    unfold image_little.l1 at H
    refine WL.round ?_
    refine WC.seq kr ?_
    refine WC.reg [0] kr kr ?_
    refine WR.runk [0] [] [0, 5, 7, 8, 9] (L' := [(0, .int .i64 a0), (5, .slice A5_l1 x5_l1.length c5_l1), (7, .int .i64 a1), (8, .int .i64 x8_l1), (9, .bool (decide (x8_l1 < a1)))]) (w' := w) kr ?_
    refine WR.nil ?_
    refine At.go ?_
    refine WC.seq kr ?_
    refine WC.cond kr (decide (x8_l1 < a1)) kr kr (fun hb1 => ?_) (fun hb1 => ?_)
    ·replace H := ite_t H hb1
     refine WC.skip kr ?_
     refine At.go ?_
     refine WC.seq kr ?_
     refine WC.block kr ?_
     refine WC.seq kr ?_
     refine WC.reg [0, 1] kr kr ?_
     refine WR.runk [0, 1] [] [0, 5, 6, 7, 8] (L' := [(0, .int .i64 a0), (5, .slice A5_l1 x5_l1.length c5_l1), (6, .int .i64 x8_l1), (7, .int .i64 a1), (8, .int .i64 x8_l1)]) (w' := w) kr ?_
     refine WR.nil ?_
     refine At.go ?_
     refine WC.reg [0, 1, 2, 3, 4, 5, 6, 7, 8] kr kr ?_
     refine WR.runk [0, 1, 2, 3] [4, 5, 6, 7, 8] [0, 5, 7, 8, 11, 12, 14] (L' := [(0, .int .i64 a0), (5, .slice A5_l1 x5_l1.length c5_l1), (7, .int .i64 a1), (8, .int .i64 x8_l1), (11, .slice A5_l1 x5_l1.length c5_l1), (12, .int .i64 a0), (14, .int .i64 (wi (8 * x8_l1)))]) (w' := w) kr ?_
     obtain ⟨_, e2, H⟩ := bind_ex H
     refine WR.st (St.ofP (PSt.shift (k := .i64) (k2 := .i64) (t := 3) (t2 := 3) (a := a0) (b := (wi (8 * x8_l1))) .shr (by decide) (.tmp 12) (.tmp 14) kr kr kr kr (of_decide_eq_true (chk?_some e2)) ?_))
     refine WR.runk [5] [6, 7, 8] [0, 5, 7, 8, 11, 16] (L' := [(0, .int .i64 a0), (5, .slice A5_l1 x5_l1.length c5_l1), (7, .int .i64 a1), (8, .int .i64 x8_l1), (11, .slice A5_l1 x5_l1.length c5_l1), (16, .int .u8 (IntKind.wrap .u8 (ishr .i64 a0 (wi (8 * x8_l1)))))]) (w' := w) kr ?_
     refine WR.st (St.box hS kr (.cells #[.int .u8 (IntKind.wrap .u8 (ishr .i64 a0 (wi (8 * x8_l1))))] 5) (fun b3 => .slice (some ⟨b3, 0, none⟩) 1 1) (fun _ => by kernel_rfl) (fun b3 w4 hS => ?_))
     refine WR.runk [] [7, 8] [0, 5, 7, 8, 11, 17] (L' := [(0, .int .i64 a0), (5, .slice A5_l1 x5_l1.length c5_l1), (7, .int .i64 a1), (8, .int .i64 x8_l1), (11, .slice A5_l1 x5_l1.length c5_l1), (17, .slice (some ⟨b3, 0, none⟩) 1 1)]) (w' := w4) kr ?_
     have hS : Sat w4 (rf w0) [osl 5 (r0 (.int .u8)) 1 A5_l1 c5_l1 x5_l1, pts b3 (.cells #[.int .u8 (IntKind.wrap .u8 (ishr .i64 a0 (wi (8 * x8_l1))))] 5 (0, 0))] := hS.sel [1, 0] kr
     obtain ⟨y6, e5, H⟩ := bind_ex H
     refine WR.st (St.append' (.tmp 11) (.tmp 17) kr kr E31 (r0_one _) hS kr kr (Sat.ptsAt 1 (r0 (.int .u8)) 1 ([IntKind.wrap .u8 (ishr .i64 a0 (wi (8 * x8_l1)))] : List Int) hS rfl rfl (rdL.cons1 rfl (rdL.nil _ _))) 140737488355328 kr kr e5 (fun A7 c8 w9 hS => ?_))
     refine WR.runk [8] [] [0, 5, 7, 8] (L' := [(0, .int .i64 a0), (5, .slice A7 y6.length c8), (7, .int .i64 a1), (8, .int .i64 x8_l1)]) (w' := w9) kr ?_
     refine WR.nil ?_
     refine At.blockNormal ?_
     refine At.go ?_
     refine WC.reg [0, 1] kr kr ?_
     refine WR.runk [0, 1] [] [0, 5, 7, 8] (L' := [(0, .int .i64 a0), (5, .slice A7 y6.length c8), (7, .int .i64 a1), (8, .int .i64 (wi (x8_l1 + 1)))]) (w' := w9) kr ?_
     refine WR.nil ?_
     have hS : Sat w9 (rf w0) [osl 5 (r0 (.int .u8)) 1 A7 c8 y6] := hS.sel [0] kr
     refine At.again ?_
     refine WL.weaken [0, 5, 7, 8] (L' := [(0, .int .i64 a0), (5, .slice A7 y6.length c8), (7, .int .i64 a1), (8, .int .i64 (wi (x8_l1 + 1)))]) kr ?_
     exact ih y6 (wi (x8_l1 + 1)) A7 c8 _ hS H
    ·replace H := ite_f H hb1
     refine WC.exit kr ?_
     refine At.thenExit ?_
     refine At.thenExit ?_
     obtain rfl := Option.some.inj H
     have hS : Sat w (rf w0) [osl 5 (r0 (.int .u8)) 1 A5_l1 c5_l1 x5_l1] := hS.sel [0] kr
     refine At.weaken [5] (L' := [(5, .slice A5_l1 x5_l1.length c5_l1)]) kr ?_
     exact hn0 A5_l1 c5_l1 _ hS
theorem image_little.calls (w0 : World) (a0 : Int) (a1 : Int) (r : (List Int)) (H : image_little.f a0 a1 = some r) :
    Calls Try.prog 25 #[.int .i64 a0, .int .i64 a1] w0 (fun e w' => ∃ v, e = .returned v ∧ image_little.post w0 r v w') := by
  have hS : Sat w0 (rf w0) [] := Sat.start w0
  unfold image_little.f at H
  refine calls_of_WC (vs := [.int .i64 a0, .int .i64 a1]) Try.func25 (c := C25) (n := 21) kr kr kr ?_
  refine WC.seq kr ?_
  refine WC.reg [0] kr kr ?_
  refine WR.runk [0] [] [0, 1] (L' := [(0, .int .i64 a0), (1, .int .i64 a1)]) (w' := w0) kr ?_
  refine WR.nil ?_
  refine At.go ?_
  refine WC.seq kr ?_
  refine WC.reg [0] kr kr ?_
  refine WR.runk [0] [] [0, 1, 5] (L' := [(0, .int .i64 a0), (1, .int .i64 a1), (5, .slice none 0 0)]) (w' := w0) kr ?_
  refine WR.nil ?_
  refine At.go ?_
  refine WC.seq kr ?_
  refine WC.seq kr ?_
  refine WC.reg [0, 1] kr kr ?_
  refine WR.runk [0, 1] [] [0, 5, 7, 8] (L' := [(0, .int .i64 a0), (5, .slice none 0 0), (7, .int .i64 a1), (8, .int .i64 0)]) (w' := w0) kr ?_
  refine WR.nil ?_
  refine At.go ?_
  refine WC.block kr ?_
  have hS := hS.addNil (α := Int) 5 (r0 (.int .u8)) 1
  have hS : Sat w0 (rf w0) [osl 5 (r0 (.int .u8)) 1 none 0 ([] : List Int)] := hS.sel [0] kr
  obtain ⟨o10, e11, H⟩ := bind_ex H
  refine WC.loop kr ?_
  refine WL.weaken [0, 5, 7, 8] (L' := [(0, .int .i64 a0), (5, .slice none 0 0), (7, .int .i64 a1), (8, .int .i64 0)]) kr ?_
  refine image_little.l1_ok w0 a0 a1 o10 (fun A5_q12 c5_q12 w13 hS => ?_) FU ([] : List Int) 0 none 0 _ hS e11
  refine At.hit ?_
  refine At.go ?_
  refine WC.seq kr ?_
  refine WC.reg [0, 1] kr kr ?_
  refine WR.runk [0, 1] [] [4] (L' := [(4, .slice A5_q12 o10.length c5_q12)]) (w' := w13) kr ?_
  refine WR.nil ?_
  refine At.go ?_
  refine WC.ret kr ?_
  obtain rfl := Option.some.inj H
  have hS : Sat w13 (rf w0) [osl 5 (r0 (.int .u8)) 1 A5_q12 c5_q12 o10] := hS.sel [0] kr
  exact At.body [.slice A5_q12 o10.length c5_q12] kr ⟨_, rfl, _, _, rfl, hS⟩
/-! ### 37 colophon/page.Many -/
def page_Many.f (a0 : Int) : Option Int := (if decide (a0 ≤ 0) then some 0 else some (wi ((wi (Int.tdiv (wi (a0 - 1)) 256)) + 1)))
def page_Many.post (w : World) (r : Int) (v : Value) (w' : World) : Prop := v = (.int .i64 r : Value) ∧ Sat w' (rf w) []
theorem page_Many.calls (w0 : World) (a0 : Int) (r : Int) (H : page_Many.f a0 = some r) :
    Calls Try.prog 37 #[.int .i64 a0] w0 (fun e w' => ∃ v, e = .returned v ∧ page_Many.post w0 r v w') := by
  have hS : Sat w0 (rf w0) [] := Sat.start w0
  unfold page_Many.f at H
  refine calls_of_WC (vs := [.int .i64 a0]) Try.func37 (c := C37) (n := 9) kr kr kr ?_
  refine WC.seq kr ?_
  refine WC.reg [0] kr kr ?_
  refine WR.runk [0] [] [0] (L' := [(0, .int .i64 a0)]) (w' := w0) kr ?_
  refine WR.nil ?_
  refine At.go ?_
  refine WC.seq kr ?_
  refine WC.seq kr ?_
  refine WC.reg [0, 1] kr kr ?_
  refine WR.runk [0, 1] [] [0, 4] (L' := [(0, .int .i64 a0), (4, .bool (decide (a0 ≤ 0)))]) (w' := w0) kr ?_
  refine WR.nil ?_
  refine At.go ?_
  refine WC.cond kr (decide (a0 ≤ 0)) kr kr (fun hb1 => ?_) (fun hb1 => ?_)
  ·replace H := ite_t H hb1
   refine WC.seq kr ?_
   refine WC.reg [0] kr kr ?_
   refine WR.runk [0] [] [2] (L' := [(2, .int .i64 0)]) (w' := w0) kr ?_
   refine WR.nil ?_
   refine At.go ?_
   refine WC.ret kr ?_
   refine At.thenRet ?_
   obtain rfl := Option.some.inj H
   have hS : Sat w0 (rf w0) [] := hS.sel [] kr
   exact At.body [.int .i64 0] kr ⟨_, rfl, rfl, hS⟩
  ·replace H := ite_f H hb1
   refine WC.skip kr ?_
   refine At.go ?_
   refine WC.seq kr ?_
   refine WC.reg [0, 1, 2, 3, 4] kr kr ?_
   refine WR.runk [0, 1, 2, 3, 4] [] [2] (L' := [(2, .int .i64 (wi ((wi (Int.tdiv (wi (a0 - 1)) 256)) + 1)))]) (w' := w0) kr ?_
   refine WR.nil ?_
   refine At.go ?_
   refine WC.ret kr ?_
   obtain rfl := Option.some.inj H
   have hS : Sat w0 (rf w0) [] := hS.sel [] kr
   exact At.body [.int .i64 (wi ((wi (Int.tdiv (wi (a0 - 1)) 256)) + 1))] kr ⟨_, rfl, rfl, hS⟩
/-! ### 26 colophon/image.plan -/
def image_plan.l1 (l0 : List Int) : Nat → Int → (List Int) → Int → Option (Sum ((List Int) × Int) (Int × (List Int)))
  | 0, _, _, _ => none
  | k + 1, x4_l1, x5_l1, x10_l1 => (if decide (x10_l1 < (l0.length : Int)) then ((at? l0 x10_l1).bind fun v2 => ((app? 17592186044416 x5_l1 ([x4_l1] : List Int)).bind fun y7 => ((page_Many.f v2).bind fun r11 => (if decide (wi (x4_l1 + r11) > 4096) then some (.inl (([] : List Int), wi (x4_l1 + r11))) else image_plan.l1 l0 k (wi (x4_l1 + r11)) y7 (wi (x10_l1 + 1)))))) else some (.inr (x4_l1, x5_l1)))
def image_plan.f (l0 : List Int) : Option ((List Int) × Int) := ((image_plan.l1 l0 FU 1 ([] : List Int) 0).bind fun o21 => (match o21 with | .inl o23 => some (o23.1, o23.2) | .inr o27 => some (o27.2, o27.1)))
def image_plan.post (w : World) (r : (List Int) × Int) (v : Value) (w' : World) : Prop := ∃ (A0' : Option Addr) (c0' : Nat), v = .tuple #[.slice A0' r.1.length c0', .int .i64 r.2] ∧ Sat w' (rf w) [osl 3 (r0 (.int .i64)) 1 A0' c0' r.1]
theorem image_plan.l1_ok {Q} (w0 : World) (A0 : Option Addr) (c0 : Nat) (l0 : List Int) (R0 : rdS (r0 (.int .i64)) 1 (hp w0) A0 c0 l0) (out : Sum ((List Int) × Int) (Int × (List Int))) (hn0 : ∀ (o0 : (List Int) × Int) (A2_q : Option Addr) (c2_q : Nat) (w : World), out = (.inl o0) → Sat w (rf w0) [osl 3 (r0 (.int .i64)) 1 A2_q c2_q o0.1] → At Q .ret 28 [(2, .slice A2_q o0.1.length c2_q), (3, .int .i64 o0.2)] w) (hn1 : ∀ (o1 : Int × (List Int)) (A5_q : Option Addr) (c5_q : Nat) (w : World), out = (.inr o1) → Sat w (rf w0) [osl 3 (r0 (.int .i64)) 1 A5_q c5_q o1.2] → At Q (.exit 0) 28 [(4, .int .i64 o1.1), (5, .slice A5_q o1.2.length c5_q)] w) :
    ∀ (k : Nat) (x4_l1 : Int) (x5_l1 : List Int) (x10_l1 : Int) (A5_l1 : Option Addr) (c5_l1 : Nat) (w : World), Sat w (rf w0) [osl 3 (r0 (.int .i64)) 1 A5_l1 c5_l1 x5_l1] → image_plan.l1 l0 k x4_l1 x5_l1 x10_l1 = some out → WL Try.prog (cbody (cbody (cr (cl (cr (cr (cr C26))))))) Q 28 [(4, .int .i64 x4_l1), (5, .slice A5_l1 x5_l1.length c5_l1), (8, .slice A0 l0.length c0), (9, .int .i64 (l0.length : Int)), (10, .int .i64 x10_l1)] w := by
  intro k
  induction k with
  | zero => intro x4_l1 x5_l1 x10_l1 A5_l1 c5_l1 w hS H; exact absurd (show none = some out from H) (by simp)
  | succ k ih =>
    intro x4_l1 x5_l1 x10_l1 A5_l1 c5_l1 w hS H
    unfold image_plan.l1 at H
    refine WL.round ?_
    refine WC.seq kr ?_
    refine WC.reg [0] kr kr ?_
    refine WR.runk [0] [] [4, 5, 8, 9, 10, 11] (L' := [(4, .int .i64 x4_l1), (5, .slice A5_l1 x5_l1.length c5_l1), (8, .slice A0 l0.length c0), (9, .int .i64 (l0.length : Int)), (10, .int .i64 x10_l1), (11, .bool (decide (x10_l1 < (l0.length : Int))))]) (w' := w) kr ?_
    refine WR.nil ?_
    refine At.go ?_
    refine WC.seq kr ?_
    refine WC.cond kr (decide (x10_l1 < (l0.length : Int))) kr kr (fun hb1 => ?_) (fun hb1 => ?_)
    ·replace H := ite_t H hb1
     refine WC.skip kr ?_
     refine At.go ?_
     refine WC.seq kr ?_
     refine WC.block kr ?_
     refine WC.seq kr ?_
     refine WC.reg [0, 1, 2] kr kr ?_
     refine WR.runk [] [0, 1, 2] [4, 5, 8, 9, 10] (L' := [(4, .int .i64 x4_l1), (5, .slice A5_l1 x5_l1.length c5_l1), (8, .slice A0 l0.length c0), (9, .int .i64 (l0.length : Int)), (10, .int .i64 x10_l1)]) (w' := w) kr ?_
     obtain ⟨v2, e3, H⟩ := bind_ex H
     refine WR.st (St.ofP (PSt.idx (k := .i64) (.tmp 8) (.tmp 10) kr kr E47 kr kr (rdS.up R0 hS.sub0) e3 ?_))
     refine WR.runk [] [1, 2] [4, 5, 8, 9, 10, 12] (L' := [(4, .int .i64 x4_l1), (5, .slice A5_l1 x5_l1.length c5_l1), (8, .slice A0 l0.length c0), (9, .int .i64 (l0.length : Int)), (10, .int .i64 x10_l1), (12, .pointer (some (adr A0 x10_l1.toNat 1)))]) (w' := w) kr ?_
     refine WR.st (St.ofR (RSt.loadInt (t := 3) (.tmp 12) kr kr kr kr (rdS.up R0 hS.sub0) e3 ?_))
     refine WR.runk [2] [] [4, 5, 7, 8, 9, 10] (L' := [(4, .int .i64 x4_l1), (5, .slice A5_l1 x5_l1.length c5_l1), (7, .int .i64 v2), (8, .slice A0 l0.length c0), (9, .int .i64 (l0.length : Int)), (10, .int .i64 x10_l1)]) (w' := w) kr ?_
     refine WR.nil ?_
     refine At.go ?_
     refine WC.seq kr ?_
     refine WC.reg [0, 1, 2, 3, 4] kr kr ?_
     refine WR.runk [0, 1] [2, 3, 4] [4, 5, 7, 8, 9, 10, 14, 15] (L' := [(4, .int .i64 x4_l1), (5, .slice A5_l1 x5_l1.length c5_l1), (7, .int .i64 v2), (8, .slice A0 l0.length c0), (9, .int .i64 (l0.length : Int)), (10, .int .i64 x10_l1), (14, .slice A5_l1 x5_l1.length c5_l1), (15, .int .i64 x4_l1)]) (w' := w) kr ?_
     refine WR.st (St.box hS kr (.cells #[.int .i64 x4_l1] 3) (fun b4 => .slice (some ⟨b4, 0, none⟩) 1 1) (fun _ => by kernel_rfl) (fun b4 w5 hS => ?_))
     refine WR.runk [] [3, 4] [4, 5, 7, 8, 9, 10, 14, 16] (L' := [(4, .int .i64 x4_l1), (5, .slice A5_l1 x5_l1.length c5_l1), (7, .int .i64 v2), (8, .slice A0 l0.length c0), (9, .int .i64 (l0.length : Int)), (10, .int .i64 x10_l1), (14, .slice A5_l1 x5_l1.length c5_l1), (16, .slice (some ⟨b4, 0, none⟩) 1 1)]) (w' := w5) kr ?_
     have hS : Sat w5 (rf w0) [osl 3 (r0 (.int .i64)) 1 A5_l1 c5_l1 x5_l1, pts b4 (.cells #[.int .i64 x4_l1] 3 (0, 0))] := hS.sel [1, 0] kr
     obtain ⟨y7, e6, H⟩ := bind_ex H
     refine WR.st (St.append' (.tmp 14) (.tmp 16) kr kr E47 (r0_one _) hS kr kr (Sat.ptsAt 1 (r0 (.int .i64)) 1 ([x4_l1] : List Int) hS rfl rfl (rdL.cons1 rfl (rdL.nil _ _))) 17592186044416 kr kr e6 (fun A8 c9 w10 hS => ?_))
     refine WR.runk [4] [] [4, 5, 7, 8, 9, 10] (L' := [(4, .int .i64 x4_l1), (5, .slice A8 y7.length c9), (7, .int .i64 v2), (8, .slice A0 l0.length c0), (9, .int .i64 (l0.length : Int)), (10, .int .i64 x10_l1)]) (w' := w10) kr ?_
     refine WR.nil ?_
     refine At.go ?_
     refine WC.seq kr ?_
     refine WC.reg [0, 1, 2, 3, 4] kr kr ?_
     refine WR.runk [0, 1] [2, 3, 4] [4, 5, 8, 9, 10, 18, 19] (L' := [(4, .int .i64 x4_l1), (5, .slice A8 y7.length c9), (8, .slice A0 l0.length c0), (9, .int .i64 (l0.length : Int)), (10, .int .i64 x10_l1), (18, .int .i64 x4_l1), (19, .int .i64 v2)]) (w' := w10) kr ?_
     obtain ⟨r11, e12, H⟩ := bind_ex H
     refine WR.st (St.call kr (f := 37) (args := #[.int .i64 v2]) kr (page_Many.calls w10 v2 r11 e12) ?_)
     rintro _ w18 ⟨rfl, hS19⟩
     have hS : Sat w18 (rf w0) [osl 3 (r0 (.int .i64)) 1 A8 c9 y7, pts b4 (.cells #[.int .i64 x4_l1] 3 (0, 0))] := hS.ext hS19
     refine WR.runk [3, 4] [] [4, 5, 8, 9, 10] (L' := [(4, .int .i64 (wi (x4_l1 + r11))), (5, .slice A8 y7.length c9), (8, .slice A0 l0.length c0), (9, .int .i64 (l0.length : Int)), (10, .int .i64 x10_l1)]) (w' := w18) kr ?_
     refine WR.nil ?_
     refine At.go ?_
     refine WC.seq kr ?_
     refine WC.reg [0, 1] kr kr ?_
     refine WR.runk [0, 1] [] [4, 5, 8, 9, 10, 23] (L' := [(4, .int .i64 (wi (x4_l1 + r11))), (5, .slice A8 y7.length c9), (8, .slice A0 l0.length c0), (9, .int .i64 (l0.length : Int)), (10, .int .i64 x10_l1), (23, .bool (decide (wi (x4_l1 + r11) > 4096)))]) (w' := w18) kr ?_
     refine WR.nil ?_
     refine At.go ?_
     refine WC.cond kr (decide (wi (x4_l1 + r11) > 4096)) kr kr (fun hb20 => ?_) (fun hb20 => ?_)
     ·replace H := ite_t H hb20
      refine WC.seq kr ?_
      refine WC.reg [0, 1, 2] kr kr ?_
      refine WR.runk [0, 1, 2] [] [2, 3] (L' := [(2, .slice none 0 0), (3, .int .i64 (wi (x4_l1 + r11)))]) (w' := w18) kr ?_
      refine WR.nil ?_
      refine At.go ?_
      refine WC.ret kr ?_
      refine At.blockRet ?_
      refine At.thenRet ?_
      refine At.thenRet ?_
      obtain rfl := Option.some.inj H
      have hS := hS.addNil (α := Int) 3 (r0 (.int .i64)) 1
      have hS : Sat w18 (rf w0) [osl 3 (r0 (.int .i64)) 1 none 0 ([] : List Int)] := hS.sel [0] kr
      refine At.weaken [2, 3] (L' := [(2, .slice none 0 0), (3, .int .i64 (wi (x4_l1 + r11)))]) kr ?_
      exact hn0 (([] : List Int), wi (x4_l1 + r11)) none 0 _ rfl hS
     ·replace H := ite_f H hb20
      refine WC.skip kr ?_
      refine At.blockNormal ?_
      refine At.go ?_
      refine WC.reg [0, 1] kr kr ?_
      refine WR.runk [0, 1] [] [4, 5, 8, 9, 10] (L' := [(4, .int .i64 (wi (x4_l1 + r11))), (5, .slice A8 y7.length c9), (8, .slice A0 l0.length c0), (9, .int .i64 (l0.length : Int)), (10, .int .i64 (wi (x10_l1 + 1)))]) (w' := w18) kr ?_
      refine WR.nil ?_
      have hS : Sat w18 (rf w0) [osl 3 (r0 (.int .i64)) 1 A8 c9 y7] := hS.sel [0] kr
      refine At.again ?_
      refine WL.weaken [4, 5, 8, 9, 10] (L' := [(4, .int .i64 (wi (x4_l1 + r11))), (5, .slice A8 y7.length c9), (8, .slice A0 l0.length c0), (9, .int .i64 (l0.length : Int)), (10, .int .i64 (wi (x10_l1 + 1)))]) kr ?_
      exact ih (wi (x4_l1 + r11)) y7 (wi (x10_l1 + 1)) A8 c9 _ hS H
    ·replace H := ite_f H hb1
     refine WC.exit kr ?_
     refine At.thenExit ?_
     refine At.thenExit ?_
     obtain rfl := Option.some.inj H
     have hS : Sat w (rf w0) [osl 3 (r0 (.int .i64)) 1 A5_l1 c5_l1 x5_l1] := hS.sel [0] kr
     refine At.weaken [4, 5] (L' := [(4, .int .i64 x4_l1), (5, .slice A5_l1 x5_l1.length c5_l1)]) kr ?_
     exact hn1 (x4_l1, x5_l1) A5_l1 c5_l1 _ rfl hS
theorem image_plan.calls (w0 : World) (A0 : Option Addr) (c0 : Nat) (l0 : List Int) (R0 : rdS (r0 (.int .i64)) 1 (hp w0) A0 c0 l0) (r : (List Int) × Int) (H : image_plan.f l0 = some r) :
    Calls Try.prog 26 #[.slice A0 l0.length c0] w0 (fun e w' => ∃ v, e = .returned v ∧ image_plan.post w0 r v w') := by
  have hS : Sat w0 (rf w0) [] := Sat.start w0
  unfold image_plan.f at H
  refine calls_of_WC (vs := [.slice A0 l0.length c0]) Try.func26 (c := C26) (n := 28) kr kr kr ?_
  refine WC.seq kr ?_
  refine WC.reg [0, 1] kr kr ?_
  refine WR.runk [0, 1] [] [0] (L' := [(0, .slice A0 l0.length c0)]) (w' := w0) kr ?_
  refine WR.nil ?_
  refine At.go ?_
  refine WC.seq kr ?_
  refine WC.reg [0] kr kr ?_
  refine WR.runk [0] [] [0, 4] (L' := [(0, .slice A0 l0.length c0), (4, .int .i64 1)]) (w' := w0) kr ?_
  refine WR.nil ?_
  refine At.go ?_
  refine WC.seq kr ?_
  refine WC.reg [0] kr kr ?_
  refine WR.runk [0] [] [0, 4, 5] (L' := [(0, .slice A0 l0.length c0), (4, .int .i64 1), (5, .slice none 0 0)]) (w' := w0) kr ?_
  refine WR.nil ?_
  refine At.go ?_
  refine WC.seq kr ?_
  refine WC.seq kr ?_
  refine WC.reg [0, 1, 2] kr kr ?_
  refine WR.runk [0, 1, 2] [] [4, 5, 8, 9, 10] (L' := [(4, .int .i64 1), (5, .slice none 0 0), (8, .slice A0 l0.length c0), (9, .int .i64 (l0.length : Int)), (10, .int .i64 0)]) (w' := w0) kr ?_
  refine WR.nil ?_
  refine At.go ?_
  refine WC.block kr ?_
  have hS := hS.addNil (α := Int) 3 (r0 (.int .i64)) 1
  have hS : Sat w0 (rf w0) [osl 3 (r0 (.int .i64)) 1 none 0 ([] : List Int)] := hS.sel [0] kr
  obtain ⟨o21, e22, H⟩ := bind_ex H
  refine WC.loop kr ?_
  refine WL.weaken [4, 5, 8, 9, 10] (L' := [(4, .int .i64 1), (5, .slice none 0 0), (8, .slice A0 l0.length c0), (9, .int .i64 (l0.length : Int)), (10, .int .i64 0)]) kr ?_
  refine image_plan.l1_ok w0 A0 c0 l0 R0 o21 (fun o23 A2_q24 c2_q24 w25 ho26 hS => ?_) (fun o27 A5_q28 c5_q28 w29 ho30 hS => ?_) FU 1 ([] : List Int) 0 none 0 _ hS e22
  ·subst ho26
   dsimp only at H
   refine At.blockRet ?_
   refine At.thenRet ?_
   obtain rfl := Option.some.inj H
   have hS : Sat w25 (rf w0) [osl 3 (r0 (.int .i64)) 1 A2_q24 c2_q24 o23.1] := hS.sel [0] kr
   exact At.body [.slice A2_q24 o23.1.length c2_q24, .int .i64 o23.2] kr ⟨_, rfl, _, _, rfl, hS⟩
  ·subst ho30
   dsimp only at H
   refine At.hit ?_
   refine At.go ?_
   refine WC.seq kr ?_
   refine WC.reg [0, 1, 2, 3] kr kr ?_
   refine WR.runk [0, 1, 2, 3] [] [2, 3] (L' := [(2, .slice A5_q28 o27.2.length c5_q28), (3, .int .i64 o27.1)]) (w' := w29) kr ?_
   refine WR.nil ?_
   refine At.go ?_
   refine WC.ret kr ?_
   obtain rfl := Option.some.inj H
   have hS : Sat w29 (rf w0) [osl 3 (r0 (.int .i64)) 1 A5_q28 c5_q28 o27.2] := hS.sel [0] kr
   exact At.body [.slice A5_q28 o27.2.length c5_q28, .int .i64 o27.1] kr ⟨_, rfl, _, _, rfl, hS⟩
/-! ### 46 colophon/crc.next -/
def crc_next.l1 : Nat → Int → Int → Option Int
  | 0, _, _ => none
  | k + 1, x0_l1, x5_l1 => (if decide (x5_l1 < 8) then (if ((iand .u32 x0_l1 1) == 1) then crc_next.l1 k (ixor .u32 (ishr .u32 x0_l1 1) 3988292384) (wi (x5_l1 + 1)) else crc_next.l1 k (ishr .u32 x0_l1 1) (wi (x5_l1 + 1))) else some x0_l1)
def crc_next.f (a0 : Int) (a1 : Int) : Option Int := ((crc_next.l1 FU (ixor .u32 a0 (IntKind.wrap .u32 a1)) 0).bind fun o3 => some o3)
def crc_next.post (w : World) (r : Int) (v : Value) (w' : World) : Prop := v = (.int .u32 r : Value) ∧ Sat w' (rf w) []
theorem crc_next.l1_ok {Q} (w0 : World) (out : Int) (hn0 : ∀ (w : World), Sat w (rf w0) [] → At Q (.exit 0) 23 [(0, .int .u32 out)] w) :
    ∀ (k : Nat) (x0_l1 : Int) (x5_l1 : Int) (w : World), Sat w (rf w0) [] → crc_next.l1 k x0_l1 x5_l1 = some out → WL Try.prog (cbody (cbody (cr (cl (cr (cr C46)))))) Q 23 [(0, .int .u32 x0_l1), (5, .int .i64 x5_l1)] w := by
  intro k
  induction k with
  | zero => intro x0_l1 x5_l1 w hS H; exact absurd (show none = some out from H) (by simp)
  | succ k ih =>
    intro x0_l1 x5_l1 w hS H
    unfold crc_next.l1 at H
    refine WL.round ?_
    refine WC.seq kr ?_
    refine WC.seq kr ?_
    refine WC.reg [0, 1] kr kr ?_
    refine WR.runk [0, 1] [] [0, 5, 11] (L' := [(0, .int .u32 x0_l1), (5, .int .i64 x5_l1), (11, .bool (decide (x5_l1 < 8)))]) (w' := w) kr ?_
    refine WR.nil ?_
    refine At.go ?_
    refine WC.cond kr (decide (x5_l1 < 8)) kr kr (fun hb1 => ?_) (fun hb1 => ?_)
    ·replace H := ite_t H hb1
     refine WC.skip kr ?_
     refine At.go ?_
     refine WC.seq kr ?_
     refine WC.block kr ?_
     refine WC.seq kr ?_
     refine WC.reg [0, 1, 2] kr kr ?_
     refine WR.runk [0, 1, 2] [] [0, 5, 16] (L' := [(0, .int .u32 x0_l1), (5, .int .i64 x5_l1), (16, .bool ((iand .u32 x0_l1 1) == 1))]) (w' := w) kr ?_
     refine WR.nil ?_
     refine At.go ?_
     refine WC.cond kr ((iand .u32 x0_l1 1) == 1) kr kr (fun hb2 => ?_) (fun hb2 => ?_)
     ·replace H := ite_t H hb2
      refine WC.reg [0, 1, 2, 3] kr kr ?_
      refine WR.runk [0, 1, 2, 3] [] [0, 5] (L' := [(0, .int .u32 (ixor .u32 (ishr .u32 x0_l1 1) 3988292384)), (5, .int .i64 x5_l1)]) (w' := w) kr ?_
      refine WR.nil ?_
      refine At.blockNormal ?_
      refine At.go ?_
      refine WC.reg [0, 1, 2] kr kr ?_
      refine WR.runk [0, 1, 2] [] [0, 5] (L' := [(0, .int .u32 (ixor .u32 (ishr .u32 x0_l1 1) 3988292384)), (5, .int .i64 (wi (x5_l1 + 1)))]) (w' := w) kr ?_
      refine WR.nil ?_
      have hS : Sat w (rf w0) [] := hS.sel [] kr
      refine At.again ?_
      refine WL.weaken [0, 5] (L' := [(0, .int .u32 (ixor .u32 (ishr .u32 x0_l1 1) 3988292384)), (5, .int .i64 (wi (x5_l1 + 1)))]) kr ?_
      exact ih (ixor .u32 (ishr .u32 x0_l1 1) 3988292384) (wi (x5_l1 + 1)) _ hS H
     ·replace H := ite_f H hb2
      refine WC.reg [0, 1, 2] kr kr ?_
      refine WR.runk [0, 1, 2] [] [0, 5] (L' := [(0, .int .u32 (ishr .u32 x0_l1 1)), (5, .int .i64 x5_l1)]) (w' := w) kr ?_
      refine WR.nil ?_
      refine At.blockNormal ?_
      refine At.go ?_
      refine WC.reg [0, 1, 2] kr kr ?_
      refine WR.runk [0, 1, 2] [] [0, 5] (L' := [(0, .int .u32 (ishr .u32 x0_l1 1)), (5, .int .i64 (wi (x5_l1 + 1)))]) (w' := w) kr ?_
      refine WR.nil ?_
      have hS : Sat w (rf w0) [] := hS.sel [] kr
      refine At.again ?_
      refine WL.weaken [0, 5] (L' := [(0, .int .u32 (ishr .u32 x0_l1 1)), (5, .int .i64 (wi (x5_l1 + 1)))]) kr ?_
      exact ih (ishr .u32 x0_l1 1) (wi (x5_l1 + 1)) _ hS H
    ·replace H := ite_f H hb1
     refine WC.exit kr ?_
     refine At.thenExit ?_
     refine At.thenExit ?_
     obtain rfl := Option.some.inj H
     have hS : Sat w (rf w0) [] := hS.sel [] kr
     refine At.weaken [0] (L' := [(0, .int .u32 x0_l1)]) kr ?_
     exact hn0 _ hS
theorem crc_next.calls (w0 : World) (a0 : Int) (a1 : Int) (r : Int) (H : crc_next.f a0 a1 = some r) :
    Calls Try.prog 46 #[.int .u32 a0, .int .u8 a1] w0 (fun e w' => ∃ v, e = .returned v ∧ crc_next.post w0 r v w') := by
  have hS : Sat w0 (rf w0) [] := Sat.start w0
  unfold crc_next.f at H
  refine calls_of_WC (vs := [.int .u32 a0, .int .u8 a1]) Try.func46 (c := C46) (n := 23) kr kr kr ?_
  refine WC.seq kr ?_
  refine WC.reg [0] kr kr ?_
  refine WR.runk [0] [] [0, 1] (L' := [(0, .int .u32 a0), (1, .int .u8 a1)]) (w' := w0) kr ?_
  refine WR.nil ?_
  refine At.go ?_
  refine WC.seq kr ?_
  refine WC.reg [0, 1, 2, 3, 4] kr kr ?_
  refine WR.runk [0, 1, 2, 3, 4] [] [0] (L' := [(0, .int .u32 (ixor .u32 a0 (IntKind.wrap .u32 a1)))]) (w' := w0) kr ?_
  refine WR.nil ?_
  refine At.go ?_
  refine WC.seq kr ?_
  refine WC.seq kr ?_
  refine WC.reg [0] kr kr ?_
  refine WR.runk [0] [] [0, 5] (L' := [(0, .int .u32 (ixor .u32 a0 (IntKind.wrap .u32 a1))), (5, .int .i64 0)]) (w' := w0) kr ?_
  refine WR.nil ?_
  refine At.go ?_
  refine WC.block kr ?_
  have hS : Sat w0 (rf w0) [] := hS.sel [] kr
  obtain ⟨o3, e4, H⟩ := bind_ex H
  refine WC.loop kr ?_
  refine WL.weaken [0, 5] (L' := [(0, .int .u32 (ixor .u32 a0 (IntKind.wrap .u32 a1))), (5, .int .i64 0)]) kr ?_
  refine crc_next.l1_ok w0 o3 (fun w6 hS => ?_) FU (ixor .u32 a0 (IntKind.wrap .u32 a1)) 0 _ hS e4
  refine At.hit ?_
  refine At.go ?_
  refine WC.seq kr ?_
  refine WC.reg [0, 1] kr kr ?_
  refine WR.runk [0, 1] [] [4] (L' := [(4, .int .u32 o3)]) (w' := w6) kr ?_
  refine WR.nil ?_
  refine At.go ?_
  refine WC.ret kr ?_
  obtain rfl := Option.some.inj H
  have hS : Sat w6 (rf w0) [] := hS.sel [] kr
  exact At.body [.int .u32 o3] kr ⟨_, rfl, rfl, hS⟩
/-! ### 43 colophon/crc.Sum -/
def crc_Sum.l2 (v2 : List Int) : Nat → Int → Int → Option Int
  | 0, _, _ => none
  | k + 1, x3_l2, x16_l2 => (if decide (x16_l2 < (v2.length : Int)) then ((at? v2 x16_l2).bind fun v8 => ((crc_next.f x3_l2 v8).bind fun r10 => crc_Sum.l2 v2 k r10 (wi (x16_l2 + 1)))) else some x3_l2)
def crc_Sum.l1 (l0 : List (List Int)) : Nat → Int → Int → Option Int
  | 0, _, _ => none
  | k + 1, x3_l1, x10_l1 => (if decide (x10_l1 < (l0.length : Int)) then ((at? l0 x10_l1).bind fun v2 => ((crc_Sum.l2 v2 FU x3_l1 0).bind fun o19 => crc_Sum.l1 l0 k o19 (wi (x10_l1 + 1)))) else some x3_l1)
def crc_Sum.f (l0 : List (List Int)) : Option Int := ((crc_Sum.l1 l0 FU 4294967295 0).bind fun o24 => some (ixor .u32 4294967295 o24))
def crc_Sum.post (w : World) (r : Int) (v : Value) (w' : World) : Prop := v = (.int .u32 r : Value) ∧ Sat w' (rf w) []
theorem crc_Sum.l2_ok {Q} (w0 : World) (A0 : Option Addr) (c0 : Nat) (l0 : List (List Int)) (x10_l1 : Int) (v2 : List Int) (A4 : Option Addr) (c5 : Nat) (R6 : rdS (r0 (.int .u8)) 1 (hp w0) A4 c5 v2) (out : Int) (hn0 : ∀ (w : World), Sat w (rf w0) [] → At Q (.exit 2) 27 [(3, .int .u32 out), (8, .slice A0 l0.length c0), (9, .int .i64 (l0.length : Int)), (10, .int .i64 x10_l1)] w) :
    ∀ (k : Nat) (x3_l2 : Int) (x16_l2 : Int) (w : World), Sat w (rf w0) [] → crc_Sum.l2 v2 k x3_l2 x16_l2 = some out → WL Try.prog (cbody (cbody (cr (cr (cbody (cl (cr (cr (cbody (cbody (cr (cl (cr (cr C43)))))))))))))) Q 27 [(3, .int .u32 x3_l2), (8, .slice A0 l0.length c0), (9, .int .i64 (l0.length : Int)), (10, .int .i64 x10_l1), (14, .slice A4 v2.length c5), (15, .int .i64 (v2.length : Int)), (16, .int .i64 x16_l2)] w := by
  intro k
  induction k with
  | zero => intro x3_l2 x16_l2 w hS H; exact absurd (show none = some out from H) (by simp)
  | succ k ih =>
    intro x3_l2 x16_l2 w hS H
    unfold crc_Sum.l2 at H
    refine WL.round ?_
    refine WC.seq kr ?_
    refine WC.reg [0] kr kr ?_
    refine WR.runk [0] [] [3, 8, 9, 10, 14, 15, 16, 17] (L' := [(3, .int .u32 x3_l2), (8, .slice A0 l0.length c0), (9, .int .i64 (l0.length : Int)), (10, .int .i64 x10_l1), (14, .slice A4 v2.length c5), (15, .int .i64 (v2.length : Int)), (16, .int .i64 x16_l2), (17, .bool (decide (x16_l2 < (v2.length : Int))))]) (w' := w) kr ?_
    refine WR.nil ?_
    refine At.go ?_
    refine WC.seq kr ?_
    refine WC.cond kr (decide (x16_l2 < (v2.length : Int))) kr kr (fun hb7 => ?_) (fun hb7 => ?_)
    ·replace H := ite_t H hb7
     refine WC.skip kr ?_
     refine At.go ?_
     refine WC.seq kr ?_
     refine WC.block kr ?_
     refine WC.seq kr ?_
     refine WC.reg [0, 1, 2] kr kr ?_
     refine WR.runk [] [0, 1, 2] [3, 8, 9, 10, 14, 15, 16] (L' := [(3, .int .u32 x3_l2), (8, .slice A0 l0.length c0), (9, .int .i64 (l0.length : Int)), (10, .int .i64 x10_l1), (14, .slice A4 v2.length c5), (15, .int .i64 (v2.length : Int)), (16, .int .i64 x16_l2)]) (w' := w) kr ?_
     obtain ⟨v8, e9, H⟩ := bind_ex H
     refine WR.st (St.ofP (PSt.idx (k := .i64) (.tmp 14) (.tmp 16) kr kr E31 kr kr (rdS.up R6 hS.sub0) e9 ?_))
     refine WR.runk [] [1, 2] [3, 8, 9, 10, 14, 15, 16, 18] (L' := [(3, .int .u32 x3_l2), (8, .slice A0 l0.length c0), (9, .int .i64 (l0.length : Int)), (10, .int .i64 x10_l1), (14, .slice A4 v2.length c5), (15, .int .i64 (v2.length : Int)), (16, .int .i64 x16_l2), (18, .pointer (some (adr A4 x16_l2.toNat 1)))]) (w' := w) kr ?_
     refine WR.st (St.ofR (RSt.loadInt (t := 5) (.tmp 18) kr kr kr kr (rdS.up R6 hS.sub0) e9 ?_))
     refine WR.runk [2] [] [3, 7, 8, 9, 10, 14, 15, 16] (L' := [(3, .int .u32 x3_l2), (7, .int .u8 v8), (8, .slice A0 l0.length c0), (9, .int .i64 (l0.length : Int)), (10, .int .i64 x10_l1), (14, .slice A4 v2.length c5), (15, .int .i64 (v2.length : Int)), (16, .int .i64 x16_l2)]) (w' := w) kr ?_
     refine WR.nil ?_
     refine At.go ?_
     refine WC.reg [0, 1, 2, 3] kr kr ?_
     refine WR.runk [0, 1] [2, 3] [3, 8, 9, 10, 14, 15, 16, 20, 21] (L' := [(3, .int .u32 x3_l2), (8, .slice A0 l0.length c0), (9, .int .i64 (l0.length : Int)), (10, .int .i64 x10_l1), (14, .slice A4 v2.length c5), (15, .int .i64 (v2.length : Int)), (16, .int .i64 x16_l2), (20, .int .u32 x3_l2), (21, .int .u8 v8)]) (w' := w) kr ?_
     obtain ⟨r10, e11, H⟩ := bind_ex H
     refine WR.st (St.call kr (f := 46) (args := #[.int .u32 x3_l2, .int .u8 v8]) kr (crc_next.calls w x3_l2 v8 r10 e11) ?_)
     rintro _ w17 ⟨rfl, hS18⟩
     have hS : Sat w17 (rf w0) [] := hS.ext hS18
     refine WR.runk [3] [] [3, 8, 9, 10, 14, 15, 16] (L' := [(3, .int .u32 r10), (8, .slice A0 l0.length c0), (9, .int .i64 (l0.length : Int)), (10, .int .i64 x10_l1), (14, .slice A4 v2.length c5), (15, .int .i64 (v2.length : Int)), (16, .int .i64 x16_l2)]) (w' := w17) kr ?_
     refine WR.nil ?_
     refine At.blockNormal ?_
     refine At.go ?_
     refine WC.reg [0, 1] kr kr ?_
     refine WR.runk [0, 1] [] [3, 8, 9, 10, 14, 15, 16] (L' := [(3, .int .u32 r10), (8, .slice A0 l0.length c0), (9, .int .i64 (l0.length : Int)), (10, .int .i64 x10_l1), (14, .slice A4 v2.length c5), (15, .int .i64 (v2.length : Int)), (16, .int .i64 (wi (x16_l2 + 1)))]) (w' := w17) kr ?_
     refine WR.nil ?_
     have hS : Sat w17 (rf w0) [] := hS.sel [] kr
     refine At.again ?_
     refine WL.weaken [3, 8, 9, 10, 14, 15, 16] (L' := [(3, .int .u32 r10), (8, .slice A0 l0.length c0), (9, .int .i64 (l0.length : Int)), (10, .int .i64 x10_l1), (14, .slice A4 v2.length c5), (15, .int .i64 (v2.length : Int)), (16, .int .i64 (wi (x16_l2 + 1)))]) kr ?_
     exact ih r10 (wi (x16_l2 + 1)) _ hS H
    ·replace H := ite_f H hb7
     refine WC.exit kr ?_
     refine At.thenExit ?_
     refine At.thenExit ?_
     obtain rfl := Option.some.inj H
     have hS : Sat w (rf w0) [] := hS.sel [] kr
     refine At.weaken [3, 8, 9, 10] (L' := [(3, .int .u32 x3_l2), (8, .slice A0 l0.length c0), (9, .int .i64 (l0.length : Int)), (10, .int .i64 x10_l1)]) kr ?_
     exact hn0 _ hS
theorem crc_Sum.l1_ok {Q} (w0 : World) (A0 : Option Addr) (c0 : Nat) (l0 : List (List Int)) (R0 : rdS (rd (hp w0) (.slice 5 (.int .u8))) 1 (hp w0) A0 c0 l0) (out : Int) (hn0 : ∀ (w : World), Sat w (rf w0) [] → At Q (.exit 0) 27 [(3, .int .u32 out)] w) :
    ∀ (k : Nat) (x3_l1 : Int) (x10_l1 : Int) (w : World), Sat w (rf w0) [] → crc_Sum.l1 l0 k x3_l1 x10_l1 = some out → WL Try.prog (cbody (cbody (cr (cl (cr (cr C43)))))) Q 27 [(3, .int .u32 x3_l1), (8, .slice A0 l0.length c0), (9, .int .i64 (l0.length : Int)), (10, .int .i64 x10_l1)] w := by
  intro k
  induction k with
  | zero => intro x3_l1 x10_l1 w hS H; exact absurd (show none = some out from H) (by simp)
  | succ k ih =>
    intro x3_l1 x10_l1 w hS H
    unfold crc_Sum.l1 at H
    refine WL.round ?_
    refine WC.seq kr ?_
    refine WC.reg [0] kr kr ?_
    refine WR.runk [0] [] [3, 8, 9, 10, 11] (L' := [(3, .int .u32 x3_l1), (8, .slice A0 l0.length c0), (9, .int .i64 (l0.length : Int)), (10, .int .i64 x10_l1), (11, .bool (decide (x10_l1 < (l0.length : Int))))]) (w' := w) kr ?_
    refine WR.nil ?_
    refine At.go ?_
    refine WC.seq kr ?_
    refine WC.cond kr (decide (x10_l1 < (l0.length : Int))) kr kr (fun hb1 => ?_) (fun hb1 => ?_)
    ·replace H := ite_t H hb1
     refine WC.skip kr ?_
     refine At.go ?_
     refine WC.seq kr ?_
     refine WC.block kr ?_
     refine WC.seq kr ?_
     refine WC.reg [0, 1, 2] kr kr ?_
     refine WR.runk [] [0, 1, 2] [3, 8, 9, 10] (L' := [(3, .int .u32 x3_l1), (8, .slice A0 l0.length c0), (9, .int .i64 (l0.length : Int)), (10, .int .i64 x10_l1)]) (w' := w) kr ?_
     obtain ⟨v2, e3, H⟩ := bind_ex H
     refine WR.st (St.ofP (PSt.idx (k := .i64) (.tmp 8) (.tmp 10) kr kr E71 kr kr (rdS.up R0 hS.sub0) e3 ?_))
     refine WR.runk [] [1, 2] [3, 8, 9, 10, 12] (L' := [(3, .int .u32 x3_l1), (8, .slice A0 l0.length c0), (9, .int .i64 (l0.length : Int)), (10, .int .i64 x10_l1), (12, .pointer (some (adr A0 x10_l1.toNat 1)))]) (w' := w) kr ?_
     refine WR.st (St.ofR (RSt.loadSl (t := 31) (.tmp 12) kr kr kr kr R0 e3 hS.sub0 (fun A4 c5 R6 => ?_)))
     replace R6 : rdS (r0 (.int .u8)) 1 (hp w0) A4 c5 v2 := R6
     refine WR.runk [2] [] [3, 5, 8, 9, 10] (L' := [(3, .int .u32 x3_l1), (5, .slice A4 v2.length c5), (8, .slice A0 l0.length c0), (9, .int .i64 (l0.length : Int)), (10, .int .i64 x10_l1)]) (w' := w) kr ?_
     refine WR.nil ?_
     refine At.go ?_
     refine WC.seq kr ?_
     refine WC.reg [0, 1, 2] kr kr ?_
     refine WR.runk [0, 1, 2] [] [3, 8, 9, 10, 14, 15, 16] (L' := [(3, .int .u32 x3_l1), (8, .slice A0 l0.length c0), (9, .int .i64 (l0.length : Int)), (10, .int .i64 x10_l1), (14, .slice A4 v2.length c5), (15, .int .i64 (v2.length : Int)), (16, .int .i64 0)]) (w' := w) kr ?_
     refine WR.nil ?_
     refine At.go ?_
     refine WC.block kr ?_
     have hS : Sat w (rf w0) [] := hS.sel [] kr
     obtain ⟨o19, e20, H⟩ := bind_ex H
     refine WC.loop kr ?_
     refine WL.weaken [3, 8, 9, 10, 14, 15, 16] (L' := [(3, .int .u32 x3_l1), (8, .slice A0 l0.length c0), (9, .int .i64 (l0.length : Int)), (10, .int .i64 x10_l1), (14, .slice A4 v2.length c5), (15, .int .i64 (v2.length : Int)), (16, .int .i64 0)]) kr ?_
     refine crc_Sum.l2_ok w0 A0 c0 l0 x10_l1 v2 A4 c5 R6 o19 (fun w22 hS => ?_) FU x3_l1 0 _ hS e20
     refine At.hit ?_
     refine At.blockNormal ?_
     refine At.go ?_
     refine WC.reg [0, 1] kr kr ?_
     refine WR.runk [0, 1] [] [3, 8, 9, 10] (L' := [(3, .int .u32 o19), (8, .slice A0 l0.length c0), (9, .int .i64 (l0.length : Int)), (10, .int .i64 (wi (x10_l1 + 1)))]) (w' := w22) kr ?_
     refine WR.nil ?_
     have hS : Sat w22 (rf w0) [] := hS.sel [] kr
     refine At.again ?_
     refine WL.weaken [3, 8, 9, 10] (L' := [(3, .int .u32 o19), (8, .slice A0 l0.length c0), (9, .int .i64 (l0.length : Int)), (10, .int .i64 (wi (x10_l1 + 1)))]) kr ?_
     exact ih o19 (wi (x10_l1 + 1)) _ hS H
    ·replace H := ite_f H hb1
     refine WC.exit kr ?_
     refine At.thenExit ?_
     refine At.thenExit ?_
     obtain rfl := Option.some.inj H
     have hS : Sat w (rf w0) [] := hS.sel [] kr
     refine At.weaken [3] (L' := [(3, .int .u32 x3_l1)]) kr ?_
     exact hn0 _ hS
theorem crc_Sum.calls (w0 : World) (A0 : Option Addr) (c0 : Nat) (l0 : List (List Int)) (R0 : rdS (rd (hp w0) (.slice 5 (.int .u8))) 1 (hp w0) A0 c0 l0) (r : Int) (H : crc_Sum.f l0 = some r) :
    Calls Try.prog 43 #[.slice A0 l0.length c0] w0 (fun e w' => ∃ v, e = .returned v ∧ crc_Sum.post w0 r v w') := by
  have hS : Sat w0 (rf w0) [] := Sat.start w0
  unfold crc_Sum.f at H
  refine calls_of_WC (vs := [.slice A0 l0.length c0]) Try.func43 (c := C43) (n := 27) kr kr kr ?_
  refine WC.seq kr ?_
  refine WC.reg [0] kr kr ?_
  refine WR.runk [0] [] [0] (L' := [(0, .slice A0 l0.length c0)]) (w' := w0) kr ?_
  refine WR.nil ?_
  refine At.go ?_
  refine WC.seq kr ?_
  refine WC.reg [0] kr kr ?_
  refine WR.runk [0] [] [0, 3] (L' := [(0, .slice A0 l0.length c0), (3, .int .u32 4294967295)]) (w' := w0) kr ?_
  refine WR.nil ?_
  refine At.go ?_
  refine WC.seq kr ?_
  refine WC.seq kr ?_
  refine WC.reg [0, 1, 2] kr kr ?_
  refine WR.runk [0, 1, 2] [] [3, 8, 9, 10] (L' := [(3, .int .u32 4294967295), (8, .slice A0 l0.length c0), (9, .int .i64 (l0.length : Int)), (10, .int .i64 0)]) (w' := w0) kr ?_
  refine WR.nil ?_
  refine At.go ?_
  refine WC.block kr ?_
  have hS : Sat w0 (rf w0) [] := hS.sel [] kr
  obtain ⟨o24, e25, H⟩ := bind_ex H
  refine WC.loop kr ?_
  refine WL.weaken [3, 8, 9, 10] (L' := [(3, .int .u32 4294967295), (8, .slice A0 l0.length c0), (9, .int .i64 (l0.length : Int)), (10, .int .i64 0)]) kr ?_
  refine crc_Sum.l1_ok w0 A0 c0 l0 R0 o24 (fun w27 hS => ?_) FU 4294967295 0 _ hS e25
  refine At.hit ?_
  refine At.go ?_
  refine WC.seq kr ?_
  refine WC.reg [0, 1, 2] kr kr ?_
  refine WR.runk [0, 1, 2] [] [2] (L' := [(2, .int .u32 (ixor .u32 4294967295 o24))]) (w' := w27) kr ?_
  refine WR.nil ?_
  refine At.go ?_
  refine WC.ret kr ?_
  obtain rfl := Option.some.inj H
  have hS : Sat w27 (rf w0) [] := hS.sel [] kr
  exact At.body [.int .u32 (ixor .u32 4294967295 o24)] kr ⟨_, rfl, rfl, hS⟩
/-! ### 21 slices.Clone[[]byte,byte] -/
def slices_Clone.f (l0 : List Int) : Option (List Int) := ((app? 140737488355328 (([] : List Int) : List Int) l0).bind fun y5 => some y5)
def slices_Clone.post (w : World) (r : (List Int)) (v : Value) (w' : World) : Prop := ∃ (A0' : Option Addr) (c0' : Nat), v = (.slice A0' r.length c0' : Value) ∧ Sat w' (rf w) [osl 5 (r0 (.int .u8)) 1 A0' c0' r]
theorem slices_Clone.calls (w0 : World) (A0 : Option Addr) (c0 : Nat) (l0 : List Int) (R0 : rdS (r0 (.int .u8)) 1 (hp w0) A0 c0 l0) (r : (List Int)) (H : slices_Clone.f l0 = some r) :
    Calls Try.prog 21 #[.slice A0 l0.length c0] w0 (fun e w' => ∃ v, e = .returned v ∧ slices_Clone.post w0 r v w') := by
  have hS : Sat w0 (rf w0) [] := Sat.start w0
  unfold slices_Clone.f at H
  refine calls_of_WC (vs := [.slice A0 l0.length c0]) Try.func21 (c := C21) (n := 8) kr kr kr ?_
  refine WC.seq kr ?_
  refine WC.reg [0] kr kr ?_
  refine WR.runk [0] [] [0] (L' := [(0, .slice A0 l0.length c0)]) (w' := w0) kr ?_
  refine WR.nil ?_
  refine At.go ?_
  refine WC.seq kr ?_
  refine WC.seq kr ?_
  refine WC.reg [0, 1] kr kr ?_
  refine WR.runk [0] [1] [0, 3] (L' := [(0, .slice A0 l0.length c0), (3, .slice A0 l0.length c0)]) (w' := w0) kr ?_
  refine WR.st (St.ofP (PSt.eqNil (t := 31) (t2 := 31) (e := 5) (A := A0) (m := l0.length) (c := c0) .eql (by decide) (.tmp 3) kr kr kr kr ?_))
  refine WR.runk [] [] [0, 4] (L' := [(0, .slice A0 l0.length c0), (4, .bool A0.isNone)]) (w' := w0) kr ?_
  refine WR.nil ?_
  refine At.go ?_
  refine WC.cond kr A0.isNone kr kr (fun hb1 => ?_) (fun hb1 => ?_)
  ·have hnl := rdS.isNone (rdS.up R0 hS.sub0) (by simpa using hb1)
   rw [hnl] at H
   refine WC.seq kr ?_
   refine WC.reg [0] kr kr ?_
   refine WR.runk [0] [] [2] (L' := [(2, .slice none 0 0)]) (w' := w0) kr ?_
   refine WR.nil ?_
   refine At.go ?_
   refine WC.ret kr ?_
   refine At.thenRet ?_
   obtain rfl := Option.some.inj (show some ([] : List Int) = some r from H)
   have hS := hS.addNil (α := Int) 5 (r0 (.int .u8)) 1
   have hS : Sat w0 (rf w0) [osl 5 (r0 (.int .u8)) 1 none 0 ([] : List Int)] := hS.sel [0] kr
   exact At.body [.slice none 0 0] kr ⟨_, rfl, _, _, rfl, hS⟩
  ·refine WC.skip kr ?_
   refine At.go ?_
   refine WC.seq kr ?_
   refine WC.reg [0, 1, 2, 3] kr kr ?_
   refine WR.runk [] [0, 1, 2, 3] [0] (L' := [(0, .slice A0 l0.length c0)]) (w' := w0) kr ?_
   refine WR.st (St.box hS kr (.cells #[] 5) (fun b2 => .slice (some ⟨b2, 0, none⟩) 0 0) (fun _ => by kernel_rfl) (fun b2 w3 hS => ?_))
   refine WR.runk [1] [2, 3] [5, 6] (L' := [(5, .slice (some ⟨b2, 0, none⟩) 0 0), (6, .slice A0 l0.length c0)]) (w' := w3) kr ?_
   have hS : Sat w3 (rf w0) [osl 5 (r0 (.int .u8)) 1 (some ⟨b2, 0, none⟩) (([] : List Int) : List Int).length (([] : List Int) : List Int)] := Sat.toOsl' (r0 (.int .u8)) 1 (([] : List Int) : List Int) hS rfl (rdL.nil _ _)
   obtain ⟨y5, e4, H⟩ := bind_ex H
   refine WR.st (St.append' (.tmp 5) (.tmp 6) kr kr E31 (r0_one _) hS kr kr (rdS.up R0 hS.sub0) 140737488355328 kr kr e4 (fun A6 c7 w8 hS => ?_))
   refine WR.runk [3] [] [2] (L' := [(2, .slice A6 y5.length c7)]) (w' := w8) kr ?_
   refine WR.nil ?_
   refine At.go ?_
   refine WC.ret kr ?_
   obtain rfl := Option.some.inj H
   have hS : Sat w8 (rf w0) [osl 5 (r0 (.int .u8)) 1 A6 c7 y5] := hS.sel [0] kr
   exact At.body [.slice A6 y5.length c7] kr ⟨_, rfl, _, _, rfl, hS⟩
/-! ### 38 colophon/crc.Put -/
def crc_Put.f (l0 : List Int) : Option (List Int) := ((crc_Sum.f ([l0] : List (List Int))).bind fun r3 => ((slices_Clone.f l0).bind fun r12 => ((app? 140737488355328 r12 ([IntKind.wrap .u8 r3, IntKind.wrap .u8 (ishr .u32 r3 8), IntKind.wrap .u8 (ishr .u32 r3 16), IntKind.wrap .u8 (ishr .u32 r3 24)] : List Int)).bind fun y26 => some y26)))
def crc_Put.post (w : World) (r : (List Int)) (v : Value) (w' : World) : Prop := ∃ (A0' : Option Addr) (c0' : Nat), v = (.slice A0' r.length c0' : Value) ∧ Sat w' (rf w) [osl 5 (r0 (.int .u8)) 1 A0' c0' r]
theorem crc_Put.calls (w0 : World) (A0 : Option Addr) (c0 : Nat) (l0 : List Int) (R0 : rdS (r0 (.int .u8)) 1 (hp w0) A0 c0 l0) (r : (List Int)) (H : crc_Put.f l0 = some r) :
    Calls Try.prog 38 #[.slice A0 l0.length c0] w0 (fun e w' => ∃ v, e = .returned v ∧ crc_Put.post w0 r v w') := by
  have hS : Sat w0 (rf w0) [] := Sat.start w0
  unfold crc_Put.f at H
  refine calls_of_WC (vs := [.slice A0 l0.length c0]) Try.func38 (c := C38) (n := 22) kr kr kr ?_
  refine WC.seq kr ?_
  refine WC.reg [0] kr kr ?_
  refine WR.runk [0] [] [0] (L' := [(0, .slice A0 l0.length c0)]) (w' := w0) kr ?_
  refine WR.nil ?_
  refine At.go ?_
  refine WC.seq kr ?_
  refine WC.reg [0, 1, 2, 3] kr kr ?_
  refine WR.runk [0] [1, 2, 3] [0, 4] (L' := [(0, .slice A0 l0.length c0), (4, .slice A0 l0.length c0)]) (w' := w0) kr ?_
  refine WR.st (St.box hS kr (.cells #[.slice A0 l0.length c0] 31) (fun b1 => .slice (some ⟨b1, 0, none⟩) 1 1) (fun _ => by kernel_rfl) (fun b1 w2 hS => ?_))
  refine WR.runk [] [2, 3] [0, 5] (L' := [(0, .slice A0 l0.length c0), (5, .slice (some ⟨b1, 0, none⟩) 1 1)]) (w' := w2) kr ?_
  obtain ⟨r3, e4, H⟩ := bind_ex H
  refine WR.st (St.call kr (f := 43) (args := #[.slice (some ⟨b1, 0, none⟩) 1 1]) kr (crc_Sum.calls w2 (some ⟨b1, 0, none⟩) 1 ([l0] : List (List Int)) (Sat.ptsAt 0 (rd (hp w2) (.slice 5 (.int .u8))) 1 ([l0] : List (List Int)) hS rfl rfl (rdL.cons1 ⟨_, _, rfl, (rdS.r0up (rdS.up R0 hS.sub0))⟩ (rdL.nil _ _))) r3 e4) ?_)
  rintro _ w10 ⟨rfl, hS11⟩
  have hS : Sat w10 (rf w0) [pts b1 (.cells #[.slice A0 l0.length c0] 31 (0, 0))] := hS.ext hS11
  refine WR.runk [3] [] [0, 3] (L' := [(0, .slice A0 l0.length c0), (3, .int .u32 r3)]) (w' := w10) kr ?_
  refine WR.nil ?_
  refine At.go ?_
  refine WC.seq kr ?_
  refine WC.reg [0, 1, 2, 3, 4, 5, 6, 7, 8, 9, 10, 11, 12, 13, 14, 15] kr kr ?_
  refine WR.runk [0] [1, 2, 3, 4, 5, 6, 7, 8, 9, 10, 11, 12, 13, 14, 15] [3, 7] (L' := [(3, .int .u32 r3), (7, .slice A0 l0.length c0)]) (w' := w10) kr ?_
  obtain ⟨r12, e13, H⟩ := bind_ex H
  refine WR.st (St.call kr (f := 21) (args := #[.slice A0 l0.length c0]) kr (slices_Clone.calls w10 A0 c0 l0 (rdS.up R0 hS.sub0) r12 e13) ?_)
  rintro _ w19 ⟨A21, c22, rfl, hS20⟩
  have hS : Sat w19 (rf w0) [osl 5 (r0 (.int .u8)) 1 A21 c22 r12, pts b1 (.cells #[.slice A0 l0.length c0] 31 (0, 0))] := hS.ext hS20
  refine WR.runk [2, 3, 4, 5, 6, 7, 8, 9, 10, 11, 12] [13, 14, 15] [8, 10, 13, 16, 19] (L' := [(8, .slice A21 r12.length c22), (10, .int .u8 (IntKind.wrap .u8 r3)), (13, .int .u8 (IntKind.wrap .u8 (ishr .u32 r3 8))), (16, .int .u8 (IntKind.wrap .u8 (ishr .u32 r3 16))), (19, .int .u8 (IntKind.wrap .u8 (ishr .u32 r3 24)))]) (w' := w19) kr ?_
  refine WR.st (St.box hS kr (.cells #[.int .u8 (IntKind.wrap .u8 r3), .int .u8 (IntKind.wrap .u8 (ishr .u32 r3 8)), .int .u8 (IntKind.wrap .u8 (ishr .u32 r3 16)), .int .u8 (IntKind.wrap .u8 (ishr .u32 r3 24))] 5) (fun b23 => .slice (some ⟨b23, 0, none⟩) 4 4) (fun _ => by kernel_rfl) (fun b23 w24 hS => ?_))
  refine WR.runk [] [14, 15] [8, 20] (L' := [(8, .slice A21 r12.length c22), (20, .slice (some ⟨b23, 0, none⟩) 4 4)]) (w' := w24) kr ?_
  have hS : Sat w24 (rf w0) [osl 5 (r0 (.int .u8)) 1 A21 c22 r12, pts b23 (.cells #[.int .u8 (IntKind.wrap .u8 r3), .int .u8 (IntKind.wrap .u8 (ishr .u32 r3 8)), .int .u8 (IntKind.wrap .u8 (ishr .u32 r3 16)), .int .u8 (IntKind.wrap .u8 (ishr .u32 r3 24))] 5 (0, 0)), pts b1 (.cells #[.slice A0 l0.length c0] 31 (0, 0))] := hS.sel [1, 0, 2] kr
  obtain ⟨y26, e25, H⟩ := bind_ex H
  refine WR.st (St.append' (.tmp 8) (.tmp 20) kr kr E31 (r0_one _) hS kr kr (Sat.ptsAt 1 (r0 (.int .u8)) 1 ([IntKind.wrap .u8 r3, IntKind.wrap .u8 (ishr .u32 r3 8), IntKind.wrap .u8 (ishr .u32 r3 16), IntKind.wrap .u8 (ishr .u32 r3 24)] : List Int) hS rfl rfl (rdL.cons1 rfl (rdL.cons1 rfl (rdL.cons1 rfl (rdL.cons1 rfl (rdL.nil _ _)))))) 140737488355328 kr kr e25 (fun A27 c28 w29 hS => ?_))
  refine WR.runk [15] [] [2] (L' := [(2, .slice A27 y26.length c28)]) (w' := w29) kr ?_
  refine WR.nil ?_
  refine At.go ?_
  refine WC.ret kr ?_
  obtain rfl := Option.some.inj H
  have hS : Sat w29 (rf w0) [osl 5 (r0 (.int .u8)) 1 A27 c28 y26] := hS.sel [0] kr
  exact At.body [.slice A27 y26.length c28] kr ⟨_, rfl, _, _, rfl, hS⟩
/-! ### 27 colophon/page.Put -/
def page_Put.l1 (a0 : Int) (l1 : List Int) : Nat → Int → (List Int) → Option (List Int)
  | 0, _, _ => none
  | k + 1, x22_l1, q6_l1 => (if decide (x22_l1 < 4) then ((chk? (decide (0 ≤ (wi (8 * x22_l1))))).bind fun _ => ((at? q6_l1 (wi (256 + x22_l1))).bind fun v12 => ((set? q6_l1 (wi (256 + x22_l1)) (IntKind.wrap .u8 (ishr .i64 a0 (wi (8 * x22_l1))))).bind fun y14 => page_Put.l1 a0 l1 k (wi (x22_l1 + 1)) y14))) else some q6_l1)
def page_Put.f (a0 : Int) (l1 : List Int) : Option ((List Int) × Int) := (if decide (a0 < 0) then some (([] : List Int), 2) else (if decide (a0 ≥ 4096) then some (([] : List Int), 2) else (if decide ((l1.length : Int) > 256) then some (([] : List Int), 80) else ((page_Put.l1 a0 l1 FU 0 (cpy (List.replicate 260 (0 : Int)) l1)).bind fun o19 => ((crc_Put.f o19).bind fun r24 => some (r24, 0))))))
def page_Put.post (w : World) (r : (List Int) × Int) (v : Value) (w' : World) : Prop := ∃ (A0' : Option Addr) (c0' : Nat), v = .tuple #[.slice A0' r.1.length c0', .int .i64 r.2] ∧ Sat w' (rf w) [osl 5 (r0 (.int .u8)) 1 A0' c0' r.1]
theorem page_Put.l1_ok {Q} (w0 : World) (a0 : Int) (l1 : List Int) (b4 : Nat) (out : (List Int)) (hn0 : ∀ (w : World), Sat w (rf w0) [oar 88 (r0 (.int .u8)) 1 260 b4 out] → At Q (.exit 1) 36 [(6, .pointer (some ⟨b4, 0, none⟩))] w) :
    ∀ (k : Nat) (x22_l1 : Int) (q6_l1 : List Int) (w : World), Sat w (rf w0) [oar 88 (r0 (.int .u8)) 1 260 b4 q6_l1] → page_Put.l1 a0 l1 k x22_l1 q6_l1 = some out → WL Try.prog (cbody (cbody (cr (cl (cr (cr (cr (cr C27)))))))) Q 36 [(0, .int .i64 a0), (6, .pointer (some ⟨b4, 0, none⟩)), (22, .int .i64 x22_l1)] w := by
  intro k
  induction k with
  | zero => intro x22_l1 q6_l1 w hS H; exact absurd (show none = some out from H) (by simp)
  | succ k ih =>
    intro x22_l1 q6_l1 w hS H
    unfold page_Put.l1 at H
    refine WL.round ?_
    refine WC.seq kr ?_
    refine WC.reg [0] kr kr ?_
    refine WR.runk [0] [] [0, 6, 22, 23] (L' := [(0, .int .i64 a0), (6, .pointer (some ⟨b4, 0, none⟩)), (22, .int .i64 x22_l1), (23, .bool (decide (x22_l1 < 4)))]) (w' := w) kr ?_
    refine WR.nil ?_
    refine At.go ?_
    refine WC.seq kr ?_
    refine WC.cond kr (decide (x22_l1 < 4)) kr kr (fun hb10 => ?_) (fun hb10 => ?_)
    ·replace H := ite_t H hb10
     refine WC.skip kr ?_
     refine At.go ?_
     refine WC.seq kr ?_
     refine WC.block kr ?_
     refine WC.seq kr ?_
     refine WC.reg [0, 1] kr kr ?_
     refine WR.runk [0, 1] [] [0, 6, 7, 22] (L' := [(0, .int .i64 a0), (6, .pointer (some ⟨b4, 0, none⟩)), (7, .int .i64 x22_l1), (22, .int .i64 x22_l1)]) (w' := w) kr ?_
     refine WR.nil ?_
     refine At.go ?_
     refine WC.reg [0, 1, 2, 3, 4, 5, 6, 7, 8] kr kr ?_
     refine WR.runk [0, 1, 2, 3, 4] [5, 6, 7, 8] [0, 6, 22, 26, 27, 29] (L' := [(0, .int .i64 a0), (6, .pointer (some ⟨b4, 0, none⟩)), (22, .int .i64 x22_l1), (26, .int .i64 (wi (256 + x22_l1))), (27, .int .i64 a0), (29, .int .i64 (wi (8 * x22_l1)))]) (w' := w) kr ?_
     obtain ⟨_, e11, H⟩ := bind_ex H
     refine WR.st (St.ofP (PSt.shift (k := .i64) (k2 := .i64) (t := 3) (t2 := 3) (a := a0) (b := (wi (8 * x22_l1))) .shr (by decide) (.tmp 27) (.tmp 29) kr kr kr kr (of_decide_eq_true (chk?_some e11)) ?_))
     refine WR.runk [6] [7, 8] [0, 6, 22, 26, 31] (L' := [(0, .int .i64 a0), (6, .pointer (some ⟨b4, 0, none⟩)), (22, .int .i64 x22_l1), (26, .int .i64 (wi (256 + x22_l1))), (31, .int .u8 (IntKind.wrap .u8 (ishr .i64 a0 (wi (8 * x22_l1)))))]) (w' := w) kr ?_
     obtain ⟨v12, e13, H⟩ := bind_ex H
     refine WR.st (St.ofP (PSt.idxArr (k := .i64) (t := 88) (e := 5) (sz := 1) (b := b4) (.tmp 6) (.tmp 26) kr kr kr kr kr kr kr (Sat.oarAt 0 hS rfl).2 e13 ?_))
     refine WR.runk [] [8] [0, 6, 22, 31, 32] (L' := [(0, .int .i64 a0), (6, .pointer (some ⟨b4, 0, none⟩)), (22, .int .i64 x22_l1), (31, .int .u8 (IntKind.wrap .u8 (ishr .i64 a0 (wi (8 * x22_l1))))), (32, .pointer (some (adr (some ⟨b4, 0, none⟩) (wi (256 + x22_l1)).toNat 1)))]) (w' := w) kr ?_
     obtain ⟨y14, e15, H⟩ := bind_ex H
     obtain ⟨hl17, hS⟩ := oar.op hS
     refine WR.st (St.storeElem' (t := 5) (.tmp 32) (.tmp 31) kr kr kr hS kr kr rfl e15 rfl (fun w16 hS => ?_))
     have hl18 := (set?_len e15).trans hl17
     have hS : Sat w16 (rf w0) [oar 88 (r0 (.int .u8)) 1 260 b4 y14] := oar.cl hl18 hS
     refine WR.runk [] [] [0, 6, 22] (L' := [(0, .int .i64 a0), (6, .pointer (some ⟨b4, 0, none⟩)), (22, .int .i64 x22_l1)]) (w' := w16) kr ?_
     refine WR.nil ?_
     refine At.blockNormal ?_
     refine At.go ?_
     refine WC.reg [0, 1] kr kr ?_
     refine WR.runk [0, 1] [] [0, 6, 22] (L' := [(0, .int .i64 a0), (6, .pointer (some ⟨b4, 0, none⟩)), (22, .int .i64 (wi (x22_l1 + 1)))]) (w' := w16) kr ?_
     refine WR.nil ?_
     have hS : Sat w16 (rf w0) [oar 88 (r0 (.int .u8)) 1 260 b4 y14] := hS.sel [0] kr
     refine At.again ?_
     refine WL.weaken [0, 6, 22] (L' := [(0, .int .i64 a0), (6, .pointer (some ⟨b4, 0, none⟩)), (22, .int .i64 (wi (x22_l1 + 1)))]) kr ?_
     exact ih (wi (x22_l1 + 1)) y14 _ hS H
    ·replace H := ite_f H hb10
     refine WC.exit kr ?_
     refine At.thenExit ?_
     refine At.thenExit ?_
     obtain rfl := Option.some.inj H
     have hS : Sat w (rf w0) [oar 88 (r0 (.int .u8)) 1 260 b4 q6_l1] := hS.sel [0] kr
     refine At.weaken [6] (L' := [(6, .pointer (some ⟨b4, 0, none⟩))]) kr ?_
     exact hn0 _ hS
theorem page_Put.calls (w0 : World) (a0 : Int) (A1 : Option Addr) (c1 : Nat) (l1 : List Int) (R1 : rdS (r0 (.int .u8)) 1 (hp w0) A1 c1 l1) (r : (List Int) × Int) (H : page_Put.f a0 l1 = some r) :
    Calls Try.prog 27 #[.int .i64 a0, .slice A1 l1.length c1] w0 (fun e w' => ∃ v, e = .returned v ∧ page_Put.post w0 r v w') := by
  have hS : Sat w0 (rf w0) [] := Sat.start w0
  unfold page_Put.f at H
  refine calls_of_WC (vs := [.int .i64 a0, .slice A1 l1.length c1]) Try.func27 (c := C27) (n := 36) kr kr kr ?_
  refine WC.seq kr ?_
  refine WC.reg [0, 1] kr kr ?_
  refine WR.runk [0, 1] [] [0, 1] (L' := [(0, .int .i64 a0), (1, .slice A1 l1.length c1)]) (w' := w0) kr ?_
  refine WR.nil ?_
  refine At.go ?_
  refine WC.seq kr ?_
  refine WC.block kr ?_
  refine WC.seq kr ?_
  refine WC.reg [0, 1, 2, 3, 4, 5, 6] kr kr ?_
  refine WR.runk [0, 1, 2] [3, 4, 5, 6] [0, 1, 11] (L' := [(0, .int .i64 a0), (1, .slice A1 l1.length c1), (11, .bool (decide (a0 < 0)))]) (w' := w0) kr ?_
  refine WR.split 11 (b := decide (a0 < 0)) kr (fun hb1 => ?_) (fun hb1 => ?_)
  ·replace H := ite_t H hb1
   refine WR.runk [3, 4, 5, 6] [] [0, 1, 8] (L' := [(0, .int .i64 a0), (1, .slice A1 l1.length c1), (8, .bool true)]) (w' := w0) kr ?_
   refine WR.nil ?_
   refine At.go ?_
   refine WC.condT kr kr kr ?_
   refine WC.seq kr ?_
   refine WC.reg [0, 1] kr kr ?_
   refine WR.runk [0, 1] [] [4, 5] (L' := [(4, .slice none 0 0), (5, .int .i64 2)]) (w' := w0) kr ?_
   refine WR.nil ?_
   refine At.go ?_
   refine WC.ret kr ?_
   refine At.blockRet ?_
   refine At.thenRet ?_
   obtain rfl := Option.some.inj H
   have hS := hS.addNil (α := Int) 5 (r0 (.int .u8)) 1
   have hS : Sat w0 (rf w0) [osl 5 (r0 (.int .u8)) 1 none 0 ([] : List Int)] := hS.sel [0] kr
   exact At.body [.slice none 0 0, .int .i64 2] kr ⟨_, rfl, _, _, rfl, hS⟩
  ·replace H := ite_f H hb1
   refine WR.runk [3, 4, 5, 6] [] [0, 1, 8] (L' := [(0, .int .i64 a0), (1, .slice A1 l1.length c1), (8, .bool (decide (a0 ≥ 4096)))]) (w' := w0) kr ?_
   refine WR.nil ?_
   refine At.go ?_
   refine WC.cond kr (decide (a0 ≥ 4096)) kr kr (fun hb2 => ?_) (fun hb2 => ?_)
   ·replace H := ite_t H hb2
    refine WC.seq kr ?_
    refine WC.reg [0, 1] kr kr ?_
    refine WR.runk [0, 1] [] [4, 5] (L' := [(4, .slice none 0 0), (5, .int .i64 2)]) (w' := w0) kr ?_
    refine WR.nil ?_
    refine At.go ?_
    refine WC.ret kr ?_
    refine At.blockRet ?_
    refine At.thenRet ?_
    obtain rfl := Option.some.inj H
    have hS := hS.addNil (α := Int) 5 (r0 (.int .u8)) 1
    have hS : Sat w0 (rf w0) [osl 5 (r0 (.int .u8)) 1 none 0 ([] : List Int)] := hS.sel [0] kr
    exact At.body [.slice none 0 0, .int .i64 2] kr ⟨_, rfl, _, _, rfl, hS⟩
   ·replace H := ite_f H hb2
    refine WC.seq kr ?_
    refine WC.reg [0, 1, 2, 3] kr kr ?_
    refine WR.runk [0, 1, 2, 3] [] [0, 1, 15] (L' := [(0, .int .i64 a0), (1, .slice A1 l1.length c1), (15, .bool (decide ((l1.length : Int) > 256)))]) (w' := w0) kr ?_
    refine WR.nil ?_
    refine At.go ?_
    refine WC.cond kr (decide ((l1.length : Int) > 256)) kr kr (fun hb3 => ?_) (fun hb3 => ?_)
    ·replace H := ite_t H hb3
     refine WC.seq kr ?_
     refine WC.reg [0, 1] kr kr ?_
     refine WR.runk [0, 1] [] [4, 5] (L' := [(4, .slice none 0 0), (5, .int .i64 80)]) (w' := w0) kr ?_
     refine WR.nil ?_
     refine At.go ?_
     refine WC.ret kr ?_
     refine At.blockRet ?_
     refine At.thenRet ?_
     obtain rfl := Option.some.inj H
     have hS := hS.addNil (α := Int) 5 (r0 (.int .u8)) 1
     have hS : Sat w0 (rf w0) [osl 5 (r0 (.int .u8)) 1 none 0 ([] : List Int)] := hS.sel [0] kr
     exact At.body [.slice none 0 0, .int .i64 80] kr ⟨_, rfl, _, _, rfl, hS⟩
    ·replace H := ite_f H hb3
     refine WC.skip kr ?_
     refine At.blockNormal ?_
     refine At.go ?_
     refine WC.seq kr ?_
     refine WC.reg [0] kr kr ?_
     refine WR.runk [] [0] [0, 1] (L' := [(0, .int .i64 a0), (1, .slice A1 l1.length c1)]) (w' := w0) kr ?_
     refine WR.st (St.box hS kr (.cells ⟨List.replicate 260 (.int .u8 0)⟩ 88) (fun b4 => .pointer (some ⟨b4, 0, none⟩)) (fun _ => by kernel_rfl) (fun b4 w5 hS => ?_))
     have hS : Sat w5 (rf w0) [oar 88 (r0 (.int .u8)) 1 260 b4 (List.replicate 260 (0 : Int))] := oar.ofPts (κ := (.int .u8)) 260 0 [.int .u8 0] kr kr rfl kr hS
     refine WR.runk [] [] [0, 1, 6] (L' := [(0, .int .i64 a0), (1, .slice A1 l1.length c1), (6, .pointer (some ⟨b4, 0, none⟩))]) (w' := w5) kr ?_
     refine WR.nil ?_
     refine At.go ?_
     refine WC.seq kr ?_
     refine WC.reg [0, 1, 2] kr kr ?_
     refine WR.runk [0, 1] [2] [0, 6, 19, 20] (L' := [(0, .int .i64 a0), (6, .pointer (some ⟨b4, 0, none⟩)), (19, .slice (some ⟨b4, 0, none⟩) 260 260), (20, .slice A1 l1.length c1)]) (w' := w5) kr ?_
     refine WR.know 19 (.slice (some ⟨b4, 0, none⟩) (List.replicate 260 (0 : Int)).length 260) (.slice (some ⟨b4, 0, none⟩) 260 260) kr (by rw [(Sat.oarAt 0 hS rfl).2]) ?_
     refine WR.runk [] [2] [0, 6, 19, 20] (L' := [(0, .int .i64 a0), (6, .pointer (some ⟨b4, 0, none⟩)), (19, .slice (some ⟨b4, 0, none⟩) (List.replicate 260 (0 : Int)).length 260), (20, .slice A1 l1.length c1)]) (w' := w5) kr ?_
     obtain ⟨hl8, hS⟩ := oar.op hS
     refine WR.st (St.copy (t := 31) (t2 := 31) (e := 5) (.tmp 19) (.tmp 20) kr kr kr kr (r0_one _) hS kr kr (rdS.up R1 hS.sub0) (fun w7 hS => ?_))
     have hl9 := (cpy_len (List.replicate 260 (0 : Int)) l1).trans hl8
     have hS : Sat w7 (rf w0) [oar 88 (r0 (.int .u8)) 1 260 b4 (cpy (List.replicate 260 (0 : Int)) l1)] := oar.cl hl9 hS
     refine WR.runk [] [] [0, 6] (L' := [(0, .int .i64 a0), (6, .pointer (some ⟨b4, 0, none⟩))]) (w' := w7) kr ?_
     refine WR.nil ?_
     refine At.go ?_
     refine WC.seq kr ?_
     refine WC.seq kr ?_
     refine WC.reg [0] kr kr ?_
     refine WR.runk [0] [] [0, 6, 22] (L' := [(0, .int .i64 a0), (6, .pointer (some ⟨b4, 0, none⟩)), (22, .int .i64 0)]) (w' := w7) kr ?_
     refine WR.nil ?_
     refine At.go ?_
     refine WC.block kr ?_
     have hS : Sat w7 (rf w0) [oar 88 (r0 (.int .u8)) 1 260 b4 (cpy (List.replicate 260 (0 : Int)) l1)] := hS.sel [0] kr
     obtain ⟨o19, e20, H⟩ := bind_ex H
     refine WC.loop kr ?_
     refine WL.weaken [0, 6, 22] (L' := [(0, .int .i64 a0), (6, .pointer (some ⟨b4, 0, none⟩)), (22, .int .i64 0)]) kr ?_
     refine page_Put.l1_ok w0 a0 l1 b4 o19 (fun w22 hS => ?_) FU 0 (cpy (List.replicate 260 (0 : Int)) l1) _ hS e20
     refine At.hit ?_
     refine At.go ?_
     refine WC.seq kr ?_
     refine WC.reg [0, 1, 2, 3] kr kr ?_
     refine WR.runk [0] [1, 2, 3] [34] (L' := [(34, .slice (some ⟨b4, 0, none⟩) 260 260)]) (w' := w22) kr ?_
     refine WR.know 34 (.slice (some ⟨b4, 0, none⟩) o19.length 260) (.slice (some ⟨b4, 0, none⟩) 260 260) kr (by rw [(Sat.oarAt 0 hS rfl).2]) ?_
     refine WR.runk [] [1, 2, 3] [34] (L' := [(34, .slice (some ⟨b4, 0, none⟩) o19.length 260)]) (w' := w22) kr ?_
     obtain ⟨r24, e25, H⟩ := bind_ex H
     refine WR.st (St.call kr (f := 38) (args := #[.slice (some ⟨b4, 0, none⟩) o19.length 260]) kr (crc_Put.calls w22 (some ⟨b4, 0, none⟩) 260 o19 (Sat.oarAt 0 hS rfl).1 r24 e25) ?_)
     rintro _ w31 ⟨A33, c34, rfl, hS32⟩
     have hS : Sat w31 (rf w0) [osl 5 (r0 (.int .u8)) 1 A33 c34 r24, oar 88 (r0 (.int .u8)) 1 260 b4 o19] := hS.ext hS32
     refine WR.runk [2, 3] [] [4, 5] (L' := [(4, .slice A33 r24.length c34), (5, .int .i64 0)]) (w' := w31) kr ?_
     refine WR.nil ?_
     refine At.go ?_
     refine WC.ret kr ?_
     obtain rfl := Option.some.inj H
     have hS : Sat w31 (rf w0) [osl 5 (r0 (.int .u8)) 1 A33 c34 r24] := hS.sel [0] kr
     exact At.body [.slice A33 r24.length c34, .int .i64 0] kr ⟨_, rfl, _, _, rfl, hS⟩
/-! ### 18 colophon/image.Build -/
def image_Build.l1 (l0 : List (List Int)) : Nat → (List Int) → (List Int) → Int → Option ((List Int) × (List Int))
  | 0, _, _, _ => none
  | k + 1, x4_l1, x5_l1, x29_l1 => (if decide (x29_l1 < (l0.length : Int)) then ((at? l0 x29_l1).bind fun v23 => ((app? 17592186044416 x5_l1 ([(v23.length : Int)] : List Int)).bind fun y31 => ((image_little.f (v23.length : Int) 4).bind fun r35 => ((app? 140737488355328 x4_l1 r35).bind fun y47 => image_Build.l1 l0 k y47 y31 (wi (x29_l1 + 1)))))) else some (x4_l1, x5_l1))
def image_Build.l3 (v88 : List Int) : Nat → Nat → (List Int) → Int → Option ((List Int) × Int)
  | 0, _, _, _ => none
  | k + 1, o_rg, q81p0_l3, q85p0_l3 => (if o_rg < v88.length then ((page_Put.f q85p0_l3 ((v88.drop o_rg).take 256)).bind fun r99 => ((app? 140737488355328 q81p0_l3 r99.1).bind fun y111 => image_Build.l3 v88 k (o_rg + 256) y111 (wi (q85p0_l3 + 1)))) else some (q81p0_l3, q85p0_l3))
def image_Build.l2 (l0 : List (List Int)) : Nat → Int → (List Int) → Int → Option ((List Int) × Int)
  | 0, _, _, _ => none
  | k + 1, x58_l2, q81p0_l2, q85p0_l2 => (if decide (x58_l2 < (l0.length : Int)) then ((at? l0 x58_l2).bind fun v88 => ((chk? (decide (v88.length ≤ 4611686018427387904))).bind fun _ => (image_Build.l3 v88 FU 0 q81p0_l2 q85p0_l2).bind fun o118 => image_Build.l2 l0 k (wi (x58_l2 + 1)) o118.1 o118.2)) else some (q81p0_l2, q85p0_l2))
def image_Build.f (l0 : List (List Int)) : Option ((List Int) × Int) := (if decide ((l0.length : Int) > 60) then some (([] : List Int), 80) else ((image_little.f (l0.length : Int) 2).bind fun r5 => ((chk? (decide (4 < 4 + r5.length))).bind fun _ => ((app? 140737488355328 ([99, 111, 108, 111] : List Int) r5).bind fun y18 => ((image_Build.l1 l0 FU y18 ([] : List Int) 0).bind fun o51 => ((image_plan.f o51.2).bind fun r56 => (if decide (r56.2 > 4096) then some (([] : List Int), 80) else ((page_Put.f 0 o51.1).bind fun r68 => ((image_Build.l2 l0 FU 0 r68.1 1).bind fun o132 => some (o132.1, 0))))))))))
def image_Build.post (w : World) (r : (List Int) × Int) (v : Value) (w' : World) : Prop := ∃ (A0' : Option Addr) (c0' : Nat), v = .tuple #[.slice A0' r.1.length c0', .int .i64 r.2] ∧ Sat w' (rf w) [osl 5 (r0 (.int .u8)) 1 A0' c0' r.1]
theorem image_Build.l1_ok {Q} (w0 : World) (A0 : Option Addr) (c0 : Nat) (l0 : List (List Int)) (R0 : rdS (rd (hp w0) (.slice 5 (.int .u8))) 1 (hp w0) A0 c0 l0) (out : (List Int) × (List Int)) (hn0 : ∀ (A4_q : Option Addr) (c4_q : Nat) (A5_q : Option Addr) (c5_q : Nat) (D_q : List Deferred) (w : World), Sat w (rf w0) [mks D_q, osl 5 (r0 (.int .u8)) 1 A4_q c4_q out.1, osl 3 (r0 (.int .i64)) 1 A5_q c5_q out.2] → At ⟨Q, D_q, none⟩ (.exit 0) 78 [(0, .slice A0 l0.length c0), (4, .slice A4_q out.1.length c4_q), (5, .slice A5_q out.2.length c5_q)] w) :
    ∀ (k : Nat) (x4_l1 : List Int) (x5_l1 : List Int) (x29_l1 : Int) (A4_l1 : Option Addr) (c4_l1 : Nat) (A5_l1 : Option Addr) (c5_l1 : Nat) (D_l1 : List Deferred) (w : World), Sat w (rf w0) [osl 5 (r0 (.int .u8)) 1 A4_l1 c4_l1 x4_l1, osl 3 (r0 (.int .i64)) 1 A5_l1 c5_l1 x5_l1, mks D_l1] → image_Build.l1 l0 k x4_l1 x5_l1 x29_l1 = some out → WL Try.prog (cbody (cbody (cr (cl (cr (cr (cr (cr C18)))))))) ⟨Q, D_l1, none⟩ 78 [(0, .slice A0 l0.length c0), (4, .slice A4_l1 x4_l1.length c4_l1), (5, .slice A5_l1 x5_l1.length c5_l1), (27, .slice A0 l0.length c0), (28, .int .i64 (l0.length : Int)), (29, .int .i64 x29_l1)] w := by
  intro k
  induction k with
  | zero => intro x4_l1 x5_l1 x29_l1 A4_l1 c4_l1 A5_l1 c5_l1 D_l1 w hS H; exact absurd (show none = some out from H) (by simp)
  | succ k ih =>
    intro x4_l1 x5_l1 x29_l1 A4_l1 c4_l1 A5_l1 c5_l1 D_l1 w hS H
    unfold image_Build.l1 at H
    refine WL.round ?_
    refine WC.seq kr ?_
    refine WC.reg [0] kr kr ?_
    refine WR.runk [0] [] [0, 4, 5, 27, 28, 29, 30] (L' := [(0, .slice A0 l0.length c0), (4, .slice A4_l1 x4_l1.length c4_l1), (5, .slice A5_l1 x5_l1.length c5_l1), (27, .slice A0 l0.length c0), (28, .int .i64 (l0.length : Int)), (29, .int .i64 x29_l1), (30, .bool (decide (x29_l1 < (l0.length : Int))))]) (w' := w) kr ?_
    refine WR.nil ?_
    refine At.go ?_
    refine WC.seq kr ?_
    refine WC.cond kr (decide (x29_l1 < (l0.length : Int))) kr kr (fun hb22 => ?_) (fun hb22 => ?_)
    ·replace H := ite_t H hb22
     refine WC.skip kr ?_
     refine At.go ?_
     refine WC.seq kr ?_
     refine WC.block kr ?_
     refine WC.seq kr ?_
     refine WC.reg [0, 1, 2] kr kr ?_
     refine WR.runk [] [0, 1, 2] [0, 4, 5, 27, 28, 29] (L' := [(0, .slice A0 l0.length c0), (4, .slice A4_l1 x4_l1.length c4_l1), (5, .slice A5_l1 x5_l1.length c5_l1), (27, .slice A0 l0.length c0), (28, .int .i64 (l0.length : Int)), (29, .int .i64 x29_l1)]) (w' := w) kr ?_
     obtain ⟨v23, e24, H⟩ := bind_ex H
     refine WR.st (St.ofP (PSt.idx (k := .i64) (.tmp 27) (.tmp 29) kr kr E71 kr kr (rdS.up R0 hS.sub0) e24 ?_))
     refine WR.runk [] [1, 2] [0, 4, 5, 27, 28, 29, 31] (L' := [(0, .slice A0 l0.length c0), (4, .slice A4_l1 x4_l1.length c4_l1), (5, .slice A5_l1 x5_l1.length c5_l1), (27, .slice A0 l0.length c0), (28, .int .i64 (l0.length : Int)), (29, .int .i64 x29_l1), (31, .pointer (some (adr A0 x29_l1.toNat 1)))]) (w' := w) kr ?_
     refine WR.st (St.ofR (RSt.loadSl (t := 31) (.tmp 31) kr kr kr kr R0 e24 hS.sub0 (fun A25 c26 R27 => ?_)))
     replace R27 : rdS (r0 (.int .u8)) 1 (hp w0) A25 c26 v23 := R27
     refine WR.runk [2] [] [0, 4, 5, 7, 27, 28, 29] (L' := [(0, .slice A0 l0.length c0), (4, .slice A4_l1 x4_l1.length c4_l1), (5, .slice A5_l1 x5_l1.length c5_l1), (7, .slice A25 v23.length c26), (27, .slice A0 l0.length c0), (28, .int .i64 (l0.length : Int)), (29, .int .i64 x29_l1)]) (w' := w) kr ?_
     refine WR.nil ?_
     refine At.go ?_
     refine WC.seq kr ?_
     refine WC.reg [0, 1, 2, 3, 4, 5] kr kr ?_
     refine WR.runk [0, 1, 2] [3, 4, 5] [0, 4, 5, 7, 27, 28, 29, 33, 35] (L' := [(0, .slice A0 l0.length c0), (4, .slice A4_l1 x4_l1.length c4_l1), (5, .slice A5_l1 x5_l1.length c5_l1), (7, .slice A25 v23.length c26), (27, .slice A0 l0.length c0), (28, .int .i64 (l0.length : Int)), (29, .int .i64 x29_l1), (33, .slice A5_l1 x5_l1.length c5_l1), (35, .int .i64 (v23.length : Int))]) (w' := w) kr ?_
     refine WR.st (St.box hS kr (.cells #[.int .i64 (v23.length : Int)] 3) (fun b28 => .slice (some ⟨b28, 0, none⟩) 1 1) (fun _ => by kernel_rfl) (fun b28 w29 hS => ?_))
     refine WR.runk [] [4, 5] [0, 4, 5, 7, 27, 28, 29, 33, 36] (L' := [(0, .slice A0 l0.length c0), (4, .slice A4_l1 x4_l1.length c4_l1), (5, .slice A5_l1 x5_l1.length c5_l1), (7, .slice A25 v23.length c26), (27, .slice A0 l0.length c0), (28, .int .i64 (l0.length : Int)), (29, .int .i64 x29_l1), (33, .slice A5_l1 x5_l1.length c5_l1), (36, .slice (some ⟨b28, 0, none⟩) 1 1)]) (w' := w29) kr ?_
     have hS : Sat w29 (rf w0) [osl 3 (r0 (.int .i64)) 1 A5_l1 c5_l1 x5_l1, pts b28 (.cells #[.int .i64 (v23.length : Int)] 3 (0, 0)), osl 5 (r0 (.int .u8)) 1 A4_l1 c4_l1 x4_l1, mks D_l1] := hS.sel [2, 0, 1, 3] kr
     obtain ⟨y31, e30, H⟩ := bind_ex H
     refine WR.st (St.append' (.tmp 33) (.tmp 36) kr kr E47 (r0_one _) hS kr kr (Sat.ptsAt 1 (r0 (.int .i64)) 1 ([(v23.length : Int)] : List Int) hS rfl rfl (rdL.cons1 rfl (rdL.nil _ _))) 17592186044416 kr kr e30 (fun A32 c33 w34 hS => ?_))
     refine WR.runk [5] [] [0, 4, 5, 7, 27, 28, 29] (L' := [(0, .slice A0 l0.length c0), (4, .slice A4_l1 x4_l1.length c4_l1), (5, .slice A32 y31.length c33), (7, .slice A25 v23.length c26), (27, .slice A0 l0.length c0), (28, .int .i64 (l0.length : Int)), (29, .int .i64 x29_l1)]) (w' := w34) kr ?_
     refine WR.nil ?_
     refine At.go ?_
     refine WC.reg [0, 1, 2, 3, 4, 5] kr kr ?_
     refine WR.runk [0, 1, 2] [3, 4, 5] [0, 4, 5, 27, 28, 29, 38, 40] (L' := [(0, .slice A0 l0.length c0), (4, .slice A4_l1 x4_l1.length c4_l1), (5, .slice A32 y31.length c33), (27, .slice A0 l0.length c0), (28, .int .i64 (l0.length : Int)), (29, .int .i64 x29_l1), (38, .slice A4_l1 x4_l1.length c4_l1), (40, .int .i64 (v23.length : Int))]) (w' := w34) kr ?_
     obtain ⟨r35, e36, H⟩ := bind_ex H
     refine WR.st (St.call kr (f := 25) (args := #[.int .i64 (v23.length : Int), .int .i64 4]) kr (image_little.calls w34 (v23.length : Int) 4 r35 e36) ?_)
     rintro _ w42 ⟨A44, c45, rfl, hS43⟩
     have hS : Sat w42 (rf w0) [osl 5 (r0 (.int .u8)) 1 A44 c45 r35, osl 3 (r0 (.int .i64)) 1 A32 c33 y31, pts b28 (.cells #[.int .i64 (v23.length : Int)] 3 (0, 0)), osl 5 (r0 (.int .u8)) 1 A4_l1 c4_l1 x4_l1, mks D_l1] := hS.ext hS43
     refine WR.runk [] [4, 5] [0, 4, 5, 27, 28, 29, 38, 41] (L' := [(0, .slice A0 l0.length c0), (4, .slice A4_l1 x4_l1.length c4_l1), (5, .slice A32 y31.length c33), (27, .slice A0 l0.length c0), (28, .int .i64 (l0.length : Int)), (29, .int .i64 x29_l1), (38, .slice A4_l1 x4_l1.length c4_l1), (41, .slice A44 r35.length c45)]) (w' := w42) kr ?_
     have hS : Sat w42 (rf w0) [osl 5 (r0 (.int .u8)) 1 A4_l1 c4_l1 x4_l1, osl 5 (r0 (.int .u8)) 1 A44 c45 r35, osl 3 (r0 (.int .i64)) 1 A32 c33 y31, pts b28 (.cells #[.int .i64 (v23.length : Int)] 3 (0, 0)), mks D_l1] := hS.sel [3, 0, 1, 2, 4] kr
     obtain ⟨y47, e46, H⟩ := bind_ex H
     refine WR.st (St.append' (.tmp 38) (.tmp 41) kr kr E31 (r0_one _) hS kr kr (Sat.rdAt 1 hS rfl) 140737488355328 kr kr e46 (fun A48 c49 w50 hS => ?_))
     refine WR.runk [5] [] [0, 4, 5, 27, 28, 29] (L' := [(0, .slice A0 l0.length c0), (4, .slice A48 y47.length c49), (5, .slice A32 y31.length c33), (27, .slice A0 l0.length c0), (28, .int .i64 (l0.length : Int)), (29, .int .i64 x29_l1)]) (w' := w50) kr ?_
     refine WR.nil ?_
     refine At.blockNormal ?_
     refine At.go ?_
     refine WC.reg [0, 1] kr kr ?_
     refine WR.runk [0, 1] [] [0, 4, 5, 27, 28, 29] (L' := [(0, .slice A0 l0.length c0), (4, .slice A48 y47.length c49), (5, .slice A32 y31.length c33), (27, .slice A0 l0.length c0), (28, .int .i64 (l0.length : Int)), (29, .int .i64 (wi (x29_l1 + 1)))]) (w' := w50) kr ?_
     refine WR.nil ?_
     have hS : Sat w50 (rf w0) [osl 5 (r0 (.int .u8)) 1 A48 c49 y47, osl 3 (r0 (.int .i64)) 1 A32 c33 y31, mks D_l1] := hS.sel [0, 2, 4] kr
     refine At.again ?_
     refine WL.weaken [0, 4, 5, 27, 28, 29] (L' := [(0, .slice A0 l0.length c0), (4, .slice A48 y47.length c49), (5, .slice A32 y31.length c33), (27, .slice A0 l0.length c0), (28, .int .i64 (l0.length : Int)), (29, .int .i64 (wi (x29_l1 + 1)))]) kr ?_
     exact ih y47 y31 (wi (x29_l1 + 1)) A48 c49 A32 c33 D_l1 _ hS H
    ·replace H := ite_f H hb22
     refine WC.exit kr ?_
     refine At.thenExit ?_
     refine At.thenExit ?_
     obtain rfl := Option.some.inj H
     have hS : Sat w (rf w0) [mks D_l1, osl 5 (r0 (.int .u8)) 1 A4_l1 c4_l1 x4_l1, osl 3 (r0 (.int .i64)) 1 A5_l1 c5_l1 x5_l1] := hS.sel [2, 0, 1] kr
     refine At.weaken [0, 4, 5] (L' := [(0, .slice A0 l0.length c0), (4, .slice A4_l1 x4_l1.length c4_l1), (5, .slice A5_l1 x5_l1.length c5_l1)]) kr ?_
     exact hn0 A4_l1 c4_l1 A5_l1 c5_l1 D_l1 _ hS
theorem image_Build.l3_ok {Q} (w0 : World) (A0 : Option Addr) (c0 : Nat) (l0 : List (List Int)) (b79 : Nat) (b83 : Nat) (x58_l2 : Int) (v88 : List Int) (A90 : Option Addr) (c91 : Nat) (b93 : Nat) (b94 : Nat) (R92 : rdS (r0 (.int .u8)) 1 (hp w0) A90 c91 v88) (T : Array Value) (l r fn : Nat) (D : List Deferred) (X : RC) (hX : X = ⟨Try.prog, Q, D, 78, [(10, .pointer (some ⟨b79, 0, none⟩)), (12, .pointer (some ⟨b83, 0, none⟩)), (56, .slice A0 l0.length c0), (57, .int .i64 (l0.length : Int)), (58, .int .i64 x58_l2), (63, .func (.func 39) #[] #[.pointer (some ⟨b93, 0, none⟩), .pointer (some ⟨b94, 0, none⟩)])], T, l, r, fn, 64, rgas (cbody (cr (cr (cbody (cl (cr (cr (cbody (cbody (cr (cl (cr (cr (cr (cr (cr (cr (cr (cr C18))))))))))))))))))), rgbody (cbody (cr (cr (cbody (cl (cr (cr (cbody (cbody (cr (cl (cr (cr (cr (cr (cr (cr (cr (cr C18))))))))))))))))))), b93, b94, .cells #[.slice A90 v88.length c91] 31 (0, 0), .cells #[.int .i64 ((256 : Nat) : Int)] 3 (0, 0), A90, v88.length, 256⟩) (out : (List Int) × Int) (hn0 : ∀ (Aq81p0_q : Option Addr) (cq81p0_q : Nat) (w : World), Sat w (rf w0) [mks D, pts b79 (.cells #[.slice Aq81p0_q out.1.length cq81p0_q] 31 (0, 0)), osl 5 (r0 (.int .u8)) 1 Aq81p0_q cq81p0_q out.1, pts b83 (.cells #[.int .i64 out.2] 3 (0, 0))] → At ⟨Q, D, none⟩ .normal 78 [(10, .pointer (some ⟨b79, 0, none⟩)), (12, .pointer (some ⟨b83, 0, none⟩)), (56, .slice A0 l0.length c0), (57, .int .i64 (l0.length : Int)), (58, .int .i64 x58_l2)] w) :
    ∀ (k : Nat) (o_rg : Nat) (q81p0_l3 : List Int) (q85p0_l3 : Int) (Aq81p0_l3 : Option Addr) (cq81p0_l3 : Nat) (w : World), Sat w (rf w0) [pts l (X.ob .ready none), pts b93 (.cells #[.slice A90 v88.length c91] 31 (0, 0)), pts b94 (.cells #[.int .i64 ((256 : Nat) : Int)] 3 (0, 0)), mks D, pts b79 (.cells #[.slice Aq81p0_l3 q81p0_l3.length cq81p0_l3] 31 (0, 0)), osl 5 (r0 (.int .u8)) 1 Aq81p0_l3 cq81p0_l3 q81p0_l3, pts b83 (.cells #[.int .i64 q85p0_l3] 3 (0, 0))] → image_Build.l3 v88 k o_rg q81p0_l3 q85p0_l3 = some out → RgK X o_rg w := by
  intro k
  induction k with
  | zero => intro o_rg q81p0_l3 q85p0_l3 Aq81p0_l3 cq81p0_l3 w hS H; exact absurd (show none = some out from H) (by simp)
  | succ k ih =>
    intro o_rg q81p0_l3 q85p0_l3 Aq81p0_l3 cq81p0_l3 w hS H
    unfold image_Build.l3 at H
    by_cases hb : o_rg < v88.length
    ·rw [if_pos hb] at H
     have R97 : rdS (r0 (.int .u8)) 1 (hp w0) (some (adr A90 o_rg 1)) (min 256 (v88.length - o_rg)) ((v88.drop o_rg).take 256) := rdS.chunk R92 hb kr
     refine RgK.go' hX kr hS hb (chv_eq A90 v88 o_rg 256) (fun w hS => ?_)
     refine WC.reg [0] kr kr ?_
     refine WR.runk [0] [] [10, 12, 15] (L' := [(10, .pointer (some ⟨b79, 0, none⟩)), (12, .pointer (some ⟨b83, 0, none⟩)), (15, .slice (some (adr A90 o_rg 1)) ((v88.drop o_rg).take 256).length (min 256 (v88.length - o_rg)))]) (w' := w) kr ?_
     refine WR.nil ?_
     refine At.begin' hX hS (fun w98 hS => ?_)
     refine WC.block kr ?_
     refine WC.seq kr ?_
     refine WC.reg [0, 1, 2, 3, 4, 5, 6, 7] kr kr ?_
     refine WR.runk [] [0, 1, 2, 3, 4, 5, 6, 7] [10, 12, 15] (L' := [(10, .pointer (some ⟨b79, 0, none⟩)), (12, .pointer (some ⟨b83, 0, none⟩)), (15, .slice (some (adr A90 o_rg 1)) ((v88.drop o_rg).take 256).length (min 256 (v88.length - o_rg)))]) (w' := w98) kr ?_
     refine WR.st (St.ofR (RSt.loadObj (t := 3) (k := 0) (v := .int .i64 q85p0_l3) (.tmp 12) kr kr kr 6 hS rfl kr rfl ?_))
     refine WR.runk [1] [2, 3, 4, 5, 6, 7] [10, 12, 66, 67] (L' := [(10, .pointer (some ⟨b79, 0, none⟩)), (12, .pointer (some ⟨b83, 0, none⟩)), (66, .int .i64 q85p0_l3), (67, .slice (some (adr A90 o_rg 1)) ((v88.drop o_rg).take 256).length (min 256 (v88.length - o_rg)))]) (w' := w98) kr ?_
     obtain ⟨r99, e100, H⟩ := bind_ex H
     refine WR.st (St.call kr (f := 27) (args := #[.int .i64 q85p0_l3, .slice (some (adr A90 o_rg 1)) ((v88.drop o_rg).take 256).length (min 256 (v88.length - o_rg))]) kr (page_Put.calls w98 q85p0_l3 (some (adr A90 o_rg 1)) (min 256 (v88.length - o_rg)) ((v88.drop o_rg).take 256) (rdS.up R97 hS.sub0) r99 e100) ?_)
     rintro _ w106 ⟨A108, c109, rfl, hS107⟩
     have hS : Sat w106 (rf w0) [osl 5 (r0 (.int .u8)) 1 A108 c109 r99.1, pts l (X.ob .busy none), pts b93 (.cells #[.slice A90 v88.length c91] 31 (0, 0)), pts b94 (.cells #[.int .i64 ((256 : Nat) : Int)] 3 (0, 0)), mks D, pts b79 (.cells #[.slice Aq81p0_l3 q81p0_l3.length cq81p0_l3] 31 (0, 0)), osl 5 (r0 (.int .u8)) 1 Aq81p0_l3 cq81p0_l3 q81p0_l3, pts b83 (.cells #[.int .i64 q85p0_l3] 3 (0, 0))] := hS.ext hS107
     refine WR.runk [3, 4, 5, 6, 7] [] [10, 12, 16] (L' := [(10, .pointer (some ⟨b79, 0, none⟩)), (12, .pointer (some ⟨b83, 0, none⟩)), (16, .slice A108 r99.1.length c109)]) (w' := w106) kr ?_
     refine WR.nil ?_
     refine At.go ?_
     refine WC.seq kr ?_
     refine WC.reg [0, 1, 2, 3] kr kr ?_
     refine WR.st (St.ofR (RSt.loadObj (t := 31) (k := 0) (v := .slice Aq81p0_l3 q81p0_l3.length cq81p0_l3) (.tmp 10) kr kr kr 5 hS rfl kr rfl ?_))
     refine WR.runk [1] [2, 3] [10, 12, 71, 72] (L' := [(10, .pointer (some ⟨b79, 0, none⟩)), (12, .pointer (some ⟨b83, 0, none⟩)), (71, .slice Aq81p0_l3 q81p0_l3.length cq81p0_l3), (72, .slice A108 r99.1.length c109)]) (w' := w106) kr ?_
     have hS : Sat w106 (rf w0) [osl 5 (r0 (.int .u8)) 1 Aq81p0_l3 cq81p0_l3 q81p0_l3, osl 5 (r0 (.int .u8)) 1 A108 c109 r99.1, pts l (X.ob .busy none), pts b93 (.cells #[.slice A90 v88.length c91] 31 (0, 0)), pts b94 (.cells #[.int .i64 ((256 : Nat) : Int)] 3 (0, 0)), mks D, pts b79 (.cells #[.slice Aq81p0_l3 q81p0_l3.length cq81p0_l3] 31 (0, 0)), pts b83 (.cells #[.int .i64 q85p0_l3] 3 (0, 0))] := hS.sel [6, 0, 1, 2, 3, 4, 5, 7] kr
     obtain ⟨y111, e110, H⟩ := bind_ex H
     refine WR.st (St.append' (.tmp 71) (.tmp 72) kr kr E31 (r0_one _) hS kr kr (Sat.rdAt 1 hS rfl) 140737488355328 kr kr e110 (fun A112 c113 w114 hS => ?_))
     refine WR.runk [] [3] [10, 12, 73] (L' := [(10, .pointer (some ⟨b79, 0, none⟩)), (12, .pointer (some ⟨b83, 0, none⟩)), (73, .slice A112 y111.length c113)]) (w' := w114) kr ?_
     have hS : Sat w114 (rf w0) [pts b79 (.cells #[.slice Aq81p0_l3 q81p0_l3.length cq81p0_l3] 31 (0, 0)), osl 5 (r0 (.int .u8)) 1 A112 c113 y111, osl 5 (r0 (.int .u8)) 1 A108 c109 r99.1, pts l (X.ob .busy none), pts b93 (.cells #[.slice A90 v88.length c91] 31 (0, 0)), pts b94 (.cells #[.int .i64 ((256 : Nat) : Int)] 3 (0, 0)), mks D, pts b83 (.cells #[.int .i64 q85p0_l3] 3 (0, 0))] := hS.sel [6, 0, 1, 2, 3, 4, 5, 7] kr
     refine WR.st (St.storeObj (t := 31) (k := 0) (cur' := #[.slice A112 y111.length c113]) (.tmp 10) (.tmp 73) kr kr kr hS kr kr kr rfl rfl (fun w115 hS => ?_))
     refine WR.runk [] [] [12] (L' := [(12, .pointer (some ⟨b83, 0, none⟩))]) (w' := w115) kr ?_
     refine WR.nil ?_
     refine At.go ?_
     refine WC.reg [0, 1, 2] kr kr ?_
     refine WR.st (St.ofR (RSt.loadObj (t := 3) (k := 0) (v := .int .i64 q85p0_l3) (.tmp 12) kr kr kr 7 hS rfl kr rfl ?_))
     refine WR.runk [1] [2] [12, 75] (L' := [(12, .pointer (some ⟨b83, 0, none⟩)), (75, .int .i64 (wi (q85p0_l3 + 1)))]) (w' := w115) kr ?_
     have hS : Sat w115 (rf w0) [pts b83 (.cells #[.int .i64 q85p0_l3] 3 (0, 0)), pts b79 (.cells #[.slice A112 y111.length c113] 31 (0, 0)), osl 5 (r0 (.int .u8)) 1 A112 c113 y111, osl 5 (r0 (.int .u8)) 1 A108 c109 r99.1, pts l (X.ob .busy none), pts b93 (.cells #[.slice A90 v88.length c91] 31 (0, 0)), pts b94 (.cells #[.int .i64 ((256 : Nat) : Int)] 3 (0, 0)), mks D] := hS.sel [7, 0, 1, 2, 3, 4, 5, 6] kr
     refine WR.st (St.storeObj (t := 3) (k := 0) (cur' := #[.int .i64 (wi (q85p0_l3 + 1))]) (.tmp 12) (.tmp 75) kr kr kr hS kr kr kr rfl rfl (fun w116 hS => ?_))
     refine WR.runk [] [] [] (L' := []) (w' := w116) kr ?_
     refine WR.nil ?_
     refine At.blockNormal ?_
     have hS : Sat w116 (rf w0) [pts l (X.ob .busy none), pts b93 (.cells #[.slice A90 v88.length c91] 31 (0, 0)), pts b94 (.cells #[.int .i64 ((256 : Nat) : Int)] 3 (0, 0)), mks D, pts b79 (.cells #[.slice A112 y111.length c113] 31 (0, 0)), osl 5 (r0 (.int .u8)) 1 A112 c113 y111, pts b83 (.cells #[.int .i64 (wi (q85p0_l3 + 1))] 3 (0, 0))] := hS.sel [4, 5, 6, 7, 1, 2, 0] kr
     refine At.endRound' hX hS (fun w117 hS => ?_)
     exact ih (o_rg + 256) y111 (wi (q85p0_l3 + 1)) A112 c113 _ hS H
    ·rw [if_neg hb] at H
     refine RgK.stop' hX hS (by omega) (fun w hS => ?_)
     obtain rfl := Option.some.inj H
     have hS : Sat w (rf w0) [mks D, pts b79 (.cells #[.slice Aq81p0_l3 q81p0_l3.length cq81p0_l3] 31 (0, 0)), osl 5 (r0 (.int .u8)) 1 Aq81p0_l3 cq81p0_l3 q81p0_l3, pts b83 (.cells #[.int .i64 q85p0_l3] 3 (0, 0))] := hS.sel [3, 4, 5, 6] kr
     refine At.weaken [10, 12, 56, 57, 58] (L' := [(10, .pointer (some ⟨b79, 0, none⟩)), (12, .pointer (some ⟨b83, 0, none⟩)), (56, .slice A0 l0.length c0), (57, .int .i64 (l0.length : Int)), (58, .int .i64 x58_l2)]) kr ?_
     exact hn0 Aq81p0_l3 cq81p0_l3 _ hS
theorem image_Build.l2_ok {Q} (w0 : World) (A0 : Option Addr) (c0 : Nat) (l0 : List (List Int)) (b79 : Nat) (b83 : Nat) (R0 : rdS (rd (hp w0) (.slice 5 (.int .u8))) 1 (hp w0) A0 c0 l0) (out : (List Int) × Int) (hn0 : ∀ (Aq81p0_q : Option Addr) (cq81p0_q : Nat) (D_q : List Deferred) (w : World), Sat w (rf w0) [mks D_q, pts b79 (.cells #[.slice Aq81p0_q out.1.length cq81p0_q] 31 (0, 0)), osl 5 (r0 (.int .u8)) 1 Aq81p0_q cq81p0_q out.1, pts b83 (.cells #[.int .i64 out.2] 3 (0, 0))] → At ⟨Q, D_q, none⟩ (.exit 2) 78 [(10, .pointer (some ⟨b79, 0, none⟩))] w) :
    ∀ (k : Nat) (x58_l2 : Int) (q81p0_l2 : List Int) (q85p0_l2 : Int) (Aq81p0_l2 : Option Addr) (cq81p0_l2 : Nat) (D_l2 : List Deferred) (w : World), Sat w (rf w0) [pts b79 (.cells #[.slice Aq81p0_l2 q81p0_l2.length cq81p0_l2] 31 (0, 0)), osl 5 (r0 (.int .u8)) 1 Aq81p0_l2 cq81p0_l2 q81p0_l2, pts b83 (.cells #[.int .i64 q85p0_l2] 3 (0, 0)), mks D_l2] → image_Build.l2 l0 k x58_l2 q81p0_l2 q85p0_l2 = some out → WL Try.prog (cbody (cbody (cr (cl (cr (cr (cr (cr (cr (cr (cr (cr C18)))))))))))) ⟨Q, D_l2, none⟩ 78 [(10, .pointer (some ⟨b79, 0, none⟩)), (12, .pointer (some ⟨b83, 0, none⟩)), (56, .slice A0 l0.length c0), (57, .int .i64 (l0.length : Int)), (58, .int .i64 x58_l2)] w := by
  intro k
  induction k with
  | zero => intro x58_l2 q81p0_l2 q85p0_l2 Aq81p0_l2 cq81p0_l2 D_l2 w hS H; exact absurd (show none = some out from H) (by simp)
  | succ k ih =>
    intro x58_l2 q81p0_l2 q85p0_l2 Aq81p0_l2 cq81p0_l2 D_l2 w hS H
    unfold image_Build.l2 at H
    refine WL.round ?_
    refine WC.seq kr ?_
    refine WC.reg [0] kr kr ?_
    refine WR.runk [0] [] [10, 12, 56, 57, 58, 59] (L' := [(10, .pointer (some ⟨b79, 0, none⟩)), (12, .pointer (some ⟨b83, 0, none⟩)), (56, .slice A0 l0.length c0), (57, .int .i64 (l0.length : Int)), (58, .int .i64 x58_l2), (59, .bool (decide (x58_l2 < (l0.length : Int))))]) (w' := w) kr ?_
    refine WR.nil ?_
    refine At.go ?_
    refine WC.seq kr ?_
    refine WC.cond kr (decide (x58_l2 < (l0.length : Int))) kr kr (fun hb87 => ?_) (fun hb87 => ?_)
    ·replace H := ite_t H hb87
     refine WC.skip kr ?_
     refine At.go ?_
     refine WC.seq kr ?_
     refine WC.block kr ?_
     refine WC.seq kr ?_
     refine WC.reg [0, 1, 2] kr kr ?_
     refine WR.runk [] [0, 1, 2] [10, 12, 56, 57, 58] (L' := [(10, .pointer (some ⟨b79, 0, none⟩)), (12, .pointer (some ⟨b83, 0, none⟩)), (56, .slice A0 l0.length c0), (57, .int .i64 (l0.length : Int)), (58, .int .i64 x58_l2)]) (w' := w) kr ?_
     obtain ⟨v88, e89, H⟩ := bind_ex H
     refine WR.st (St.ofP (PSt.idx (k := .i64) (.tmp 56) (.tmp 58) kr kr E71 kr kr (rdS.up R0 hS.sub0) e89 ?_))
     refine WR.runk [] [1, 2] [10, 12, 56, 57, 58, 60] (L' := [(10, .pointer (some ⟨b79, 0, none⟩)), (12, .pointer (some ⟨b83, 0, none⟩)), (56, .slice A0 l0.length c0), (57, .int .i64 (l0.length : Int)), (58, .int .i64 x58_l2), (60, .pointer (some (adr A0 x58_l2.toNat 1)))]) (w' := w) kr ?_
     refine WR.st (St.ofR (RSt.loadSl (t := 31) (.tmp 60) kr kr kr kr R0 e89 hS.sub0 (fun A90 c91 R92 => ?_)))
     replace R92 : rdS (r0 (.int .u8)) 1 (hp w0) A90 c91 v88 := R92
     refine WR.runk [2] [] [10, 12, 14, 56, 57, 58] (L' := [(10, .pointer (some ⟨b79, 0, none⟩)), (12, .pointer (some ⟨b83, 0, none⟩)), (14, .slice A90 v88.length c91), (56, .slice A0 l0.length c0), (57, .int .i64 (l0.length : Int)), (58, .int .i64 x58_l2)]) (w' := w) kr ?_
     refine WR.nil ?_
     refine At.go ?_
     refine WC.seq kr ?_
     refine WC.reg [0, 1] kr kr ?_
     refine WR.runk [0] [1] [10, 12, 56, 57, 58, 62] (L' := [(10, .pointer (some ⟨b79, 0, none⟩)), (12, .pointer (some ⟨b83, 0, none⟩)), (56, .slice A0 l0.length c0), (57, .int .i64 (l0.length : Int)), (58, .int .i64 x58_l2), (62, .slice A90 v88.length c91)]) (w' := w) kr ?_
     refine WR.st (St.call kr (f := 28) (args := #[.slice A90 v88.length c91, .int .i64 ((256 : Nat) : Int)]) kr (chunk_calls w A90 c91 v88.length ((256 : Nat) : Int) (by decide)) ?_)
     rintro _ w95 ⟨b93, b94, rfl, hS96⟩
     have hS : Sat w95 (rf w0) [pts b93 (.cells #[.slice A90 v88.length c91] 31 (0, 0)), pts b94 (.cells #[.int .i64 ((256 : Nat) : Int)] 3 (0, 0)), pts b79 (.cells #[.slice Aq81p0_l2 q81p0_l2.length cq81p0_l2] 31 (0, 0)), osl 5 (r0 (.int .u8)) 1 Aq81p0_l2 cq81p0_l2 q81p0_l2, pts b83 (.cells #[.int .i64 q85p0_l2] 3 (0, 0)), mks D_l2] := hS.ext hS96
     refine WR.runk [] [] [10, 12, 56, 57, 58, 63] (L' := [(10, .pointer (some ⟨b79, 0, none⟩)), (12, .pointer (some ⟨b83, 0, none⟩)), (56, .slice A0 l0.length c0), (57, .int .i64 (l0.length : Int)), (58, .int .i64 x58_l2), (63, .func (.func 39) #[] #[.pointer (some ⟨b93, 0, none⟩), .pointer (some ⟨b94, 0, none⟩)])]) (w' := w95) kr ?_
     refine WR.nil ?_
     refine At.go ?_
     refine WC.block kr ?_
     have hS : Sat w95 (rf w0) [mks D_l2, pts b93 (.cells #[.slice A90 v88.length c91] 31 (0, 0)), pts b94 (.cells #[.int .i64 ((256 : Nat) : Int)] 3 (0, 0)), pts b79 (.cells #[.slice Aq81p0_l2 q81p0_l2.length cq81p0_l2] 31 (0, 0)), osl 5 (r0 (.int .u8)) 1 Aq81p0_l2 cq81p0_l2 q81p0_l2, pts b83 (.cells #[.int .i64 q85p0_l2] 3 (0, 0))] := hS.sel [5, 0, 1, 2, 3, 4] kr
     obtain ⟨_, e120, H⟩ := bind_ex H
     obtain ⟨o118, e119, H⟩ := bind_ex H
     refine WC.weaken [10, 12, 56, 57, 58, 63] (L' := [(10, .pointer (some ⟨b79, 0, none⟩)), (12, .pointer (some ⟨b83, 0, none⟩)), (56, .slice A0 l0.length c0), (57, .int .i64 (l0.length : Int)), (58, .int .i64 x58_l2), (63, .func (.func 39) #[] #[.pointer (some ⟨b93, 0, none⟩), .pointer (some ⟨b94, 0, none⟩)])]) kr ?_
     refine WC.range (sz := 256) 64 kr kr kr kr chunk_enters chunk_it kr kr (of_decide_eq_true (chk?_some e120)) (rdS.nz R92) (And.left R92) hS (fun T126 l127 r128 fn129 D121 X130 w122 hX131 hS => ?_)
     refine image_Build.l3_ok w0 A0 c0 l0 b79 b83 x58_l2 v88 A90 c91 b93 b94 R92 T126 l127 r128 fn129 D121 X130 hX131 o118 (fun Aq81p0_q123 cq81p0_q123 w124 hS => ?_) FU 0 q81p0_l2 q85p0_l2 Aq81p0_l2 cq81p0_l2 _ hS e119
     refine At.blockNormal ?_
     refine At.blockNormal ?_
     refine At.go ?_
     refine WC.reg [0, 1] kr kr ?_
     refine WR.runk [0, 1] [] [10, 12, 56, 57, 58] (L' := [(10, .pointer (some ⟨b79, 0, none⟩)), (12, .pointer (some ⟨b83, 0, none⟩)), (56, .slice A0 l0.length c0), (57, .int .i64 (l0.length : Int)), (58, .int .i64 (wi (x58_l2 + 1)))]) (w' := w124) kr ?_
     refine WR.nil ?_
     have hS : Sat w124 (rf w0) [pts b79 (.cells #[.slice Aq81p0_q123 o118.1.length cq81p0_q123] 31 (0, 0)), osl 5 (r0 (.int .u8)) 1 Aq81p0_q123 cq81p0_q123 o118.1, pts b83 (.cells #[.int .i64 o118.2] 3 (0, 0)), mks D121] := hS.sel [1, 2, 3, 0] kr
     refine At.again ?_
     refine WL.weaken [10, 12, 56, 57, 58] (L' := [(10, .pointer (some ⟨b79, 0, none⟩)), (12, .pointer (some ⟨b83, 0, none⟩)), (56, .slice A0 l0.length c0), (57, .int .i64 (l0.length : Int)), (58, .int .i64 (wi (x58_l2 + 1)))]) kr ?_
     exact ih (wi (x58_l2 + 1)) o118.1 o118.2 Aq81p0_q123 cq81p0_q123 D121 _ hS H
    ·replace H := ite_f H hb87
     refine WC.exit kr ?_
     refine At.thenExit ?_
     refine At.thenExit ?_
     obtain rfl := Option.some.inj H
     have hS : Sat w (rf w0) [mks D_l2, pts b79 (.cells #[.slice Aq81p0_l2 q81p0_l2.length cq81p0_l2] 31 (0, 0)), osl 5 (r0 (.int .u8)) 1 Aq81p0_l2 cq81p0_l2 q81p0_l2, pts b83 (.cells #[.int .i64 q85p0_l2] 3 (0, 0))] := hS.sel [3, 0, 1, 2] kr
     refine At.weaken [10] (L' := [(10, .pointer (some ⟨b79, 0, none⟩))]) kr ?_
     exact hn0 Aq81p0_l2 cq81p0_l2 D_l2 _ hS
theorem image_Build.calls (w0 : World) (A0 : Option Addr) (c0 : Nat) (l0 : List (List Int)) (R0 : rdS (rd (hp w0) (.slice 5 (.int .u8))) 1 (hp w0) A0 c0 l0) (r : (List Int) × Int) (H : image_Build.f l0 = some r) :
    Calls Try.prog 18 #[.slice A0 l0.length c0] w0 (fun e w' => ∃ v, e = .returned v ∧ image_Build.post w0 r v w') := by
  have hS : Sat w0 (rf w0) [] := Sat.start w0
  unfold image_Build.f at H
  refine calls_of_WCM (vs := [.slice A0 l0.length c0]) Try.func18 (c := C18) (n := 78) kr kr kr ?_
  have hS := Sat.mksNil hS
  refine WC.seq kr ?_
  refine WC.reg [0, 1] kr kr ?_
  refine WR.runk [0, 1] [] [0] (L' := [(0, .slice A0 l0.length c0)]) (w' := w0) kr ?_
  refine WR.nil ?_
  refine At.go ?_
  refine WC.seq kr ?_
  refine WC.seq kr ?_
  refine WC.reg [0, 1, 2] kr kr ?_
  refine WR.runk [0, 1, 2] [] [0, 20] (L' := [(0, .slice A0 l0.length c0), (20, .bool (decide ((l0.length : Int) > 60)))]) (w' := w0) kr ?_
  refine WR.nil ?_
  refine At.go ?_
  refine WC.cond kr (decide ((l0.length : Int) > 60)) kr kr (fun hb1 => ?_) (fun hb1 => ?_)
  ·replace H := ite_t H hb1
   refine WC.seq kr ?_
   refine WC.reg [0, 1] kr kr ?_
   refine WR.runk [0, 1] [] [2, 3] (L' := [(2, .slice none 0 0), (3, .int .i64 80)]) (w' := w0) kr ?_
   refine WR.nil ?_
   refine At.go ?_
   refine WC.ret kr ?_
   refine At.thenRet ?_
   obtain rfl := Option.some.inj H
   have hS := hS.addNil (α := Int) 5 (r0 (.int .u8)) 1
   have hS : Sat w0 (rf w0) [mks [], osl 5 (r0 (.int .u8)) 1 none 0 ([] : List Int)] := hS.sel [1, 0] kr
   exact At.bodyMv [.slice none 0 0, .int .i64 80] kr hS (fun w hS => ⟨_, rfl, _, _, rfl, hS⟩)
  ·replace H := ite_f H hb1
   refine WC.skip kr ?_
   refine At.go ?_
   refine WC.seq kr ?_
   refine WC.reg [0, 1, 2, 3, 4, 5, 6] kr kr ?_
   refine WR.runk [] [0, 1, 2, 3, 4, 5, 6] [0] (L' := [(0, .slice A0 l0.length c0)]) (w' := w0) kr ?_
   refine WR.st (St.box hS kr (.cells #[.int .u8 99, .int .u8 111, .int .u8 108, .int .u8 111] 5) (fun b2 => .slice (some ⟨b2, 0, none⟩) 4 4) (fun _ => by kernel_rfl) (fun b2 w3 hS => ?_))
   refine WR.runk [] [1, 2, 3, 4, 5, 6] [0, 21] (L' := [(0, .slice A0 l0.length c0), (21, .slice (some ⟨b2, 0, none⟩) 4 4)]) (w' := w3) kr ?_
   refine WR.st (St.mark (t := 31) (e := 5) (m := 4) (cp := 4) (.tmp 21) kr kr kr kr hS kr (fun w4 hS => ?_))
   refine WR.runk [2, 3] [4, 5, 6] [0, 22, 24] (L' := [(0, .slice A0 l0.length c0), (22, .slice (some ⟨b2, 0, none⟩) 4 4), (24, .int .i64 (l0.length : Int))]) (w' := w4) kr ?_
   obtain ⟨r5, e6, H⟩ := bind_ex H
   refine WR.st (St.call kr (f := 25) (args := #[.int .i64 (l0.length : Int), .int .i64 2]) kr (image_little.calls w4 (l0.length : Int) 2 r5 e6) ?_)
   rintro _ w12 ⟨A14, c15, rfl, hS13⟩
   have hS : Sat w12 (rf w0) [osl 5 (r0 (.int .u8)) 1 A14 c15 r5, pts b2 (.cells #[.int .u8 99, .int .u8 111, .int .u8 108, .int .u8 111] 5 (4, 5)), mks []] := hS.ext hS13
   refine WR.runk [] [5, 6] [0, 22, 25] (L' := [(0, .slice A0 l0.length c0), (22, .slice (some ⟨b2, 0, none⟩) 4 4), (25, .slice A14 r5.length c15)]) (w' := w12) kr ?_
   obtain ⟨_, e17, H⟩ := bind_ex H
   obtain ⟨y18, e16, H⟩ := bind_ex H
   refine WR.st (St.appendNew (.tmp 22) (.tmp 25) kr kr E31 hS kr kr (Sat.ptsAt 1 (r0 (.int .u8)) 1 ([99, 111, 108, 111] : List Int) hS rfl rfl (rdL.cons1 rfl (rdL.cons1 rfl (rdL.cons1 rfl (rdL.cons1 rfl (rdL.nil _ _)))))) (Sat.rdAt 0 hS rfl) e17 140737488355328 kr kr e16 (fun A19 c20 w21 hS => ?_))
   refine WR.runk [6] [] [0, 4] (L' := [(0, .slice A0 l0.length c0), (4, .slice A19 y18.length c20)]) (w' := w21) kr ?_
   refine WR.nil ?_
   refine At.go ?_
   refine WC.seq kr ?_
   refine WC.reg [0] kr kr ?_
   refine WR.runk [0] [] [0, 4, 5] (L' := [(0, .slice A0 l0.length c0), (4, .slice A19 y18.length c20), (5, .slice none 0 0)]) (w' := w21) kr ?_
   refine WR.nil ?_
   refine At.go ?_
   refine WC.seq kr ?_
   refine WC.seq kr ?_
   refine WC.reg [0, 1, 2] kr kr ?_
   refine WR.runk [0, 1, 2] [] [0, 4, 5, 27, 28, 29] (L' := [(0, .slice A0 l0.length c0), (4, .slice A19 y18.length c20), (5, .slice none 0 0), (27, .slice A0 l0.length c0), (28, .int .i64 (l0.length : Int)), (29, .int .i64 0)]) (w' := w21) kr ?_
   refine WR.nil ?_
   refine At.go ?_
   refine WC.block kr ?_
   have hS := hS.addNil (α := Int) 3 (r0 (.int .i64)) 1
   have hS : Sat w21 (rf w0) [osl 5 (r0 (.int .u8)) 1 A19 c20 y18, osl 3 (r0 (.int .i64)) 1 none 0 ([] : List Int), mks []] := hS.sel [1, 0, 4] kr
   obtain ⟨o51, e52, H⟩ := bind_ex H
   refine WC.loop kr ?_
   refine WL.weaken [0, 4, 5, 27, 28, 29] (L' := [(0, .slice A0 l0.length c0), (4, .slice A19 y18.length c20), (5, .slice none 0 0), (27, .slice A0 l0.length c0), (28, .int .i64 (l0.length : Int)), (29, .int .i64 0)]) kr ?_
   refine image_Build.l1_ok w0 A0 c0 l0 R0 o51 (fun A4_q53 c4_q53 A5_q53 c5_q53 D_q53 w54 hS => ?_) FU y18 ([] : List Int) 0 A19 c20 none 0 [] _ hS e52
   refine At.hit ?_
   refine At.go ?_
   refine WC.seq kr ?_
   refine WC.seq kr ?_
   refine WC.reg [0, 1, 2, 3, 4, 5, 6] kr kr ?_
   refine WR.runk [0] [1, 2, 3, 4, 5, 6] [0, 4, 45] (L' := [(0, .slice A0 l0.length c0), (4, .slice A4_q53 o51.1.length c4_q53), (45, .slice A5_q53 o51.2.length c5_q53)]) (w' := w54) kr ?_
   obtain ⟨r56, e57, H⟩ := bind_ex H
   refine WR.st (St.call kr (f := 26) (args := #[.slice A5_q53 o51.2.length c5_q53]) kr (image_plan.calls w54 A5_q53 c5_q53 o51.2 (Sat.rdAt 2 hS rfl) r56 e57) ?_)
   rintro _ w63 ⟨A65, c66, rfl, hS64⟩
   have hS : Sat w63 (rf w0) [osl 3 (r0 (.int .i64)) 1 A65 c66 r56.1, mks D_q53, osl 5 (r0 (.int .u8)) 1 A4_q53 c4_q53 o51.1, osl 3 (r0 (.int .i64)) 1 A5_q53 c5_q53 o51.2] := hS.ext hS64
   refine WR.runk [2, 3, 4, 5, 6] [] [0, 4, 9] (L' := [(0, .slice A0 l0.length c0), (4, .slice A4_q53 o51.1.length c4_q53), (9, .int .i64 r56.2)]) (w' := w63) kr ?_
   refine WR.nil ?_
   refine At.go ?_
   refine WC.seq kr ?_
   refine WC.reg [0, 1] kr kr ?_
   refine WR.runk [0, 1] [] [0, 4, 50] (L' := [(0, .slice A0 l0.length c0), (4, .slice A4_q53 o51.1.length c4_q53), (50, .bool (decide (r56.2 > 4096)))]) (w' := w63) kr ?_
   refine WR.nil ?_
   refine At.go ?_
   refine WC.cond kr (decide (r56.2 > 4096)) kr kr (fun hb67 => ?_) (fun hb67 => ?_)
   ·replace H := ite_t H hb67
    refine WC.seq kr ?_
    refine WC.reg [0, 1] kr kr ?_
    refine WR.runk [0, 1] [] [2, 3] (L' := [(2, .slice none 0 0), (3, .int .i64 80)]) (w' := w63) kr ?_
    refine WR.nil ?_
    refine At.go ?_
    refine WC.ret kr ?_
    refine At.thenRet ?_
    obtain rfl := Option.some.inj H
    have hS := hS.addNil (α := Int) 5 (r0 (.int .u8)) 1
    have hS : Sat w63 (rf w0) [mks D_q53, osl 5 (r0 (.int .u8)) 1 none 0 ([] : List Int)] := hS.sel [2, 0] kr
    exact At.bodyMv [.slice none 0 0, .int .i64 80] kr hS (fun w hS => ⟨_, rfl, _, _, rfl, hS⟩)
   ·replace H := ite_f H hb67
    refine WC.skip kr ?_
    refine At.go ?_
    refine WC.seq kr ?_
    refine WC.reg [0, 1, 2, 3, 4, 5, 6, 7] kr kr ?_
    refine WR.runk [0] [1, 2, 3, 4, 5, 6, 7] [0, 52] (L' := [(0, .slice A0 l0.length c0), (52, .slice A4_q53 o51.1.length c4_q53)]) (w' := w63) kr ?_
    obtain ⟨r68, e69, H⟩ := bind_ex H
    refine WR.st (St.call kr (f := 27) (args := #[.int .i64 0, .slice A4_q53 o51.1.length c4_q53]) kr (page_Put.calls w63 0 A4_q53 c4_q53 o51.1 (Sat.rdAt 2 hS rfl) r68 e69) ?_)
    rintro _ w75 ⟨A77, c78, rfl, hS76⟩
    have hS : Sat w75 (rf w0) [osl 5 (r0 (.int .u8)) 1 A77 c78 r68.1, osl 3 (r0 (.int .i64)) 1 A65 c66 r56.1, mks D_q53, osl 5 (r0 (.int .u8)) 1 A4_q53 c4_q53 o51.1, osl 3 (r0 (.int .i64)) 1 A5_q53 c5_q53 o51.2] := hS.ext hS76
    refine WR.runk [2, 3, 4] [5, 6, 7] [0, 54, 55] (L' := [(0, .slice A0 l0.length c0), (54, .slice A77 r68.1.length c78), (55, .int .i64 r68.2)]) (w' := w75) kr ?_
    refine WR.st (St.box hS kr (.cells #[.slice none 0 0] 31) (fun b79 => .pointer (some ⟨b79, 0, none⟩)) (fun _ => by kernel_rfl) (fun b79 w80 hS => ?_))
    refine WR.runk [] [6, 7] [0, 10, 54, 55] (L' := [(0, .slice A0 l0.length c0), (10, .pointer (some ⟨b79, 0, none⟩)), (54, .slice A77 r68.1.length c78), (55, .int .i64 r68.2)]) (w' := w80) kr ?_
    refine WR.st (St.storeObj (t := 31) (k := 0) (cur' := #[.slice A77 r68.1.length c78]) (.tmp 10) (.tmp 54) kr kr kr hS kr kr kr rfl rfl (fun w82 hS => ?_))
    refine WR.runk [7] [] [0, 10] (L' := [(0, .slice A0 l0.length c0), (10, .pointer (some ⟨b79, 0, none⟩))]) (w' := w82) kr ?_
    refine WR.nil ?_
    refine At.go ?_
    refine WC.seq kr ?_
    refine WC.reg [0, 1] kr kr ?_
    refine WR.st (St.box hS kr (.cells #[.int .i64 0] 3) (fun b83 => .pointer (some ⟨b83, 0, none⟩)) (fun _ => by kernel_rfl) (fun b83 w84 hS => ?_))
    refine WR.runk [] [1] [0, 10, 12] (L' := [(0, .slice A0 l0.length c0), (10, .pointer (some ⟨b79, 0, none⟩)), (12, .pointer (some ⟨b83, 0, none⟩))]) (w' := w84) kr ?_
    refine WR.st (St.storeObj (t := 3) (k := 0) (cur' := #[.int .i64 1]) (.tmp 12) (.const (.int .i64 1)) kr kr kr hS kr kr kr rfl rfl (fun w86 hS => ?_))
    refine WR.runk [] [] [0, 10, 12] (L' := [(0, .slice A0 l0.length c0), (10, .pointer (some ⟨b79, 0, none⟩)), (12, .pointer (some ⟨b83, 0, none⟩))]) (w' := w86) kr ?_
    refine WR.nil ?_
    refine At.go ?_
    refine WC.seq kr ?_
    refine WC.seq kr ?_
    refine WC.reg [0, 1, 2] kr kr ?_
    refine WR.runk [0, 1, 2] [] [10, 12, 56, 57, 58] (L' := [(10, .pointer (some ⟨b79, 0, none⟩)), (12, .pointer (some ⟨b83, 0, none⟩)), (56, .slice A0 l0.length c0), (57, .int .i64 (l0.length : Int)), (58, .int .i64 0)]) (w' := w86) kr ?_
    refine WR.nil ?_
    refine At.go ?_
    refine WC.block kr ?_
    have hS : Sat w86 (rf w0) [pts b79 (.cells #[.slice A77 r68.1.length c78] 31 (0, 0)), osl 5 (r0 (.int .u8)) 1 A77 c78 r68.1, pts b83 (.cells #[.int .i64 1] 3 (0, 0)), mks D_q53] := hS.sel [1, 2, 0, 4] kr
    obtain ⟨o132, e133, H⟩ := bind_ex H
    refine WC.loop kr ?_
    refine WL.weaken [10, 12, 56, 57, 58] (L' := [(10, .pointer (some ⟨b79, 0, none⟩)), (12, .pointer (some ⟨b83, 0, none⟩)), (56, .slice A0 l0.length c0), (57, .int .i64 (l0.length : Int)), (58, .int .i64 0)]) kr ?_
    refine image_Build.l2_ok w0 A0 c0 l0 b79 b83 R0 o132 (fun Aq81p0_q134 cq81p0_q134 D_q134 w135 hS => ?_) FU 0 r68.1 1 A77 c78 D_q53 _ hS e133
    refine At.hit ?_
    refine At.go ?_
    refine WC.seq kr ?_
    refine WC.reg [0, 1, 2] kr kr ?_
    refine WR.runk [] [0, 1, 2] [10] (L' := [(10, .pointer (some ⟨b79, 0, none⟩))]) (w' := w135) kr ?_
    refine WR.st (St.ofR (RSt.loadObj (t := 31) (k := 0) (v := .slice Aq81p0_q134 o132.1.length cq81p0_q134) (.tmp 10) kr kr kr 1 hS rfl kr rfl ?_))
    refine WR.runk [1, 2] [] [2, 3] (L' := [(2, .slice Aq81p0_q134 o132.1.length cq81p0_q134), (3, .int .i64 0)]) (w' := w135) kr ?_
    refine WR.nil ?_
    refine At.go ?_
    refine WC.ret kr ?_
    obtain rfl := Option.some.inj H
    have hS : Sat w135 (rf w0) [mks D_q134, osl 5 (r0 (.int .u8)) 1 Aq81p0_q134 cq81p0_q134 o132.1] := hS.sel [0, 2] kr
    exact At.bodyMv [.slice Aq81p0_q134 o132.1.length cq81p0_q134, .int .i64 0] kr hS (fun w hS => ⟨_, rfl, _, _, rfl, hS⟩)
/-! ### 32 slices.Equal[[]byte,byte] -/
def slices_Equal.l1 (l0 : List Int) (l1 : List Int) : Nat → Int → Option (Sum Bool Unit)
  | 0, _ => none
  | k + 1, x13_l1 => (if decide (x13_l1 < (l0.length : Int)) then ((at? l0 x13_l1).bind fun v5 => ((at? l1 x13_l1).bind fun v7 => (if (v5 != v7) then some (.inl false) else slices_Equal.l1 l0 l1 k (wi (x13_l1 + 1))))) else some (.inr ()))
def slices_Equal.f (l0 : List Int) (l1 : List Int) : Option Bool := (if ((l0.length : Int) != (l1.length : Int)) then some false else ((slices_Equal.l1 l0 l1 FU 0).bind fun o10 => (match o10 with | .inl o12 => some o12 | .inr o16 => some true)))
def slices_Equal.post (w : World) (r : Bool) (v : Value) (w' : World) : Prop := v = (.bool r : Value) ∧ Sat w' (rf w) []
theorem slices_Equal.l1_ok {Q} (w0 : World) (A0 : Option Addr) (c0 : Nat) (l0 : List Int) (A1 : Option Addr) (c1 : Nat) (l1 : List Int) (R0 : rdS (r0 (.int .u8)) 1 (hp w0) A0 c0 l0) (R1 : rdS (r0 (.int .u8)) 1 (hp w0) A1 c1 l1) (out : Sum Bool Unit) (hn0 : ∀ (o0 : Bool) (w : World), out = (.inl o0) → Sat w (rf w0) [] → At Q .ret 26 [(4, .bool o0)] w) (hn1 : ∀ (o1 : Unit) (w : World), out = (.inr o1) → Sat w (rf w0) [] → At Q (.exit 0) 26 [] w) :
    ∀ (k : Nat) (x13_l1 : Int) (w : World), Sat w (rf w0) [] → slices_Equal.l1 l0 l1 k x13_l1 = some out → WL Try.prog (cbody (cbody (cr (cl (cr (cr C32)))))) Q 26 [(0, .slice A0 l0.length c0), (1, .slice A1 l1.length c1), (12, .int .i64 (l0.length : Int)), (13, .int .i64 x13_l1)] w := by
  intro k
  induction k with
  | zero => intro x13_l1 w hS H; exact absurd (show none = some out from H) (by simp)
  | succ k ih =>
    intro x13_l1 w hS H
    unfold slices_Equal.l1 at H
    refine WL.round ?_
    refine WC.seq kr ?_
    refine WC.reg [0] kr kr ?_
    refine WR.runk [0] [] [0, 1, 12, 13, 14] (L' := [(0, .slice A0 l0.length c0), (1, .slice A1 l1.length c1), (12, .int .i64 (l0.length : Int)), (13, .int .i64 x13_l1), (14, .bool (decide (x13_l1 < (l0.length : Int))))]) (w' := w) kr ?_
    refine WR.nil ?_
    refine At.go ?_
    refine WC.seq kr ?_
    refine WC.cond kr (decide (x13_l1 < (l0.length : Int))) kr kr (fun hb2 => ?_) (fun hb2 => ?_)
    ·replace H := ite_t H hb2
     refine WC.skip kr ?_
     refine At.go ?_
     refine WC.seq kr ?_
     refine WC.block kr ?_
     refine WC.seq kr ?_
     refine WC.reg [0, 1] kr kr ?_
     refine WR.runk [0, 1] [] [0, 1, 5, 12, 13] (L' := [(0, .slice A0 l0.length c0), (1, .slice A1 l1.length c1), (5, .int .i64 x13_l1), (12, .int .i64 (l0.length : Int)), (13, .int .i64 x13_l1)]) (w' := w) kr ?_
     refine WR.nil ?_
     refine At.go ?_
     refine WC.seq kr ?_
     refine WC.drawn kr kr 9 kr (fun w3 hw4 => ?_)
     have hS := hS.heap hw4.1 hw4.2
     refine WD.weaken [0, 1, 5, 12, 13] (L' := [(0, .slice A0 l0.length c0), (1, .slice A1 l1.length c1), (5, .int .i64 x13_l1), (12, .int .i64 (l0.length : Int)), (13, .int .i64 x13_l1)]) kr ?_
     refine WD.pure (i := 0) (v := .slice A0 l0.length c0) kr kr (fun _ => by kernel_rfl) ?_
     refine WD.weaken [0, 1, 5, 12, 13, 16] (L' := [(0, .slice A0 l0.length c0), (1, .slice A1 l1.length c1), (5, .int .i64 x13_l1), (12, .int .i64 (l0.length : Int)), (13, .int .i64 x13_l1), (16, .slice A0 l0.length c0)]) kr ?_
     refine WD.pure (i := 1) (v := .int .i64 x13_l1) kr kr (fun _ => by kernel_rfl) ?_
     refine WD.weaken [0, 1, 5, 12, 13, 16, 17] (L' := [(0, .slice A0 l0.length c0), (1, .slice A1 l1.length c1), (5, .int .i64 x13_l1), (12, .int .i64 (l0.length : Int)), (13, .int .i64 x13_l1), (16, .slice A0 l0.length c0), (17, .int .i64 x13_l1)]) kr ?_
     obtain ⟨v5, e6, H⟩ := bind_ex H
     refine WD.ofP (i := 2) kr (PSt.idx (k := .i64) (.tmp 16) (.tmp 17) kr kr E31 kr kr (rdS.up R0 hS.sub0) e6 ?_)
     refine WD.weaken [0, 1, 5, 12, 13, 18] (L' := [(0, .slice A0 l0.length c0), (1, .slice A1 l1.length c1), (5, .int .i64 x13_l1), (12, .int .i64 (l0.length : Int)), (13, .int .i64 x13_l1), (18, .pointer (some (adr A0 x13_l1.toNat 1)))]) kr ?_
     refine WD.ofR (i := 3) kr (RSt.loadInt (t := 5) (.tmp 18) kr kr kr kr (rdS.up R0 hS.sub0) e6 ?_)
     refine WD.weaken [0, 1, 5, 12, 13, 19] (L' := [(0, .slice A0 l0.length c0), (1, .slice A1 l1.length c1), (5, .int .i64 x13_l1), (12, .int .i64 (l0.length : Int)), (13, .int .i64 x13_l1), (19, .int .u8 v5)]) kr ?_
     refine WD.pure (i := 4) (v := .slice A1 l1.length c1) kr kr (fun _ => by kernel_rfl) ?_
     refine WD.weaken [0, 1, 5, 12, 13, 19, 20] (L' := [(0, .slice A0 l0.length c0), (1, .slice A1 l1.length c1), (5, .int .i64 x13_l1), (12, .int .i64 (l0.length : Int)), (13, .int .i64 x13_l1), (19, .int .u8 v5), (20, .slice A1 l1.length c1)]) kr ?_
     refine WD.pure (i := 5) (v := .int .i64 x13_l1) kr kr (fun _ => by kernel_rfl) ?_
     refine WD.weaken [0, 1, 12, 13, 19, 20, 21] (L' := [(0, .slice A0 l0.length c0), (1, .slice A1 l1.length c1), (12, .int .i64 (l0.length : Int)), (13, .int .i64 x13_l1), (19, .int .u8 v5), (20, .slice A1 l1.length c1), (21, .int .i64 x13_l1)]) kr ?_
     obtain ⟨v7, e8, H⟩ := bind_ex H
     refine WD.ofP (i := 6) kr (PSt.idx (k := .i64) (.tmp 20) (.tmp 21) kr kr E31 kr kr (rdS.up R1 hS.sub0) e8 ?_)
     refine WD.weaken [0, 1, 12, 13, 19, 22] (L' := [(0, .slice A0 l0.length c0), (1, .slice A1 l1.length c1), (12, .int .i64 (l0.length : Int)), (13, .int .i64 x13_l1), (19, .int .u8 v5), (22, .pointer (some (adr A1 x13_l1.toNat 1)))]) kr ?_
     refine WD.ofR (i := 7) kr (RSt.loadInt (t := 5) (.tmp 22) kr kr kr kr (rdS.up R1 hS.sub0) e8 ?_)
     refine WD.weaken [0, 1, 12, 13, 19, 23] (L' := [(0, .slice A0 l0.length c0), (1, .slice A1 l1.length c1), (12, .int .i64 (l0.length : Int)), (13, .int .i64 x13_l1), (19, .int .u8 v5), (23, .int .u8 v7)]) kr ?_
     refine WD.pure (i := 8) (v := .bool (v5 != v7)) kr kr (fun _ => by kernel_rfl) ?_
     refine WD.weaken [0, 1, 12, 13, 24] (L' := [(0, .slice A0 l0.length c0), (1, .slice A1 l1.length c1), (12, .int .i64 (l0.length : Int)), (13, .int .i64 x13_l1), (24, .bool (v5 != v7))]) kr ?_
     refine WD.nil kr ?_
     refine At.go ?_
     refine WC.cond kr (v5 != v7) kr kr (fun hb9 => ?_) (fun hb9 => ?_)
     ·replace H := ite_t H hb9
      refine WC.seq kr ?_
      refine WC.reg [0] kr kr ?_
      refine WR.runk [0] [] [4] (L' := [(4, .bool false)]) (w' := w3) kr ?_
      refine WR.nil ?_
      refine At.go ?_
      refine WC.ret kr ?_
      refine At.blockRet ?_
      refine At.thenRet ?_
      refine At.thenRet ?_
      obtain rfl := Option.some.inj H
      have hS : Sat w3 (rf w0) [] := hS.sel [] kr
      refine At.weaken [4] (L' := [(4, .bool false)]) kr ?_
      exact hn0 false _ rfl hS
     ·replace H := ite_f H hb9
      refine WC.skip kr ?_
      refine At.blockNormal ?_
      refine At.go ?_
      refine WC.reg [0, 1] kr kr ?_
      refine WR.runk [0, 1] [] [0, 1, 12, 13] (L' := [(0, .slice A0 l0.length c0), (1, .slice A1 l1.length c1), (12, .int .i64 (l0.length : Int)), (13, .int .i64 (wi (x13_l1 + 1)))]) (w' := w3) kr ?_
      refine WR.nil ?_
      have hS : Sat w3 (rf w0) [] := hS.sel [] kr
      refine At.again ?_
      refine WL.weaken [0, 1, 12, 13] (L' := [(0, .slice A0 l0.length c0), (1, .slice A1 l1.length c1), (12, .int .i64 (l0.length : Int)), (13, .int .i64 (wi (x13_l1 + 1)))]) kr ?_
      exact ih (wi (x13_l1 + 1)) _ hS H
    ·replace H := ite_f H hb2
     refine WC.exit kr ?_
     refine At.thenExit ?_
     refine At.thenExit ?_
     obtain rfl := Option.some.inj H
     have hS : Sat w (rf w0) [] := hS.sel [] kr
     refine At.weaken [] (L' := []) kr ?_
     exact hn1 () _ rfl hS
theorem slices_Equal.calls (w0 : World) (A0 : Option Addr) (c0 : Nat) (l0 : List Int) (R0 : rdS (r0 (.int .u8)) 1 (hp w0) A0 c0 l0) (A1 : Option Addr) (c1 : Nat) (l1 : List Int) (R1 : rdS (r0 (.int .u8)) 1 (hp w0) A1 c1 l1) (r : Bool) (H : slices_Equal.f l0 l1 = some r) :
    Calls Try.prog 32 #[.slice A0 l0.length c0, .slice A1 l1.length c1] w0 (fun e w' => ∃ v, e = .returned v ∧ slices_Equal.post w0 r v w') := by
  have hS : Sat w0 (rf w0) [] := Sat.start w0
  unfold slices_Equal.f at H
  refine calls_of_WC (vs := [.slice A0 l0.length c0, .slice A1 l1.length c1]) Try.func32 (c := C32) (n := 26) kr kr kr ?_
  refine WC.seq kr ?_
  refine WC.reg [0] kr kr ?_
  refine WR.runk [0] [] [0, 1] (L' := [(0, .slice A0 l0.length c0), (1, .slice A1 l1.length c1)]) (w' := w0) kr ?_
  refine WR.nil ?_
  refine At.go ?_
  refine WC.seq kr ?_
  refine WC.seq kr ?_
  refine WC.reg [0, 1, 2, 3, 4] kr kr ?_
  refine WR.runk [0, 1, 2, 3, 4] [] [0, 1, 10] (L' := [(0, .slice A0 l0.length c0), (1, .slice A1 l1.length c1), (10, .bool ((l0.length : Int) != (l1.length : Int)))]) (w' := w0) kr ?_
  refine WR.nil ?_
  refine At.go ?_
  refine WC.cond kr ((l0.length : Int) != (l1.length : Int)) kr kr (fun hb1 => ?_) (fun hb1 => ?_)
  ·replace H := ite_t H hb1
   refine WC.seq kr ?_
   refine WC.reg [0] kr kr ?_
   refine WR.runk [0] [] [4] (L' := [(4, .bool false)]) (w' := w0) kr ?_
   refine WR.nil ?_
   refine At.go ?_
   refine WC.ret kr ?_
   refine At.thenRet ?_
   obtain rfl := Option.some.inj H
   have hS : Sat w0 (rf w0) [] := hS.sel [] kr
   exact At.body [.bool false] kr ⟨_, rfl, rfl, hS⟩
  ·replace H := ite_f H hb1
   refine WC.skip kr ?_
   refine At.go ?_
   refine WC.seq kr ?_
   refine WC.seq kr ?_
   refine WC.reg [0, 1, 2] kr kr ?_
   refine WR.runk [0, 1, 2] [] [0, 1, 12, 13] (L' := [(0, .slice A0 l0.length c0), (1, .slice A1 l1.length c1), (12, .int .i64 (l0.length : Int)), (13, .int .i64 0)]) (w' := w0) kr ?_
   refine WR.nil ?_
   refine At.go ?_
   refine WC.block kr ?_
   have hS : Sat w0 (rf w0) [] := hS.sel [] kr
   obtain ⟨o10, e11, H⟩ := bind_ex H
   refine WC.loop kr ?_
   refine WL.weaken [0, 1, 12, 13] (L' := [(0, .slice A0 l0.length c0), (1, .slice A1 l1.length c1), (12, .int .i64 (l0.length : Int)), (13, .int .i64 0)]) kr ?_
   refine slices_Equal.l1_ok w0 A0 c0 l0 A1 c1 l1 R0 R1 o10 (fun o12 w14 ho15 hS => ?_) (fun o16 w18 ho19 hS => ?_) FU 0 _ hS e11
   ·subst ho15
    dsimp only at H
    refine At.blockRet ?_
    refine At.thenRet ?_
    obtain rfl := Option.some.inj H
    have hS : Sat w14 (rf w0) [] := hS.sel [] kr
    exact At.body [.bool o12] kr ⟨_, rfl, rfl, hS⟩
   ·subst ho19
    dsimp only at H
    refine At.hit ?_
    refine At.go ?_
    refine WC.seq kr ?_
    refine WC.reg [0] kr kr ?_
    refine WR.runk [0] [] [4] (L' := [(4, .bool true)]) (w' := w18) kr ?_
    refine WR.nil ?_
    refine At.go ?_
    refine WC.ret kr ?_
    obtain rfl := Option.some.inj H
    have hS : Sat w18 (rf w0) [] := hS.sel [] kr
    exact At.body [.bool true] kr ⟨_, rfl, rfl, hS⟩
/-! ### 40 colophon/crc.Cut -/
def crc_Cut.f (l0 : List Int) : Option ((List Int) × Int) := (if decide ((l0.length : Int) < 4) then some (([] : List Int), 50) else ((sub? l0 0 (wi ((l0.length : Int) - 4))).bind fun y2 => ((slices_Clone.f y2).bind fun r7 => ((crc_Put.f r7).bind fun r18 => ((slices_Equal.f r18 l0).bind fun r29 => (if (!r29) then some (([] : List Int), 40) else some (r7, 0)))))))
def crc_Cut.post (w : World) (r : (List Int) × Int) (v : Value) (w' : World) : Prop := ∃ (A0' : Option Addr) (c0' : Nat), v = .tuple #[.slice A0' r.1.length c0', .int .i64 r.2] ∧ Sat w' (rf w) [osl 5 (r0 (.int .u8)) 1 A0' c0' r.1]
theorem crc_Cut.calls (w0 : World) (A0 : Option Addr) (c0 : Nat) (l0 : List Int) (R0 : rdS (r0 (.int .u8)) 1 (hp w0) A0 c0 l0) (r : (List Int) × Int) (H : crc_Cut.f l0 = some r) :
    Calls Try.prog 40 #[.slice A0 l0.length c0] w0 (fun e w' => ∃ v, e = .returned v ∧ crc_Cut.post w0 r v w') := by
  have hS : Sat w0 (rf w0) [] := Sat.start w0
  unfold crc_Cut.f at H
  refine calls_of_WC (vs := [.slice A0 l0.length c0]) Try.func40 (c := C40) (n := 20) kr kr kr ?_
  refine WC.seq kr ?_
  refine WC.reg [0, 1] kr kr ?_
  refine WR.runk [0, 1] [] [0] (L' := [(0, .slice A0 l0.length c0)]) (w' := w0) kr ?_
  refine WR.nil ?_
  refine At.go ?_
  refine WC.seq kr ?_
  refine WC.seq kr ?_
  refine WC.reg [0, 1, 2] kr kr ?_
  refine WR.runk [0, 1, 2] [] [0, 7] (L' := [(0, .slice A0 l0.length c0), (7, .bool (decide ((l0.length : Int) < 4)))]) (w' := w0) kr ?_
  refine WR.nil ?_
  refine At.go ?_
  refine WC.cond kr (decide ((l0.length : Int) < 4)) kr kr (fun hb1 => ?_) (fun hb1 => ?_)
  ·replace H := ite_t H hb1
   refine WC.seq kr ?_
   refine WC.reg [0, 1] kr kr ?_
   refine WR.runk [0, 1] [] [2, 3] (L' := [(2, .slice none 0 0), (3, .int .i64 50)]) (w' := w0) kr ?_
   refine WR.nil ?_
   refine At.go ?_
   refine WC.ret kr ?_
   refine At.thenRet ?_
   obtain rfl := Option.some.inj H
   have hS := hS.addNil (α := Int) 5 (r0 (.int .u8)) 1
   have hS : Sat w0 (rf w0) [osl 5 (r0 (.int .u8)) 1 none 0 ([] : List Int)] := hS.sel [0] kr
   exact At.body [.slice none 0 0, .int .i64 50] kr ⟨_, rfl, _, _, rfl, hS⟩
  ·replace H := ite_f H hb1
   refine WC.skip kr ?_
   refine At.go ?_
   refine WC.seq kr ?_
   refine WC.reg [0, 1, 2, 3, 4, 5, 6] kr kr ?_
   refine WR.runk [0, 1, 2, 3] [4, 5, 6] [0, 8, 11] (L' := [(0, .slice A0 l0.length c0), (8, .slice A0 l0.length c0), (11, .int .i64 (wi ((l0.length : Int) - 4)))]) (w' := w0) kr ?_
   obtain ⟨y2, e3, H⟩ := bind_ex H
   refine WR.st (St.ofP (PSt.sub (A := A0) (c := c0) (.tmp 8) none (some (.tmp 11)) none kr kr E31 kr (rdS.up R0 hS.sub0).1 e3 rfl (Exists.intro IntKind.i64 kr) trivial (fun A4 c5 T6 => ?_)))
   refine WR.runk [] [5, 6] [0, 12] (L' := [(0, .slice A0 l0.length c0), (12, .slice A4 y2.length c5)]) (w' := w0) kr ?_
   obtain ⟨r7, e8, H⟩ := bind_ex H
   refine WR.st (St.call kr (f := 21) (args := #[.slice A4 y2.length c5]) kr (slices_Clone.calls w0 A4 c5 y2 (T6.rd _ _ (rdS.up R0 hS.sub0)) r7 e8) ?_)
   rintro _ w14 ⟨A16, c17, rfl, hS15⟩
   have hS : Sat w14 (rf w0) [osl 5 (r0 (.int .u8)) 1 A16 c17 r7] := hS.ext hS15
   refine WR.runk [6] [] [0, 4] (L' := [(0, .slice A0 l0.length c0), (4, .slice A16 r7.length c17)]) (w' := w14) kr ?_
   refine WR.nil ?_
   refine At.go ?_
   refine WC.seq kr ?_
   refine WC.seq kr ?_
   refine WC.reg [0, 1, 2, 3, 4] kr kr ?_
   refine WR.runk [0] [1, 2, 3, 4] [0, 4, 14] (L' := [(0, .slice A0 l0.length c0), (4, .slice A16 r7.length c17), (14, .slice A16 r7.length c17)]) (w' := w14) kr ?_
   obtain ⟨r18, e19, H⟩ := bind_ex H
   refine WR.st (St.call kr (f := 38) (args := #[.slice A16 r7.length c17]) kr (crc_Put.calls w14 A16 c17 r7 (Sat.rdAt 0 hS rfl) r18 e19) ?_)
   rintro _ w25 ⟨A27, c28, rfl, hS26⟩
   have hS : Sat w25 (rf w0) [osl 5 (r0 (.int .u8)) 1 A27 c28 r18, osl 5 (r0 (.int .u8)) 1 A16 c17 r7] := hS.ext hS26
   refine WR.runk [2] [3, 4] [4, 15, 16] (L' := [(4, .slice A16 r7.length c17), (15, .slice A27 r18.length c28), (16, .slice A0 l0.length c0)]) (w' := w25) kr ?_
   obtain ⟨r29, e30, H⟩ := bind_ex H
   refine WR.st (St.call kr (f := 32) (args := #[.slice A27 r18.length c28, .slice A0 l0.length c0]) kr (slices_Equal.calls w25 A27 c28 r18 (Sat.rdAt 0 hS rfl) A0 c0 l0 (rdS.up R0 hS.sub0) r29 e30) ?_)
   rintro _ w36 ⟨rfl, hS37⟩
   have hS : Sat w36 (rf w0) [osl 5 (r0 (.int .u8)) 1 A27 c28 r18, osl 5 (r0 (.int .u8)) 1 A16 c17 r7] := hS.ext hS37
   refine WR.runk [4] [] [4, 18] (L' := [(4, .slice A16 r7.length c17), (18, .bool (!r29))]) (w' := w36) kr ?_
   refine WR.nil ?_
   refine At.go ?_
   refine WC.cond kr (!r29) kr kr (fun hb38 => ?_) (fun hb38 => ?_)
   ·replace H := ite_t H hb38
    refine WC.seq kr ?_
    refine WC.reg [0, 1] kr kr ?_
    refine WR.runk [0, 1] [] [2, 3] (L' := [(2, .slice none 0 0), (3, .int .i64 40)]) (w' := w36) kr ?_
    refine WR.nil ?_
    refine At.go ?_
    refine WC.ret kr ?_
    refine At.thenRet ?_
    obtain rfl := Option.some.inj H
    have hS := hS.addNil (α := Int) 5 (r0 (.int .u8)) 1
    have hS : Sat w36 (rf w0) [osl 5 (r0 (.int .u8)) 1 none 0 ([] : List Int)] := hS.sel [0] kr
    exact At.body [.slice none 0 0, .int .i64 40] kr ⟨_, rfl, _, _, rfl, hS⟩
   ·replace H := ite_f H hb38
    refine WC.skip kr ?_
    refine At.go ?_
    refine WC.seq kr ?_
    refine WC.reg [0, 1, 2] kr kr ?_
    refine WR.runk [0, 1, 2] [] [2, 3] (L' := [(2, .slice A16 r7.length c17), (3, .int .i64 0)]) (w' := w36) kr ?_
    refine WR.nil ?_
    refine At.go ?_
    refine WC.ret kr ?_
    obtain rfl := Option.some.inj H
    have hS : Sat w36 (rf w0) [osl 5 (r0 (.int .u8)) 1 A16 c17 r7] := hS.sel [1] kr
    exact At.body [.slice A16 r7.length c17, .int .i64 0] kr ⟨_, rfl, _, _, rfl, hS⟩
/-! ### 29 colophon/page.Get -/
def page_Get.l1 (r3 : (List Int) × Int) : Nat → Int → Int → Option Int
  | 0, _, _ => none
  | k + 1, x7_l1, x8_l1 => (if decide (x8_l1 ≥ 0) then ((at? r3.1 (wi (256 + x8_l1))).bind fun v16 => page_Get.l1 r3 k (ior .i64 (ishl .i64 x7_l1 8) (wi v16)) (wi (x8_l1 - 1))) else some x7_l1)
def page_Get.f (l0 : List Int) : Option (Int × (List Int) × Int) := (if decide ((l0.length : Int) < 264) then some (0, ([] : List Int), 50) else (if decide ((l0.length : Int) > 264) then some (0, ([] : List Int), 51) else ((crc_Cut.f l0).bind fun r3 => (if (r3.2 != 0) then some (0, ([] : List Int), r3.2) else ((page_Get.l1 r3 FU 0 3).bind fun o18 => (if decide (o18 ≥ 4096) then some (0, ([] : List Int), 10) else ((sub? r3.1 0 256).bind fun y26 => some (o18, y26, 0))))))))
def page_Get.post (w : World) (r : Int × (List Int) × Int) (v : Value) (w' : World) : Prop := ∃ (A1' : Option Addr) (c1' : Nat), v = .tuple #[.int .i64 r.1, .slice A1' r.2.1.length c1', .int .i64 r.2.2] ∧ Sat w' (rf w) [osl 5 (r0 (.int .u8)) 1 A1' c1' r.2.1]
theorem page_Get.l1_ok {Q} (w0 : World) (r3 : (List Int) × Int) (A12 : Option Addr) (c13 : Nat) (out : Int) (hn0 : ∀ (w : World), Sat w (rf w0) [osl 5 (r0 (.int .u8)) 1 A12 c13 r3.1] → At Q (.exit 1) 43 [(5, .slice A12 r3.1.length c13), (7, .int .i64 out)] w) :
    ∀ (k : Nat) (x7_l1 : Int) (x8_l1 : Int) (w : World), Sat w (rf w0) [osl 5 (r0 (.int .u8)) 1 A12 c13 r3.1] → page_Get.l1 r3 k x7_l1 x8_l1 = some out → WL Try.prog (cbody (cbody (cr (cl (cr (cr (cr (cr (cr C29))))))))) Q 43 [(5, .slice A12 r3.1.length c13), (7, .int .i64 x7_l1), (8, .int .i64 x8_l1)] w := by
  intro k
  induction k with
  | zero => intro x7_l1 x8_l1 w hS H; exact absurd (show none = some out from H) (by simp)
  | succ k ih =>
    intro x7_l1 x8_l1 w hS H
    unfold page_Get.l1 at H
    refine WL.round ?_
    refine WC.seq kr ?_
    refine WC.seq kr ?_
    refine WC.reg [0, 1] kr kr ?_
    refine WR.runk [0, 1] [] [5, 7, 8, 26] (L' := [(5, .slice A12 r3.1.length c13), (7, .int .i64 x7_l1), (8, .int .i64 x8_l1), (26, .bool (decide (x8_l1 ≥ 0)))]) (w' := w) kr ?_
    refine WR.nil ?_
    refine At.go ?_
    refine WC.cond kr (decide (x8_l1 ≥ 0)) kr kr (fun hb15 => ?_) (fun hb15 => ?_)
    ·replace H := ite_t H hb15
     refine WC.skip kr ?_
     refine At.go ?_
     refine WC.seq kr ?_
     refine WC.block kr ?_
     refine WC.reg [0, 1, 2, 3, 4, 5, 6, 7, 8, 9] kr kr ?_
     refine WR.runk [0, 1, 2, 3, 4] [5, 6, 7, 8, 9] [5, 7, 8, 30, 31, 33] (L' := [(5, .slice A12 r3.1.length c13), (7, .int .i64 x7_l1), (8, .int .i64 x8_l1), (30, .int .i64 (ishl .i64 x7_l1 8)), (31, .slice A12 r3.1.length c13), (33, .int .i64 (wi (256 + x8_l1)))]) (w' := w) kr ?_
     obtain ⟨v16, e17, H⟩ := bind_ex H
     refine WR.st (St.ofP (PSt.idx (k := .i64) (.tmp 31) (.tmp 33) kr kr E31 kr kr (Sat.rdAt 0 hS rfl) e17 ?_))
     refine WR.runk [] [6, 7, 8, 9] [5, 7, 8, 30, 34] (L' := [(5, .slice A12 r3.1.length c13), (7, .int .i64 x7_l1), (8, .int .i64 x8_l1), (30, .int .i64 (ishl .i64 x7_l1 8)), (34, .pointer (some (adr A12 (wi (256 + x8_l1)).toNat 1)))]) (w' := w) kr ?_
     refine WR.st (St.ofR (RSt.loadInt (t := 5) (.tmp 34) kr kr kr kr (Sat.rdAt 0 hS rfl) e17 ?_))
     refine WR.runk [7, 8, 9] [] [5, 7, 8] (L' := [(5, .slice A12 r3.1.length c13), (7, .int .i64 (ior .i64 (ishl .i64 x7_l1 8) (wi v16))), (8, .int .i64 x8_l1)]) (w' := w) kr ?_
     refine WR.nil ?_
     refine At.blockNormal ?_
     refine At.go ?_
     refine WC.reg [0, 1, 2] kr kr ?_
     refine WR.runk [0, 1, 2] [] [5, 7, 8] (L' := [(5, .slice A12 r3.1.length c13), (7, .int .i64 (ior .i64 (ishl .i64 x7_l1 8) (wi v16))), (8, .int .i64 (wi (x8_l1 - 1)))]) (w' := w) kr ?_
     refine WR.nil ?_
     have hS : Sat w (rf w0) [osl 5 (r0 (.int .u8)) 1 A12 c13 r3.1] := hS.sel [0] kr
     refine At.again ?_
     refine WL.weaken [5, 7, 8] (L' := [(5, .slice A12 r3.1.length c13), (7, .int .i64 (ior .i64 (ishl .i64 x7_l1 8) (wi v16))), (8, .int .i64 (wi (x8_l1 - 1)))]) kr ?_
     exact ih (ior .i64 (ishl .i64 x7_l1 8) (wi v16)) (wi (x8_l1 - 1)) _ hS H
    ·replace H := ite_f H hb15
     refine WC.exit kr ?_
     refine At.thenExit ?_
     refine At.thenExit ?_
     obtain rfl := Option.some.inj H
     have hS : Sat w (rf w0) [osl 5 (r0 (.int .u8)) 1 A12 c13 r3.1] := hS.sel [0] kr
     refine At.weaken [5, 7] (L' := [(5, .slice A12 r3.1.length c13), (7, .int .i64 x7_l1)]) kr ?_
     exact hn0 _ hS
theorem page_Get.calls (w0 : World) (A0 : Option Addr) (c0 : Nat) (l0 : List Int) (R0 : rdS (r0 (.int .u8)) 1 (hp w0) A0 c0 l0) (r : Int × (List Int) × Int) (H : page_Get.f l0 = some r) :
    Calls Try.prog 29 #[.slice A0 l0.length c0] w0 (fun e w' => ∃ v, e = .returned v ∧ page_Get.post w0 r v w') := by
  have hS : Sat w0 (rf w0) [] := Sat.start w0
  unfold page_Get.f at H
  refine calls_of_WC (vs := [.slice A0 l0.length c0]) Try.func29 (c := C29) (n := 43) kr kr kr ?_
  refine WC.seq kr ?_
  refine WC.reg [0, 1, 2] kr kr ?_
  refine WR.runk [0, 1, 2] [] [0] (L' := [(0, .slice A0 l0.length c0)]) (w' := w0) kr ?_
  refine WR.nil ?_
  refine At.go ?_
  refine WC.seq kr ?_
  refine WC.block kr ?_
  refine WC.seq kr ?_
  refine WC.reg [0, 1, 2, 3] kr kr ?_
  refine WR.runk [0, 1, 2, 3] [] [0, 9] (L' := [(0, .slice A0 l0.length c0), (9, .bool (decide ((l0.length : Int) < 264)))]) (w' := w0) kr ?_
  refine WR.nil ?_
  refine At.go ?_
  refine WC.cond kr (decide ((l0.length : Int) < 264)) kr kr (fun hb1 => ?_) (fun hb1 => ?_)
  ·replace H := ite_t H hb1
   refine WC.seq kr ?_
   refine WC.reg [0, 1, 2] kr kr ?_
   refine WR.runk [0, 1, 2] [] [2, 3, 4] (L' := [(2, .int .i64 0), (3, .slice none 0 0), (4, .int .i64 50)]) (w' := w0) kr ?_
   refine WR.nil ?_
   refine At.go ?_
   refine WC.ret kr ?_
   refine At.blockRet ?_
   refine At.thenRet ?_
   obtain rfl := Option.some.inj H
   have hS := hS.addNil (α := Int) 5 (r0 (.int .u8)) 1
   have hS : Sat w0 (rf w0) [osl 5 (r0 (.int .u8)) 1 none 0 ([] : List Int)] := hS.sel [0] kr
   exact At.body [.int .i64 0, .slice none 0 0, .int .i64 50] kr ⟨_, rfl, _, _, rfl, hS⟩
  ·replace H := ite_f H hb1
   refine WC.seq kr ?_
   refine WC.reg [0, 1, 2, 3] kr kr ?_
   refine WR.runk [0, 1, 2, 3] [] [0, 13] (L' := [(0, .slice A0 l0.length c0), (13, .bool (decide ((l0.length : Int) > 264)))]) (w' := w0) kr ?_
   refine WR.nil ?_
   refine At.go ?_
   refine WC.cond kr (decide ((l0.length : Int) > 264)) kr kr (fun hb2 => ?_) (fun hb2 => ?_)
   ·replace H := ite_t H hb2
    refine WC.seq kr ?_
    refine WC.reg [0, 1, 2] kr kr ?_
    refine WR.runk [0, 1, 2] [] [2, 3, 4] (L' := [(2, .int .i64 0), (3, .slice none 0 0), (4, .int .i64 51)]) (w' := w0) kr ?_
    refine WR.nil ?_
    refine At.go ?_
    refine WC.ret kr ?_
    refine At.blockRet ?_
    refine At.thenRet ?_
    obtain rfl := Option.some.inj H
    have hS := hS.addNil (α := Int) 5 (r0 (.int .u8)) 1
    have hS : Sat w0 (rf w0) [osl 5 (r0 (.int .u8)) 1 none 0 ([] : List Int)] := hS.sel [0] kr
    exact At.body [.int .i64 0, .slice none 0 0, .int .i64 51] kr ⟨_, rfl, _, _, rfl, hS⟩
   ·replace H := ite_f H hb2
    refine WC.skip kr ?_
    refine At.blockNormal ?_
    refine At.go ?_
    refine WC.seq kr ?_
    refine WC.reg [0, 1, 2, 3, 4, 5, 6] kr kr ?_
    refine WR.runk [0] [1, 2, 3, 4, 5, 6] [18] (L' := [(18, .slice A0 l0.length c0)]) (w' := w0) kr ?_
    obtain ⟨r3, e4, H⟩ := bind_ex H
    refine WR.st (St.call kr (f := 40) (args := #[.slice A0 l0.length c0]) kr (crc_Cut.calls w0 A0 c0 l0 (rdS.up R0 hS.sub0) r3 e4) ?_)
    rintro _ w10 ⟨A12, c13, rfl, hS11⟩
    have hS : Sat w10 (rf w0) [osl 5 (r0 (.int .u8)) 1 A12 c13 r3.1] := hS.ext hS11
    refine WR.runk [2, 3, 4, 5, 6] [] [5, 6] (L' := [(5, .slice A12 r3.1.length c13), (6, .int .i64 r3.2)]) (w' := w10) kr ?_
    refine WR.nil ?_
    refine At.go ?_
    refine WC.seq kr ?_
    refine WC.seq kr ?_
    refine WC.reg [0, 1] kr kr ?_
    refine WR.runk [0, 1] [] [5, 6, 23] (L' := [(5, .slice A12 r3.1.length c13), (6, .int .i64 r3.2), (23, .bool (r3.2 != 0))]) (w' := w10) kr ?_
    refine WR.nil ?_
    refine At.go ?_
    refine WC.cond kr (r3.2 != 0) kr kr (fun hb14 => ?_) (fun hb14 => ?_)
    ·replace H := ite_t H hb14
     refine WC.seq kr ?_
     refine WC.reg [0, 1, 2, 3] kr kr ?_
     refine WR.runk [0, 1, 2, 3] [] [2, 3, 4] (L' := [(2, .int .i64 0), (3, .slice none 0 0), (4, .int .i64 r3.2)]) (w' := w10) kr ?_
     refine WR.nil ?_
     refine At.go ?_
     refine WC.ret kr ?_
     refine At.thenRet ?_
     obtain rfl := Option.some.inj H
     have hS := hS.addNil (α := Int) 5 (r0 (.int .u8)) 1
     have hS : Sat w10 (rf w0) [osl 5 (r0 (.int .u8)) 1 none 0 ([] : List Int)] := hS.sel [0] kr
     exact At.body [.int .i64 0, .slice none 0 0, .int .i64 r3.2] kr ⟨_, rfl, _, _, rfl, hS⟩
    ·replace H := ite_f H hb14
     refine WC.skip kr ?_
     refine At.go ?_
     refine WC.seq kr ?_
     refine WC.reg [0] kr kr ?_
     refine WR.runk [0] [] [5, 7] (L' := [(5, .slice A12 r3.1.length c13), (7, .int .i64 0)]) (w' := w10) kr ?_
     refine WR.nil ?_
     refine At.go ?_
     refine WC.seq kr ?_
     refine WC.seq kr ?_
     refine WC.reg [0] kr kr ?_
     refine WR.runk [0] [] [5, 7, 8] (L' := [(5, .slice A12 r3.1.length c13), (7, .int .i64 0), (8, .int .i64 3)]) (w' := w10) kr ?_
     refine WR.nil ?_
     refine At.go ?_
     refine WC.block kr ?_
     have hS : Sat w10 (rf w0) [osl 5 (r0 (.int .u8)) 1 A12 c13 r3.1] := hS.sel [0] kr
     obtain ⟨o18, e19, H⟩ := bind_ex H
     refine WC.loop kr ?_
     refine WL.weaken [5, 7, 8] (L' := [(5, .slice A12 r3.1.length c13), (7, .int .i64 0), (8, .int .i64 3)]) kr ?_
     refine page_Get.l1_ok w0 r3 A12 c13 o18 (fun w21 hS => ?_) FU 0 3 _ hS e19
     refine At.hit ?_
     refine At.go ?_
     refine WC.seq kr ?_
     refine WC.seq kr ?_
     refine WC.reg [0, 1] kr kr ?_
     refine WR.runk [0, 1] [] [5, 7, 39] (L' := [(5, .slice A12 r3.1.length c13), (7, .int .i64 o18), (39, .bool (decide (o18 ≥ 4096)))]) (w' := w21) kr ?_
     refine WR.nil ?_
     refine At.go ?_
     refine WC.cond kr (decide (o18 ≥ 4096)) kr kr (fun hb23 => ?_) (fun hb23 => ?_)
     ·replace H := ite_t H hb23
      refine WC.seq kr ?_
      refine WC.reg [0, 1, 2] kr kr ?_
      refine WR.runk [0, 1, 2] [] [2, 3, 4] (L' := [(2, .int .i64 0), (3, .slice none 0 0), (4, .int .i64 10)]) (w' := w21) kr ?_
      refine WR.nil ?_
      refine At.go ?_
      refine WC.ret kr ?_
      refine At.thenRet ?_
      obtain rfl := Option.some.inj H
      have hS := hS.addNil (α := Int) 5 (r0 (.int .u8)) 1
      have hS : Sat w21 (rf w0) [osl 5 (r0 (.int .u8)) 1 none 0 ([] : List Int)] := hS.sel [0] kr
      exact At.body [.int .i64 0, .slice none 0 0, .int .i64 10] kr ⟨_, rfl, _, _, rfl, hS⟩
     ·replace H := ite_f H hb23
      refine WC.skip kr ?_
      refine At.go ?_
      refine WC.seq kr ?_
      refine WC.drawn kr kr 6 kr (fun w24 hw25 => ?_)
      have hS := hS.heap hw25.1 hw25.2
      refine WD.weaken [5, 7] (L' := [(5, .slice A12 r3.1.length c13), (7, .int .i64 o18)]) kr ?_
      refine WD.pure (i := 0) (v := .int .i64 o18) kr kr (fun _ => by kernel_rfl) ?_
      refine WD.weaken [5, 40] (L' := [(5, .slice A12 r3.1.length c13), (40, .int .i64 o18)]) kr ?_
      refine WD.pure (i := 1) (v := .slice A12 r3.1.length c13) kr kr (fun _ => by kernel_rfl) ?_
      refine WD.weaken [40, 41] (L' := [(40, .int .i64 o18), (41, .slice A12 r3.1.length c13)]) kr ?_
      obtain ⟨y26, e27, H⟩ := bind_ex H
      refine WD.ofP (i := 2) kr (PSt.sub (A := A12) (c := c13) (.tmp 41) none (some (.const (.int .i64 256))) (some (.const (.int .i64 256))) kr kr E31 kr (Sat.rdAt 0 hS rfl).1 e27 rfl (Exists.intro IntKind.i64 kr) (Exists.intro IntKind.i64 kr) (fun A28 c29 T30 => ?_))
      refine WD.weaken [40, 42] (L' := [(40, .int .i64 o18), (42, .slice A28 y26.length c29)]) kr ?_
      refine WD.pure (i := 3) (v := .int .i64 o18) kr kr (fun _ => by kernel_rfl) ?_
      refine WD.weaken [2, 42] (L' := [(2, .int .i64 o18), (42, .slice A28 y26.length c29)]) kr ?_
      refine WD.pure (i := 4) (v := .slice A28 y26.length c29) kr kr (fun _ => by kernel_rfl) ?_
      refine WD.weaken [2, 3] (L' := [(2, .int .i64 o18), (3, .slice A28 y26.length c29)]) kr ?_
      refine WD.pure (i := 5) (v := .int .i64 0) kr kr (fun _ => by kernel_rfl) ?_
      refine WD.weaken [2, 3, 4] (L' := [(2, .int .i64 o18), (3, .slice A28 y26.length c29), (4, .int .i64 0)]) kr ?_
      refine WD.nil kr ?_
      refine At.go ?_
      refine WC.ret kr ?_
      obtain rfl := Option.some.inj H
      have hS : Sat w24 (rf w0) [osl 5 (r0 (.int .u8)) 1 A28 c29 y26] := T30.sat _ _ _ _ _ hS
      have hS : Sat w24 (rf w0) [osl 5 (r0 (.int .u8)) 1 A28 c29 y26] := hS.sel [0] kr
      exact At.body [.int .i64 o18, .slice A28 y26.length c29, .int .i64 0] kr ⟨_, rfl, _, _, rfl, hS⟩
/-! ### 30 (*colophon/image.Image).head -/
def image_Image_head.l2 (v10 : List Int) (x35_l1 : Int) : Nat → Int → Int → Option Int
  | 0, _, _ => none
  | k + 1, x6_l2, x38_l2 => (if decide (x38_l2 < 4) then ((at? v10 (wi ((wi (6 + (wi (4 * x35_l1)))) + x38_l2))).bind fun v30 => ((chk? (decide (0 ≤ (wi (8 * x38_l2))))).bind fun _ => image_Image_head.l2 v10 x35_l1 k (ior .i64 x6_l2 (ishl .i64 (wi v30) (wi (8 * x38_l2)))) (wi (x38_l2 + 1)))) else some x6_l2)
def image_Image_head.l1 (v10 : List Int) (v17 : Int) (v19 : Int) : Nat → Int → (List Int) → Option (List Int)
  | 0, _, _ => none
  | k + 1, x35_l1, q0p1_l1 => (if decide (x35_l1 < ior .i64 (wi v17) (ishl .i64 (wi v19) 8)) then ((image_Image_head.l2 v10 x35_l1 FU 0 0).bind fun o33 => ((app? 17592186044416 q0p1_l1 ([o33] : List Int)).bind fun y41 => image_Image_head.l1 v10 v17 v19 k (wi (x35_l1 + 1)) y41)) else some q0p1_l1)
def image_Image_head.f (p0 : (List (List Int)) × (List Int) × (List Int)) : Option (Bool × ((List (List Int)) × (List Int) × (List Int))) := ((at? p0.1 0).bind fun v10 => ((at? v10 4).bind fun v17 => ((at? v10 5).bind fun v19 => ((sub? v10 0 4).bind fun y21 => (if (!((bs y21).toList == (⟨#[99, 111, 108, 111]⟩ : ByteArray).toList)) then some (false, p0) else (if decide (ior .i64 (wi v17) (ishl .i64 (wi v19) 8) > 60) then some (false, p0) else ((image_Image_head.l1 v10 v17 v19 FU 0 p0.2.1).bind fun o46 => ((image_plan.f o46).bind fun r51 => some ((r51.2 == (p0.1.length : Int)), (p0.1, o46, r51.1))))))))))
def image_Image_head.post (B : Rf) (b0 : Nat) (p0 : (List (List Int)) × (List Int) × (List Int)) (w : World) (r : Bool × ((List (List Int)) × (List Int) × (List Int))) (v : Value) (w' : World) : Prop := v = (.bool r.1 : Value) ∧ Sat w' B [O80 b0 r.2]
theorem image_Image_head.l2_ok {Q} (B : Rf) (b0 : Nat) (p0 : (List (List Int)) × (List Int) × (List Int)) (A1 : Option Addr) (c2 : Nat) (A5 : Option Addr) (c6 : Nat) (K7 : Heap) (v10 : List Int) (A12 : Option Addr) (c13 : Nat) (v17 : Int) (v19 : Int) (x35_l1 : Int) (Aq0p1_l1 : Option Addr) (cq0p1_l1 : Nat) (q0p1_l1 : List Int) (R14 : rdS (r0 (.int .u8)) 1 K7 A12 c13 v10) (out : Int) (hn0 : ∀ (w : World), Sat w B [gh K7, pts b0 (.cells #[.slice A1 p0.1.length c2, .slice Aq0p1_l1 q0p1_l1.length cq0p1_l1, .slice A5 p0.2.2.length c6] 80 (0, 0)), osl 3 (r0 (.int .i64)) 1 Aq0p1_l1 cq0p1_l1 q0p1_l1, osl 3 (r0 (.int .i64)) 1 A5 c6 p0.2.2] → At Q (.exit 2) 86 [(0, .pointer (some ⟨b0, 0, none⟩)), (3, .slice A12 v10.length c13), (6, .int .i64 out), (34, .int .i64 (ior .i64 (wi v17) (ishl .i64 (wi v19) 8))), (35, .int .i64 x35_l1)] w) :
    ∀ (k : Nat) (x6_l2 : Int) (x38_l2 : Int) (w : World), Sat w B [gh K7, pts b0 (.cells #[.slice A1 p0.1.length c2, .slice Aq0p1_l1 q0p1_l1.length cq0p1_l1, .slice A5 p0.2.2.length c6] 80 (0, 0)), osl 3 (r0 (.int .i64)) 1 Aq0p1_l1 cq0p1_l1 q0p1_l1, osl 3 (r0 (.int .i64)) 1 A5 c6 p0.2.2] → image_Image_head.l2 v10 x35_l1 k x6_l2 x38_l2 = some out → WL Try.prog (cbody (cbody (cr (cl (cr (cr (cbody (cl (cr (cr (cbody (cbody (cr (cl (cr (cr (cr (cr C30)))))))))))))))))) Q 86 [(0, .pointer (some ⟨b0, 0, none⟩)), (3, .slice A12 v10.length c13), (5, .int .i64 x35_l1), (6, .int .i64 x6_l2), (34, .int .i64 (ior .i64 (wi v17) (ishl .i64 (wi v19) 8))), (35, .int .i64 x35_l1), (38, .int .i64 x38_l2)] w := by
  intro k
  induction k with
  | zero => intro x6_l2 x38_l2 w hS H; exact absurd (show none = some out from H) (by simp)
  | succ k ih =>
    intro x6_l2 x38_l2 w hS H
    unfold image_Image_head.l2 at H
    refine WL.round ?_
    refine WC.seq kr ?_
    refine WC.reg [0] kr kr ?_
    refine WR.runk [0] [] [0, 3, 5, 6, 34, 35, 38, 39] (L' := [(0, .pointer (some ⟨b0, 0, none⟩)), (3, .slice A12 v10.length c13), (5, .int .i64 x35_l1), (6, .int .i64 x6_l2), (34, .int .i64 (ior .i64 (wi v17) (ishl .i64 (wi v19) 8))), (35, .int .i64 x35_l1), (38, .int .i64 x38_l2), (39, .bool (decide (x38_l2 < 4)))]) (w' := w) kr ?_
    refine WR.nil ?_
    refine At.go ?_
    refine WC.seq kr ?_
    refine WC.cond kr (decide (x38_l2 < 4)) kr kr (fun hb29 => ?_) (fun hb29 => ?_)
    ·replace H := ite_t H hb29
     refine WC.skip kr ?_
     refine At.go ?_
     refine WC.seq kr ?_
     refine WC.block kr ?_
     refine WC.seq kr ?_
     refine WC.reg [0, 1] kr kr ?_
     refine WR.runk [0, 1] [] [0, 3, 5, 6, 7, 34, 35, 38] (L' := [(0, .pointer (some ⟨b0, 0, none⟩)), (3, .slice A12 v10.length c13), (5, .int .i64 x35_l1), (6, .int .i64 x6_l2), (7, .int .i64 x38_l2), (34, .int .i64 (ior .i64 (wi v17) (ishl .i64 (wi v19) 8))), (35, .int .i64 x35_l1), (38, .int .i64 x38_l2)]) (w' := w) kr ?_
     refine WR.nil ?_
     refine At.go ?_
     refine WC.reg [0, 1, 2, 3, 4, 5, 6, 7, 8, 9, 10, 11, 12, 13, 14] kr kr ?_
     refine WR.runk [0, 1, 2, 3, 4, 5, 6] [7, 8, 9, 10, 11, 12, 13, 14] [0, 3, 5, 6, 7, 34, 35, 38, 41, 42, 47] (L' := [(0, .pointer (some ⟨b0, 0, none⟩)), (3, .slice A12 v10.length c13), (5, .int .i64 x35_l1), (6, .int .i64 x6_l2), (7, .int .i64 x38_l2), (34, .int .i64 (ior .i64 (wi v17) (ishl .i64 (wi v19) 8))), (35, .int .i64 x35_l1), (38, .int .i64 x38_l2), (41, .int .i64 x6_l2), (42, .slice A12 v10.length c13), (47, .int .i64 (wi ((wi (6 + (wi (4 * x35_l1)))) + x38_l2)))]) (w' := w) kr ?_
     obtain ⟨v30, e31, H⟩ := bind_ex H
     refine WR.st (St.ofP (PSt.idx (k := .i64) (.tmp 42) (.tmp 47) kr kr E31 kr kr (rdS.up R14 (Sat.ghAt 0 hS rfl)) e31 ?_))
     refine WR.runk [] [8, 9, 10, 11, 12, 13, 14] [0, 3, 5, 6, 7, 34, 35, 38, 41, 48] (L' := [(0, .pointer (some ⟨b0, 0, none⟩)), (3, .slice A12 v10.length c13), (5, .int .i64 x35_l1), (6, .int .i64 x6_l2), (7, .int .i64 x38_l2), (34, .int .i64 (ior .i64 (wi v17) (ishl .i64 (wi v19) 8))), (35, .int .i64 x35_l1), (38, .int .i64 x38_l2), (41, .int .i64 x6_l2), (48, .pointer (some (adr A12 (wi ((wi (6 + (wi (4 * x35_l1)))) + x38_l2)).toNat 1)))]) (w' := w) kr ?_
     refine WR.st (St.ofR (RSt.loadInt (t := 5) (.tmp 48) kr kr kr kr (rdS.up R14 (Sat.ghAt 0 hS rfl)) e31 ?_))
     refine WR.runk [9, 10, 11] [12, 13, 14] [0, 3, 5, 6, 34, 35, 38, 41, 50, 52] (L' := [(0, .pointer (some ⟨b0, 0, none⟩)), (3, .slice A12 v10.length c13), (5, .int .i64 x35_l1), (6, .int .i64 x6_l2), (34, .int .i64 (ior .i64 (wi v17) (ishl .i64 (wi v19) 8))), (35, .int .i64 x35_l1), (38, .int .i64 x38_l2), (41, .int .i64 x6_l2), (50, .int .i64 (wi v30)), (52, .int .i64 (wi (8 * x38_l2)))]) (w' := w) kr ?_
     obtain ⟨_, e32, H⟩ := bind_ex H
     refine WR.st (St.ofP (PSt.shift (k := .i64) (k2 := .i64) (t := 3) (t2 := 3) (a := (wi v30)) (b := (wi (8 * x38_l2))) .shl (by decide) (.tmp 50) (.tmp 52) kr kr kr kr (of_decide_eq_true (chk?_some e32)) ?_))
     refine WR.runk [13, 14] [] [0, 3, 5, 6, 34, 35, 38] (L' := [(0, .pointer (some ⟨b0, 0, none⟩)), (3, .slice A12 v10.length c13), (5, .int .i64 x35_l1), (6, .int .i64 (ior .i64 x6_l2 (ishl .i64 (wi v30) (wi (8 * x38_l2))))), (34, .int .i64 (ior .i64 (wi v17) (ishl .i64 (wi v19) 8))), (35, .int .i64 x35_l1), (38, .int .i64 x38_l2)]) (w' := w) kr ?_
     refine WR.nil ?_
     refine At.blockNormal ?_
     refine At.go ?_
     refine WC.reg [0, 1] kr kr ?_
     refine WR.runk [0, 1] [] [0, 3, 5, 6, 34, 35, 38] (L' := [(0, .pointer (some ⟨b0, 0, none⟩)), (3, .slice A12 v10.length c13), (5, .int .i64 x35_l1), (6, .int .i64 (ior .i64 x6_l2 (ishl .i64 (wi v30) (wi (8 * x38_l2))))), (34, .int .i64 (ior .i64 (wi v17) (ishl .i64 (wi v19) 8))), (35, .int .i64 x35_l1), (38, .int .i64 (wi (x38_l2 + 1)))]) (w' := w) kr ?_
     refine WR.nil ?_
     have hS : Sat w B [gh K7, pts b0 (.cells #[.slice A1 p0.1.length c2, .slice Aq0p1_l1 q0p1_l1.length cq0p1_l1, .slice A5 p0.2.2.length c6] 80 (0, 0)), osl 3 (r0 (.int .i64)) 1 Aq0p1_l1 cq0p1_l1 q0p1_l1, osl 3 (r0 (.int .i64)) 1 A5 c6 p0.2.2] := hS.sel [0, 1, 2, 3] kr
     refine At.again ?_
     refine WL.weaken [0, 3, 5, 6, 34, 35, 38] (L' := [(0, .pointer (some ⟨b0, 0, none⟩)), (3, .slice A12 v10.length c13), (5, .int .i64 x35_l1), (6, .int .i64 (ior .i64 x6_l2 (ishl .i64 (wi v30) (wi (8 * x38_l2))))), (34, .int .i64 (ior .i64 (wi v17) (ishl .i64 (wi v19) 8))), (35, .int .i64 x35_l1), (38, .int .i64 (wi (x38_l2 + 1)))]) kr ?_
     exact ih (ior .i64 x6_l2 (ishl .i64 (wi v30) (wi (8 * x38_l2)))) (wi (x38_l2 + 1)) _ hS H
    ·replace H := ite_f H hb29
     refine WC.exit kr ?_
     refine At.thenExit ?_
     refine At.thenExit ?_
     obtain rfl := Option.some.inj H
     have hS : Sat w B [gh K7, pts b0 (.cells #[.slice A1 p0.1.length c2, .slice Aq0p1_l1 q0p1_l1.length cq0p1_l1, .slice A5 p0.2.2.length c6] 80 (0, 0)), osl 3 (r0 (.int .i64)) 1 Aq0p1_l1 cq0p1_l1 q0p1_l1, osl 3 (r0 (.int .i64)) 1 A5 c6 p0.2.2] := hS.sel [0, 1, 2, 3] kr
     refine At.weaken [0, 3, 6, 34, 35] (L' := [(0, .pointer (some ⟨b0, 0, none⟩)), (3, .slice A12 v10.length c13), (6, .int .i64 x6_l2), (34, .int .i64 (ior .i64 (wi v17) (ishl .i64 (wi v19) 8))), (35, .int .i64 x35_l1)]) kr ?_
     exact hn0 _ hS
theorem image_Image_head.l1_ok {Q} (B : Rf) (b0 : Nat) (p0 : (List (List Int)) × (List Int) × (List Int)) (A1 : Option Addr) (c2 : Nat) (A5 : Option Addr) (c6 : Nat) (K7 : Heap) (v10 : List Int) (A12 : Option Addr) (c13 : Nat) (v17 : Int) (v19 : Int) (R14 : rdS (r0 (.int .u8)) 1 K7 A12 c13 v10) (out : (List Int)) (hn0 : ∀ (Aq0p1_q : Option Addr) (cq0p1_q : Nat) (w : World), Sat w B [pts b0 (.cells #[.slice A1 p0.1.length c2, .slice Aq0p1_q out.length cq0p1_q, .slice A5 p0.2.2.length c6] 80 (0, 0)), osl 3 (r0 (.int .i64)) 1 Aq0p1_q cq0p1_q out, gh K7, osl 3 (r0 (.int .i64)) 1 A5 c6 p0.2.2] → At Q (.exit 0) 86 [(0, .pointer (some ⟨b0, 0, none⟩))] w) :
    ∀ (k : Nat) (x35_l1 : Int) (q0p1_l1 : List Int) (Aq0p1_l1 : Option Addr) (cq0p1_l1 : Nat) (w : World), Sat w B [gh K7, pts b0 (.cells #[.slice A1 p0.1.length c2, .slice Aq0p1_l1 q0p1_l1.length cq0p1_l1, .slice A5 p0.2.2.length c6] 80 (0, 0)), osl 3 (r0 (.int .i64)) 1 Aq0p1_l1 cq0p1_l1 q0p1_l1, osl 3 (r0 (.int .i64)) 1 A5 c6 p0.2.2] → image_Image_head.l1 v10 v17 v19 k x35_l1 q0p1_l1 = some out → WL Try.prog (cbody (cbody (cr (cl (cr (cr (cr (cr C30)))))))) Q 86 [(0, .pointer (some ⟨b0, 0, none⟩)), (3, .slice A12 v10.length c13), (34, .int .i64 (ior .i64 (wi v17) (ishl .i64 (wi v19) 8))), (35, .int .i64 x35_l1)] w := by
  intro k
  induction k with
  | zero => intro x35_l1 q0p1_l1 Aq0p1_l1 cq0p1_l1 w hS H; exact absurd (show none = some out from H) (by simp)
  | succ k ih =>
    intro x35_l1 q0p1_l1 Aq0p1_l1 cq0p1_l1 w hS H
    unfold image_Image_head.l1 at H
    refine WL.round ?_
    refine WC.seq kr ?_
    refine WC.reg [0] kr kr ?_
    refine WR.runk [0] [] [0, 3, 34, 35, 36] (L' := [(0, .pointer (some ⟨b0, 0, none⟩)), (3, .slice A12 v10.length c13), (34, .int .i64 (ior .i64 (wi v17) (ishl .i64 (wi v19) 8))), (35, .int .i64 x35_l1), (36, .bool (decide (x35_l1 < ior .i64 (wi v17) (ishl .i64 (wi v19) 8))))]) (w' := w) kr ?_
    refine WR.nil ?_
    refine At.go ?_
    refine WC.seq kr ?_
    refine WC.cond kr (decide (x35_l1 < ior .i64 (wi v17) (ishl .i64 (wi v19) 8))) kr kr (fun hb28 => ?_) (fun hb28 => ?_)
    ·replace H := ite_t H hb28
     refine WC.skip kr ?_
     refine At.go ?_
     refine WC.seq kr ?_
     refine WC.block kr ?_
     refine WC.seq kr ?_
     refine WC.reg [0, 1] kr kr ?_
     refine WR.runk [0, 1] [] [0, 3, 5, 34, 35] (L' := [(0, .pointer (some ⟨b0, 0, none⟩)), (3, .slice A12 v10.length c13), (5, .int .i64 x35_l1), (34, .int .i64 (ior .i64 (wi v17) (ishl .i64 (wi v19) 8))), (35, .int .i64 x35_l1)]) (w' := w) kr ?_
     refine WR.nil ?_
     refine At.go ?_
     refine WC.seq kr ?_
     refine WC.reg [0] kr kr ?_
     refine WR.runk [0] [] [0, 3, 5, 6, 34, 35] (L' := [(0, .pointer (some ⟨b0, 0, none⟩)), (3, .slice A12 v10.length c13), (5, .int .i64 x35_l1), (6, .int .i64 0), (34, .int .i64 (ior .i64 (wi v17) (ishl .i64 (wi v19) 8))), (35, .int .i64 x35_l1)]) (w' := w) kr ?_
     refine WR.nil ?_
     refine At.go ?_
     refine WC.seq kr ?_
     refine WC.seq kr ?_
     refine WC.reg [0] kr kr ?_
     refine WR.runk [0] [] [0, 3, 5, 6, 34, 35, 38] (L' := [(0, .pointer (some ⟨b0, 0, none⟩)), (3, .slice A12 v10.length c13), (5, .int .i64 x35_l1), (6, .int .i64 0), (34, .int .i64 (ior .i64 (wi v17) (ishl .i64 (wi v19) 8))), (35, .int .i64 x35_l1), (38, .int .i64 0)]) (w' := w) kr ?_
     refine WR.nil ?_
     refine At.go ?_
     refine WC.block kr ?_
     have hS : Sat w B [gh K7, pts b0 (.cells #[.slice A1 p0.1.length c2, .slice Aq0p1_l1 q0p1_l1.length cq0p1_l1, .slice A5 p0.2.2.length c6] 80 (0, 0)), osl 3 (r0 (.int .i64)) 1 Aq0p1_l1 cq0p1_l1 q0p1_l1, osl 3 (r0 (.int .i64)) 1 A5 c6 p0.2.2] := hS.sel [0, 1, 2, 3] kr
     obtain ⟨o33, e34, H⟩ := bind_ex H
     refine WC.loop kr ?_
     refine WL.weaken [0, 3, 5, 6, 34, 35, 38] (L' := [(0, .pointer (some ⟨b0, 0, none⟩)), (3, .slice A12 v10.length c13), (5, .int .i64 x35_l1), (6, .int .i64 0), (34, .int .i64 (ior .i64 (wi v17) (ishl .i64 (wi v19) 8))), (35, .int .i64 x35_l1), (38, .int .i64 0)]) kr ?_
     refine image_Image_head.l2_ok B b0 p0 A1 c2 A5 c6 K7 v10 A12 c13 v17 v19 x35_l1 Aq0p1_l1 cq0p1_l1 q0p1_l1 R14 o33 (fun w36 hS => ?_) FU 0 0 _ hS e34
     refine At.hit ?_
     refine At.go ?_
     refine WC.reg [0, 1, 2, 3, 4, 5, 6, 7, 8, 9, 10] kr kr ?_
     refine WR.runk [0, 1, 2, 3] [4, 5, 6, 7, 8, 9, 10] [0, 3, 6, 34, 35, 56, 59] (L' := [(0, .pointer (some ⟨b0, 0, none⟩)), (3, .slice A12 v10.length c13), (6, .int .i64 o33), (34, .int .i64 (ior .i64 (wi v17) (ishl .i64 (wi v19) 8))), (35, .int .i64 x35_l1), (56, .pointer (some ⟨b0, 0, none⟩)), (59, .pointer (some ⟨b0, 1, none⟩))]) (w' := w36) kr ?_
     refine WR.st (St.ofR (RSt.loadObj (t := 47) (k := 1) (v := .slice Aq0p1_l1 q0p1_l1.length cq0p1_l1) (.tmp 59) kr kr kr 1 hS rfl kr rfl ?_))
     refine WR.runk [5] [6, 7, 8, 9, 10] [0, 3, 34, 35, 56, 60, 61] (L' := [(0, .pointer (some ⟨b0, 0, none⟩)), (3, .slice A12 v10.length c13), (34, .int .i64 (ior .i64 (wi v17) (ishl .i64 (wi v19) 8))), (35, .int .i64 x35_l1), (56, .pointer (some ⟨b0, 0, none⟩)), (60, .slice Aq0p1_l1 q0p1_l1.length cq0p1_l1), (61, .int .i64 o33)]) (w' := w36) kr ?_
     refine WR.st (St.box hS kr (.cells #[.int .i64 o33] 3) (fun b38 => .slice (some ⟨b38, 0, none⟩) 1 1) (fun _ => by kernel_rfl) (fun b38 w39 hS => ?_))
     refine WR.runk [] [7, 8, 9, 10] [0, 3, 34, 35, 56, 60, 62] (L' := [(0, .pointer (some ⟨b0, 0, none⟩)), (3, .slice A12 v10.length c13), (34, .int .i64 (ior .i64 (wi v17) (ishl .i64 (wi v19) 8))), (35, .int .i64 x35_l1), (56, .pointer (some ⟨b0, 0, none⟩)), (60, .slice Aq0p1_l1 q0p1_l1.length cq0p1_l1), (62, .slice (some ⟨b38, 0, none⟩) 1 1)]) (w' := w39) kr ?_
     have hS : Sat w39 B [osl 3 (r0 (.int .i64)) 1 Aq0p1_l1 cq0p1_l1 q0p1_l1, pts b38 (.cells #[.int .i64 o33] 3 (0, 0)), gh K7, pts b0 (.cells #[.slice A1 p0.1.length c2, .slice Aq0p1_l1 q0p1_l1.length cq0p1_l1, .slice A5 p0.2.2.length c6] 80 (0, 0)), osl 3 (r0 (.int .i64)) 1 A5 c6 p0.2.2] := hS.sel [3, 0, 1, 2, 4] kr
     obtain ⟨y41, e40, H⟩ := bind_ex H
     refine WR.st (St.append' (.tmp 60) (.tmp 62) kr kr E47 (r0_one _) hS kr kr (Sat.ptsAt 1 (r0 (.int .i64)) 1 ([o33] : List Int) hS rfl rfl (rdL.cons1 rfl (rdL.nil _ _))) 17592186044416 kr kr e40 (fun A42 c43 w44 hS => ?_))
     refine WR.runk [8, 9] [10] [0, 3, 34, 35, 63, 65] (L' := [(0, .pointer (some ⟨b0, 0, none⟩)), (3, .slice A12 v10.length c13), (34, .int .i64 (ior .i64 (wi v17) (ishl .i64 (wi v19) 8))), (35, .int .i64 x35_l1), (63, .slice A42 y41.length c43), (65, .pointer (some ⟨b0, 1, none⟩))]) (w' := w44) kr ?_
     have hS : Sat w44 B [pts b0 (.cells #[.slice A1 p0.1.length c2, .slice Aq0p1_l1 q0p1_l1.length cq0p1_l1, .slice A5 p0.2.2.length c6] 80 (0, 0)), osl 3 (r0 (.int .i64)) 1 A42 c43 y41, pts b38 (.cells #[.int .i64 o33] 3 (0, 0)), gh K7, osl 3 (r0 (.int .i64)) 1 A5 c6 p0.2.2] := hS.sel [3, 0, 1, 2, 4] kr
     refine WR.st (St.storeObj (t := 47) (k := 1) (cur' := #[.slice A1 p0.1.length c2, .slice A42 y41.length c43, .slice A5 p0.2.2.length c6]) (.tmp 65) (.tmp 63) kr kr kr hS kr kr kr rfl rfl (fun w45 hS => ?_))
     refine WR.runk [] [] [0, 3, 34, 35] (L' := [(0, .pointer (some ⟨b0, 0, none⟩)), (3, .slice A12 v10.length c13), (34, .int .i64 (ior .i64 (wi v17) (ishl .i64 (wi v19) 8))), (35, .int .i64 x35_l1)]) (w' := w45) kr ?_
     refine WR.nil ?_
     refine At.blockNormal ?_
     refine At.go ?_
     refine WC.reg [0, 1] kr kr ?_
     refine WR.runk [0, 1] [] [0, 3, 34, 35] (L' := [(0, .pointer (some ⟨b0, 0, none⟩)), (3, .slice A12 v10.length c13), (34, .int .i64 (ior .i64 (wi v17) (ishl .i64 (wi v19) 8))), (35, .int .i64 (wi (x35_l1 + 1)))]) (w' := w45) kr ?_
     refine WR.nil ?_
     have hS : Sat w45 B [gh K7, pts b0 (.cells #[.slice A1 p0.1.length c2, .slice A42 y41.length c43, .slice A5 p0.2.2.length c6] 80 (0, 0)), osl 3 (r0 (.int .i64)) 1 A42 c43 y41, osl 3 (r0 (.int .i64)) 1 A5 c6 p0.2.2] := hS.sel [3, 0, 1, 4] kr
     refine At.again ?_
     refine WL.weaken [0, 3, 34, 35] (L' := [(0, .pointer (some ⟨b0, 0, none⟩)), (3, .slice A12 v10.length c13), (34, .int .i64 (ior .i64 (wi v17) (ishl .i64 (wi v19) 8))), (35, .int .i64 (wi (x35_l1 + 1)))]) kr ?_
     exact ih (wi (x35_l1 + 1)) y41 A42 c43 _ hS H
    ·replace H := ite_f H hb28
     refine WC.exit kr ?_
     refine At.thenExit ?_
     refine At.thenExit ?_
     obtain rfl := Option.some.inj H
     have hS : Sat w B [pts b0 (.cells #[.slice A1 p0.1.length c2, .slice Aq0p1_l1 q0p1_l1.length cq0p1_l1, .slice A5 p0.2.2.length c6] 80 (0, 0)), osl 3 (r0 (.int .i64)) 1 Aq0p1_l1 cq0p1_l1 q0p1_l1, gh K7, osl 3 (r0 (.int .i64)) 1 A5 c6 p0.2.2] := hS.sel [1, 2, 0, 3] kr
     refine At.weaken [0] (L' := [(0, .pointer (some ⟨b0, 0, none⟩))]) kr ?_
     exact hn0 Aq0p1_l1 cq0p1_l1 _ hS
theorem image_Image_head.calls (B : Rf) (w0 : World) (b0 : Nat) (p0 : (List (List Int)) × (List Int) × (List Int)) (hS : Sat w0 B [O80 b0 p0]) (r : Bool × ((List (List Int)) × (List Int) × (List Int))) (H : image_Image_head.f p0 = some r) :
    Calls Try.prog 30 #[.pointer (some ⟨b0, 0, none⟩)] w0 (fun e w' => ∃ v, e = .returned v ∧ image_Image_head.post B b0 p0 w0 r v w') := by
  unfold image_Image_head.f at H
  refine calls_of_WC (vs := [.pointer (some ⟨b0, 0, none⟩)]) Try.func30 (c := C30) (n := 86) kr kr kr ?_
  refine WC.seq kr ?_
  refine WC.reg [0] kr kr ?_
  refine WR.runk [0] [] [0] (L' := [(0, .pointer (some ⟨b0, 0, none⟩))]) (w' := w0) kr ?_
  refine WR.nil ?_
  refine At.go ?_
  refine WC.seq kr ?_
  refine WC.reg [0, 1, 2, 3, 4, 5, 6] kr kr ?_
  refine WR.runk [0, 1, 2] [3, 4, 5, 6] [0, 12] (L' := [(0, .pointer (some ⟨b0, 0, none⟩)), (12, .pointer (some ⟨b0, 0, none⟩))]) (w' := w0) kr ?_
  obtain ⟨A1, c2, A3, c4, A5, c6, hS⟩ := O80.open hS
  have hS : Sat w0 B [pts b0 (.cells #[.slice A1 p0.1.length c2, .slice A3 p0.2.1.length c4, .slice A5 p0.2.2.length c6] 80 (0, 0)), orw 31 (Esl 5 (.int .u8)) 1 A1 c2 p0.1, osl 3 (r0 (.int .i64)) 1 A3 c4 p0.2.1, osl 3 (r0 (.int .i64)) 1 A5 c6 p0.2.2] := hS
  refine WR.st (St.ofR (RSt.loadObj (t := 71) (k := 0) (v := .slice A1 p0.1.length c2) (.tmp 12) kr kr kr 0 hS rfl kr rfl ?_))
  refine WR.runk [] [4, 5, 6] [0, 13] (L' := [(0, .pointer (some ⟨b0, 0, none⟩)), (13, .slice A1 p0.1.length c2)]) (w' := w0) kr ?_
  have hS : Sat w0 B [orw 31 (Esl 5 (.int .u8)) 1 A1 c2 p0.1, pts b0 (.cells #[.slice A1 p0.1.length c2, .slice A3 p0.2.1.length c4, .slice A5 p0.2.2.length c6] 80 (0, 0)), osl 3 (r0 (.int .i64)) 1 A3 c4 p0.2.1, osl 3 (r0 (.int .i64)) 1 A5 c6 p0.2.2] := hS.sel [1, 0, 2, 3] kr
  obtain ⟨K7, hK8, hS⟩ := Sat.gho hS
  have hS : Sat w0 B [gh K7, pts b0 (.cells #[.slice A1 p0.1.length c2, .slice A3 p0.2.1.length c4, .slice A5 p0.2.2.length c6] 80 (0, 0)), osl 3 (r0 (.int .i64)) 1 A3 c4 p0.2.1, osl 3 (r0 (.int .i64)) 1 A5 c6 p0.2.2] := hS
  have R9 : rdS (rd K7 (.slice 5 (.int .u8))) 1 K7 A1 c2 p0.1 := orw.rdS (κ := (.slice 5 (.int .u8))) (Esl.rd (e := 5) (κ := (.int .u8))) hK8
  obtain ⟨v10, e11, H⟩ := bind_ex H
  refine WR.st (St.ofP (PSt.idx (k := .i64) (.tmp 13) (.const (.int .i64 0)) kr kr E71 kr kr (rdS.upd R9 (Sat.ghAt 0 hS rfl)) e11 ?_))
  refine WR.runk [] [5, 6] [0, 14] (L' := [(0, .pointer (some ⟨b0, 0, none⟩)), (14, .pointer (some (adr A1 (0 : Int).toNat 1)))]) (w' := w0) kr ?_
  refine WR.st (St.ofR (RSt.loadSl (t := 31) (.tmp 14) kr kr kr kr R9 e11 (Sat.ghAt 0 hS rfl) (fun A12 c13 R14 => ?_)))
  replace R14 : rdS (r0 (.int .u8)) 1 K7 A12 c13 v10 := R14
  refine WR.runk [6] [] [0, 3] (L' := [(0, .pointer (some ⟨b0, 0, none⟩)), (3, .slice A12 v10.length c13)]) (w' := w0) kr ?_
  refine WR.nil ?_
  refine At.go ?_
  refine WC.seq kr ?_
  refine WC.drawn kr kr 11 kr (fun w15 hw16 => ?_)
  have hS := hS.heap hw16.1 hw16.2
  refine WD.weaken [0, 3] (L' := [(0, .pointer (some ⟨b0, 0, none⟩)), (3, .slice A12 v10.length c13)]) kr ?_
  refine WD.pure (i := 0) (v := .slice A12 v10.length c13) kr kr (fun _ => by kernel_rfl) ?_
  refine WD.weaken [0, 3, 16] (L' := [(0, .pointer (some ⟨b0, 0, none⟩)), (3, .slice A12 v10.length c13), (16, .slice A12 v10.length c13)]) kr ?_
  obtain ⟨v17, e18, H⟩ := bind_ex H
  refine WD.ofP (i := 1) kr (PSt.idx (k := .i64) (.tmp 16) (.const (.int .i64 4)) kr kr E31 kr kr (rdS.up R14 (Sat.ghAt 0 hS rfl)) e18 ?_)
  refine WD.weaken [0, 3, 17] (L' := [(0, .pointer (some ⟨b0, 0, none⟩)), (3, .slice A12 v10.length c13), (17, .pointer (some (adr A12 (4 : Int).toNat 1)))]) kr ?_
  refine WD.ofR (i := 2) kr (RSt.loadInt (t := 5) (.tmp 17) kr kr kr kr (rdS.up R14 (Sat.ghAt 0 hS rfl)) e18 ?_)
  refine WD.weaken [0, 3, 18] (L' := [(0, .pointer (some ⟨b0, 0, none⟩)), (3, .slice A12 v10.length c13), (18, .int .u8 v17)]) kr ?_
  refine WD.pure (i := 3) (v := .int .i64 (wi v17)) kr kr (fun _ => by kernel_rfl) ?_
  refine WD.weaken [0, 3, 19] (L' := [(0, .pointer (some ⟨b0, 0, none⟩)), (3, .slice A12 v10.length c13), (19, .int .i64 (wi v17))]) kr ?_
  refine WD.pure (i := 4) (v := .slice A12 v10.length c13) kr kr (fun _ => by kernel_rfl) ?_
  refine WD.weaken [0, 3, 19, 20] (L' := [(0, .pointer (some ⟨b0, 0, none⟩)), (3, .slice A12 v10.length c13), (19, .int .i64 (wi v17)), (20, .slice A12 v10.length c13)]) kr ?_
  obtain ⟨v19, e20, H⟩ := bind_ex H
  refine WD.ofP (i := 5) kr (PSt.idx (k := .i64) (.tmp 20) (.const (.int .i64 5)) kr kr E31 kr kr (rdS.up R14 (Sat.ghAt 0 hS rfl)) e20 ?_)
  refine WD.weaken [0, 3, 19, 21] (L' := [(0, .pointer (some ⟨b0, 0, none⟩)), (3, .slice A12 v10.length c13), (19, .int .i64 (wi v17)), (21, .pointer (some (adr A12 (5 : Int).toNat 1)))]) kr ?_
  refine WD.ofR (i := 6) kr (RSt.loadInt (t := 5) (.tmp 21) kr kr kr kr (rdS.up R14 (Sat.ghAt 0 hS rfl)) e20 ?_)
  refine WD.weaken [0, 3, 19, 22] (L' := [(0, .pointer (some ⟨b0, 0, none⟩)), (3, .slice A12 v10.length c13), (19, .int .i64 (wi v17)), (22, .int .u8 v19)]) kr ?_
  refine WD.pure (i := 7) (v := .int .i64 (wi v19)) kr kr (fun _ => by kernel_rfl) ?_
  refine WD.weaken [0, 3, 19, 23] (L' := [(0, .pointer (some ⟨b0, 0, none⟩)), (3, .slice A12 v10.length c13), (19, .int .i64 (wi v17)), (23, .int .i64 (wi v19))]) kr ?_
  refine WD.pure (i := 8) (v := .int .i64 (ishl .i64 (wi v19) 8)) kr kr (fun _ => by kernel_rfl) ?_
  refine WD.weaken [0, 3, 19, 24] (L' := [(0, .pointer (some ⟨b0, 0, none⟩)), (3, .slice A12 v10.length c13), (19, .int .i64 (wi v17)), (24, .int .i64 (ishl .i64 (wi v19) 8))]) kr ?_
  refine WD.pure (i := 9) (v := .int .i64 (ior .i64 (wi v17) (ishl .i64 (wi v19) 8))) kr kr (fun _ => by kernel_rfl) ?_
  refine WD.weaken [0, 3, 25] (L' := [(0, .pointer (some ⟨b0, 0, none⟩)), (3, .slice A12 v10.length c13), (25, .int .i64 (ior .i64 (wi v17) (ishl .i64 (wi v19) 8)))]) kr ?_
  refine WD.pure (i := 10) (v := .int .i64 (ior .i64 (wi v17) (ishl .i64 (wi v19) 8))) kr kr (fun _ => by kernel_rfl) ?_
  refine WD.weaken [0, 3, 4] (L' := [(0, .pointer (some ⟨b0, 0, none⟩)), (3, .slice A12 v10.length c13), (4, .int .i64 (ior .i64 (wi v17) (ishl .i64 (wi v19) 8)))]) kr ?_
  refine WD.nil kr ?_
  refine At.go ?_
  refine WC.seq kr ?_
  refine WC.seq kr ?_
  refine WC.reg [0, 1, 2, 3, 4, 5, 6, 7] kr kr ?_
  refine WR.runk [0] [1, 2, 3, 4, 5, 6, 7] [0, 3, 4, 26] (L' := [(0, .pointer (some ⟨b0, 0, none⟩)), (3, .slice A12 v10.length c13), (4, .int .i64 (ior .i64 (wi v17) (ishl .i64 (wi v19) 8))), (26, .slice A12 v10.length c13)]) (w' := w15) kr ?_
  obtain ⟨y21, e22, H⟩ := bind_ex H
  refine WR.st (St.ofP (PSt.sub (A := A12) (c := c13) (.tmp 26) none (some (.const (.int .i64 4))) none kr kr E31 kr (rdS.up R14 (Sat.ghAt 0 hS rfl)).1 e22 rfl (Exists.intro IntKind.i64 kr) trivial (fun A23 c24 T25 => ?_)))
  refine WR.runk [] [2, 3, 4, 5, 6, 7] [0, 3, 4, 27] (L' := [(0, .pointer (some ⟨b0, 0, none⟩)), (3, .slice A12 v10.length c13), (4, .int .i64 (ior .i64 (wi v17) (ishl .i64 (wi v19) 8))), (27, .slice A23 y21.length c24)]) (w' := w15) kr ?_
  refine WR.st (St.ofR (RSt.toStr (src := 31) (dst := 9) (e := 5) (.tmp 27) kr kr kr kr kr kr (T25.rd _ _ (rdS.up R14 (Sat.ghAt 0 hS rfl))) ?_))
  refine WR.runk [3, 4] [5, 6, 7] [0, 3, 4, 30] (L' := [(0, .pointer (some ⟨b0, 0, none⟩)), (3, .slice A12 v10.length c13), (4, .int .i64 (ior .i64 (wi v17) (ishl .i64 (wi v19) 8))), (30, .bool (!((bs y21).toList == (⟨#[99, 111, 108, 111]⟩ : ByteArray).toList)))]) (w' := w15) kr ?_
  refine WR.split 30 (b := (!((bs y21).toList == (⟨#[99, 111, 108, 111]⟩ : ByteArray).toList))) kr (fun hb26 => ?_) (fun hb26 => ?_)
  ·replace H := ite_t H hb26
   refine WR.runk [5, 6, 7] [] [0, 3, 4, 33] (L' := [(0, .pointer (some ⟨b0, 0, none⟩)), (3, .slice A12 v10.length c13), (4, .int .i64 (ior .i64 (wi v17) (ishl .i64 (wi v19) 8))), (33, .bool true)]) (w' := w15) kr ?_
   refine WR.nil ?_
   refine At.go ?_
   refine WC.condT kr kr kr ?_
   refine WC.seq kr ?_
   refine WC.reg [0] kr kr ?_
   refine WR.runk [0] [] [2] (L' := [(2, .bool false)]) (w' := w15) kr ?_
   refine WR.nil ?_
   refine At.go ?_
   refine WC.ret kr ?_
   refine At.thenRet ?_
   obtain rfl := Option.some.inj H
   have hS : Sat w15 B [orw 31 (Esl 5 (.int .u8)) 1 A1 c2 p0.1, pts b0 (.cells #[.slice A1 p0.1.length c2, .slice A3 p0.2.1.length c4, .slice A5 p0.2.2.length c6] 80 (0, 0)), osl 3 (r0 (.int .i64)) 1 A3 c4 p0.2.1, osl 3 (r0 (.int .i64)) 1 A5 c6 p0.2.2] := Sat.ungh hK8 hS
   have hS : Sat w15 B [pts b0 (.cells #[.slice A1 p0.1.length c2, .slice A3 p0.2.1.length c4, .slice A5 p0.2.2.length c6] 80 (0, 0)), orw 31 (Esl 5 (.int .u8)) 1 A1 c2 p0.1, osl 3 (r0 (.int .i64)) 1 A3 c4 p0.2.1, osl 3 (r0 (.int .i64)) 1 A5 c6 p0.2.2] := hS.sel [1, 0, 2, 3] kr
   have hS : Sat w15 B [O80 b0 p0] := O80.close p0 A1 c2 A3 c4 A5 c6 hS
   have hS : Sat w15 B [O80 b0 p0] := hS.sel [0] kr
   exact At.body [.bool false] kr ⟨_, rfl, rfl, hS⟩
  ·replace H := ite_f H hb26
   refine WR.runk [5, 6, 7] [] [0, 3, 4, 33] (L' := [(0, .pointer (some ⟨b0, 0, none⟩)), (3, .slice A12 v10.length c13), (4, .int .i64 (ior .i64 (wi v17) (ishl .i64 (wi v19) 8))), (33, .bool (decide (ior .i64 (wi v17) (ishl .i64 (wi v19) 8) > 60)))]) (w' := w15) kr ?_
   refine WR.nil ?_
   refine At.go ?_
   refine WC.cond kr (decide (ior .i64 (wi v17) (ishl .i64 (wi v19) 8) > 60)) kr kr (fun hb27 => ?_) (fun hb27 => ?_)
   ·replace H := ite_t H hb27
    refine WC.seq kr ?_
    refine WC.reg [0] kr kr ?_
    refine WR.runk [0] [] [2] (L' := [(2, .bool false)]) (w' := w15) kr ?_
    refine WR.nil ?_
    refine At.go ?_
    refine WC.ret kr ?_
    refine At.thenRet ?_
    obtain rfl := Option.some.inj H
    have hS : Sat w15 B [orw 31 (Esl 5 (.int .u8)) 1 A1 c2 p0.1, pts b0 (.cells #[.slice A1 p0.1.length c2, .slice A3 p0.2.1.length c4, .slice A5 p0.2.2.length c6] 80 (0, 0)), osl 3 (r0 (.int .i64)) 1 A3 c4 p0.2.1, osl 3 (r0 (.int .i64)) 1 A5 c6 p0.2.2] := Sat.ungh hK8 hS
    have hS : Sat w15 B [pts b0 (.cells #[.slice A1 p0.1.length c2, .slice A3 p0.2.1.length c4, .slice A5 p0.2.2.length c6] 80 (0, 0)), orw 31 (Esl 5 (.int .u8)) 1 A1 c2 p0.1, osl 3 (r0 (.int .i64)) 1 A3 c4 p0.2.1, osl 3 (r0 (.int .i64)) 1 A5 c6 p0.2.2] := hS.sel [1, 0, 2, 3] kr
    have hS : Sat w15 B [O80 b0 p0] := O80.close p0 A1 c2 A3 c4 A5 c6 hS
    have hS : Sat w15 B [O80 b0 p0] := hS.sel [0] kr
    exact At.body [.bool false] kr ⟨_, rfl, rfl, hS⟩
   ·replace H := ite_f H hb27
    refine WC.skip kr ?_
    refine At.go ?_
    refine WC.seq kr ?_
    refine WC.seq kr ?_
    refine WC.reg [0, 1] kr kr ?_
    refine WR.runk [0, 1] [] [0, 3, 34, 35] (L' := [(0, .pointer (some ⟨b0, 0, none⟩)), (3, .slice A12 v10.length c13), (34, .int .i64 (ior .i64 (wi v17) (ishl .i64 (wi v19) 8))), (35, .int .i64 0)]) (w' := w15) kr ?_
    refine WR.nil ?_
    refine At.go ?_
    refine WC.block kr ?_
    have hS : Sat w15 B [gh K7, pts b0 (.cells #[.slice A1 p0.1.length c2, .slice A3 p0.2.1.length c4, .slice A5 p0.2.2.length c6] 80 (0, 0)), osl 3 (r0 (.int .i64)) 1 A3 c4 p0.2.1, osl 3 (r0 (.int .i64)) 1 A5 c6 p0.2.2] := hS.sel [0, 1, 2, 3] kr
    obtain ⟨o46, e47, H⟩ := bind_ex H
    refine WC.loop kr ?_
    refine WL.weaken [0, 3, 34, 35] (L' := [(0, .pointer (some ⟨b0, 0, none⟩)), (3, .slice A12 v10.length c13), (34, .int .i64 (ior .i64 (wi v17) (ishl .i64 (wi v19) 8))), (35, .int .i64 0)]) kr ?_
    refine image_Image_head.l1_ok B b0 p0 A1 c2 A5 c6 K7 v10 A12 c13 v17 v19 R14 o46 (fun Aq0p1_q48 cq0p1_q48 w49 hS => ?_) FU 0 p0.2.1 A3 c4 _ hS e47
    refine At.hit ?_
    refine At.go ?_
    refine WC.seq kr ?_
    refine WC.reg [0, 1, 2, 3, 4, 5, 6, 7, 8, 9] kr kr ?_
    refine WR.runk [0, 1, 2] [3, 4, 5, 6, 7, 8, 9] [0, 70] (L' := [(0, .pointer (some ⟨b0, 0, none⟩)), (70, .pointer (some ⟨b0, 1, none⟩))]) (w' := w49) kr ?_
    refine WR.st (St.ofR (RSt.loadObj (t := 47) (k := 1) (v := .slice Aq0p1_q48 o46.length cq0p1_q48) (.tmp 70) kr kr kr 0 hS rfl kr rfl ?_))
    refine WR.runk [] [4, 5, 6, 7, 8, 9] [0, 71] (L' := [(0, .pointer (some ⟨b0, 0, none⟩)), (71, .slice Aq0p1_q48 o46.length cq0p1_q48)]) (w' := w49) kr ?_
    obtain ⟨r51, e52, H⟩ := bind_ex H
    refine WR.st (St.call kr (f := 26) (args := #[.slice Aq0p1_q48 o46.length cq0p1_q48]) kr (image_plan.calls w49 Aq0p1_q48 cq0p1_q48 o46 (Sat.rdAt 1 hS rfl) r51 e52) ?_)
    rintro _ w58 ⟨A60, c61, rfl, hS59⟩
    have hS : Sat w58 B [osl 3 (r0 (.int .i64)) 1 A60 c61 r51.1, pts b0 (.cells #[.slice A1 p0.1.length c2, .slice Aq0p1_q48 o46.length cq0p1_q48, .slice A5 p0.2.2.length c6] 80 (0, 0)), osl 3 (r0 (.int .i64)) 1 Aq0p1_q48 cq0p1_q48 o46, gh K7, osl 3 (r0 (.int .i64)) 1 A5 c6 p0.2.2] := hS.ext hS59
    refine WR.runk [5, 6, 7, 8, 9] [] [0, 8, 9] (L' := [(0, .pointer (some ⟨b0, 0, none⟩)), (8, .slice A60 r51.1.length c61), (9, .int .i64 r51.2)]) (w' := w58) kr ?_
    refine WR.nil ?_
    refine At.go ?_
    refine WC.seq kr ?_
    refine WC.reg [0, 1, 2, 3, 4] kr kr ?_
    refine WR.runk [0, 1, 2, 3] [4] [0, 9, 76, 78] (L' := [(0, .pointer (some ⟨b0, 0, none⟩)), (9, .int .i64 r51.2), (76, .slice A60 r51.1.length c61), (78, .pointer (some ⟨b0, 2, none⟩))]) (w' := w58) kr ?_
    have hS : Sat w58 B [pts b0 (.cells #[.slice A1 p0.1.length c2, .slice Aq0p1_q48 o46.length cq0p1_q48, .slice A5 p0.2.2.length c6] 80 (0, 0)), osl 3 (r0 (.int .i64)) 1 A60 c61 r51.1, osl 3 (r0 (.int .i64)) 1 Aq0p1_q48 cq0p1_q48 o46, gh K7, osl 3 (r0 (.int .i64)) 1 A5 c6 p0.2.2] := hS.sel [1, 0, 2, 3, 4] kr
    refine WR.st (St.storeObj (t := 47) (k := 2) (cur' := #[.slice A1 p0.1.length c2, .slice Aq0p1_q48 o46.length cq0p1_q48, .slice A60 r51.1.length c61]) (.tmp 78) (.tmp 76) kr kr kr hS kr kr kr rfl rfl (fun w62 hS => ?_))
    refine WR.runk [] [] [0, 9] (L' := [(0, .pointer (some ⟨b0, 0, none⟩)), (9, .int .i64 r51.2)]) (w' := w62) kr ?_
    refine WR.nil ?_
    refine At.go ?_
    refine WC.seq kr ?_
    refine WC.reg [0, 1, 2, 3, 4, 5, 6, 7] kr kr ?_
    refine WR.runk [0, 1, 2, 3] [4, 5, 6, 7] [79, 82] (L' := [(79, .int .i64 r51.2), (82, .pointer (some ⟨b0, 0, none⟩))]) (w' := w62) kr ?_
    refine WR.st (St.ofR (RSt.loadObj (t := 71) (k := 0) (v := .slice A1 p0.1.length c2) (.tmp 82) kr kr kr 0 hS rfl kr rfl ?_))
    refine WR.runk [5, 6, 7] [] [2] (L' := [(2, .bool (r51.2 == (p0.1.length : Int)))]) (w' := w62) kr ?_
    refine WR.nil ?_
    refine At.go ?_
    refine WC.ret kr ?_
    obtain rfl := Option.some.inj H
    have hS : Sat w62 B [gh K7, pts b0 (.cells #[.slice A1 p0.1.length c2, .slice Aq0p1_q48 o46.length cq0p1_q48, .slice A60 r51.1.length c61] 80 (0, 0)), osl 3 (r0 (.int .i64)) 1 A60 c61 r51.1, osl 3 (r0 (.int .i64)) 1 Aq0p1_q48 cq0p1_q48 o46, osl 3 (r0 (.int .i64)) 1 A5 c6 p0.2.2] := hS.sel [3, 0, 1, 2, 4] kr
    have hS : Sat w62 B [orw 31 (Esl 5 (.int .u8)) 1 A1 c2 p0.1, pts b0 (.cells #[.slice A1 p0.1.length c2, .slice Aq0p1_q48 o46.length cq0p1_q48, .slice A60 r51.1.length c61] 80 (0, 0)), osl 3 (r0 (.int .i64)) 1 A60 c61 r51.1, osl 3 (r0 (.int .i64)) 1 Aq0p1_q48 cq0p1_q48 o46, osl 3 (r0 (.int .i64)) 1 A5 c6 p0.2.2] := Sat.ungh hK8 hS
    have hS : Sat w62 B [pts b0 (.cells #[.slice A1 p0.1.length c2, .slice Aq0p1_q48 o46.length cq0p1_q48, .slice A60 r51.1.length c61] 80 (0, 0)), orw 31 (Esl 5 (.int .u8)) 1 A1 c2 p0.1, osl 3 (r0 (.int .i64)) 1 Aq0p1_q48 cq0p1_q48 o46, osl 3 (r0 (.int .i64)) 1 A60 c61 r51.1, osl 3 (r0 (.int .i64)) 1 A5 c6 p0.2.2] := hS.sel [1, 0, 3, 2, 4] kr
    have hS : Sat w62 B [O80 b0 (p0.1, o46, r51.1), osl 3 (r0 (.int .i64)) 1 A5 c6 p0.2.2] := O80.close (p0.1, o46, r51.1) A1 c2 Aq0p1_q48 cq0p1_q48 A60 c61 hS
    have hS : Sat w62 B [O80 b0 (p0.1, o46, r51.1)] := hS.sel [0] kr
    exact At.body [.bool (r51.2 == (p0.1.length : Int))] kr ⟨_, rfl, rfl, hS⟩
/-! ### 44 (*colophon/image.Image).Sections -/
def image_Image_Sections.f (p0 : Option ((List (List Int)) × (List Int) × (List Int))) : Option Int := (match p0 with | none => some 0 | some y3 => some (y3.2.1.length : Int))
def image_Image_Sections.post (w : World) (r : Int) (v : Value) (w' : World) : Prop := v = (.int .i64 r : Value) ∧ Sat w' (rf w) []
theorem image_Image_Sections.calls (w0 : World) (v0 : Value) (p0 : Option ((List (List Int)) × (List Int) × (List Int))) (R0 : rd (hp w0) (.ptr 80 (.pair (.slice 31 (.slice 5 (.int .u8))) (.pair (.slice 3 (.int .i64)) (.slice 3 (.int .i64))))) [v0] p0) (r : Int) (H : image_Image_Sections.f p0 = some r) :
    Calls Try.prog 44 #[v0] w0 (fun e w' => ∃ v, e = .returned v ∧ image_Image_Sections.post w0 r v w') := by
  have hS : Sat w0 (rf w0) [] := Sat.start w0
  unfold image_Image_Sections.f at H
  refine calls_of_WC (vs := [v0]) Try.func44 (c := C44) (n := 10) kr kr kr ?_
  refine WC.seq kr ?_
  refine WC.reg [0] kr kr ?_
  refine WR.runk [0] [] [0] (L' := [(0, v0)]) (w' := w0) kr ?_
  refine WR.nil ?_
  refine At.go ?_
  refine WC.seq kr ?_
  refine WC.seq kr ?_
  refine WC.reg [0, 1] kr kr ?_
  refine WR.runk [0] [1] [0, 3] (L' := [(0, v0), (3, v0)]) (w' := w0) kr ?_
  rcases opt_cases p0 with hr1 | ⟨y3, hr1⟩
  ·rw [hr1] at H
   dsimp only at H
   have hx2 := rd_ptr_none R0 hr1
   try subst hx2
   refine WR.runk [1] [] [0, 4] (L' := [(0, .pointer none), (4, .bool true)]) (w' := w0) kr ?_
   refine WR.nil ?_
   refine At.go ?_
   refine WC.condT kr kr kr ?_
   refine WC.seq kr ?_
   refine WC.reg [0] kr kr ?_
   refine WR.runk [0] [] [2] (L' := [(2, .int .i64 0)]) (w' := w0) kr ?_
   refine WR.nil ?_
   refine At.go ?_
   refine WC.ret kr ?_
   refine At.thenRet ?_
   obtain rfl := Option.some.inj H
   have hS : Sat w0 (rf w0) [] := hS.sel [] kr
   exact At.body [.int .i64 0] kr ⟨_, rfl, rfl, hS⟩
  ·rw [hr1] at H
   dsimp only at H
   obtain ⟨b4, fr5, A9, c10, A12, c13, A15, c16, hv6, hb7, R11, R14, R17⟩ := P80.open R0 hr1
   have R8 := R0
   rw [hv6, hr1] at R8
   try subst hv6
   replace R11 : rdS (rd (hp w0) (.slice 5 (.int .u8))) 1 (hp w0) A9 c10 y3.1 := R11
   replace R14 : rdS (r0 (.int .i64)) 1 (hp w0) A12 c13 y3.2.1 := R14
   replace R17 : rdS (r0 (.int .i64)) 1 (hp w0) A15 c16 y3.2.2 := R17
   refine WR.runk [1] [] [0, 4] (L' := [(0, .pointer (some ⟨b4, 0, none⟩)), (4, .bool false)]) (w' := w0) kr ?_
   refine WR.nil ?_
   refine At.go ?_
   refine WC.condF kr kr kr ?_
   refine WC.skip kr ?_
   refine At.go ?_
   refine WC.seq kr ?_
   refine WC.reg [0, 1, 2, 3, 4, 5] kr kr ?_
   refine WR.runk [0, 1, 2] [3, 4, 5] [7] (L' := [(7, .pointer (some ⟨b4, 1, none⟩))]) (w' := w0) kr ?_
   refine WR.st (St.ofR (RSt.loadRo (t := 47) (k := 1) (v := .slice A12 y3.2.1.length c13) (.tmp 7) kr kr kr hS.sub0 hb7 kr rfl ?_))
   refine WR.runk [4, 5] [] [2] (L' := [(2, .int .i64 (y3.2.1.length : Int))]) (w' := w0) kr ?_
   refine WR.nil ?_
   refine At.go ?_
   refine WC.ret kr ?_
   obtain rfl := Option.some.inj H
   have hS : Sat w0 (rf w0) [] := hS.sel [] kr
   exact At.body [.int .i64 (y3.2.1.length : Int)] kr ⟨_, rfl, rfl, hS⟩
/-! ### 41 (*colophon/image.Image).has -/
def image_Image_has.f (p0 : Option ((List (List Int)) × (List Int) × (List Int))) (a1 : Int) : Option Bool := (if decide (a1 ≥ 0) then ((image_Image_Sections.f p0).bind fun r2 => some (decide (a1 < r2))) else some false)
def image_Image_has.post (w : World) (r : Bool) (v : Value) (w' : World) : Prop := v = (.bool r : Value) ∧ Sat w' (rf w) []
theorem image_Image_has.calls (w0 : World) (v0 : Value) (p0 : Option ((List (List Int)) × (List Int) × (List Int))) (R0 : rd (hp w0) (.ptr 80 (.pair (.slice 31 (.slice 5 (.int .u8))) (.pair (.slice 3 (.int .i64)) (.slice 3 (.int .i64))))) [v0] p0) (a1 : Int) (r : Bool) (H : image_Image_has.f p0 a1 = some r) :
    Calls Try.prog 41 #[v0, .int .i64 a1] w0 (fun e w' => ∃ v, e = .returned v ∧ image_Image_has.post w0 r v w') := by
  have hS : Sat w0 (rf w0) [] := Sat.start w0
  unfold image_Image_has.f at H
  refine calls_of_WC (vs := [v0, .int .i64 a1]) Try.func41 (c := C41) (n := 13) kr kr kr ?_
  refine WC.seq kr ?_
  refine WC.reg [0] kr kr ?_
  refine WR.runk [0] [] [0, 1] (L' := [(0, v0), (1, .int .i64 a1)]) (w' := w0) kr ?_
  refine WR.nil ?_
  refine At.go ?_
  refine WC.seq kr ?_
  refine WC.reg [0, 1, 2, 3, 4, 5, 6, 7, 8] kr kr ?_
  refine WR.runk [0, 1, 2] [3, 4, 5, 6, 7, 8] [0, 1, 7] (L' := [(0, v0), (1, .int .i64 a1), (7, .bool (decide (a1 ≥ 0)))]) (w' := w0) kr ?_
  refine WR.split 7 (b := decide (a1 ≥ 0)) kr (fun hb1 => ?_) (fun hb1 => ?_)
  ·replace H := ite_t H hb1
   refine WR.runk [3, 4] [5, 6, 7, 8] [7, 8, 9] (L' := [(7, .bool true), (8, .int .i64 a1), (9, v0)]) (w' := w0) kr ?_
   obtain ⟨r2, e3, H⟩ := bind_ex H
   refine WR.st (St.call kr (f := 44) (args := #[v0]) kr (image_Image_Sections.calls w0 (v0) p0 (rd.mono hS.sub0 _ _ _ R0) r2 e3) ?_)
   rintro _ w9 ⟨rfl, hS10⟩
   have hS : Sat w9 (rf w0) [] := hS.ext hS10
   refine WR.runk [6, 7, 8] [] [4] (L' := [(4, .bool (decide (a1 < r2)))]) (w' := w9) kr ?_
   refine WR.nil ?_
   refine At.go ?_
   refine WC.ret kr ?_
   obtain rfl := Option.some.inj H
   have hS : Sat w9 (rf w0) [] := hS.sel [] kr
   exact At.body [.bool (decide (a1 < r2))] kr ⟨_, rfl, rfl, hS⟩
  ·replace H := ite_f H hb1
   refine WR.runk [3, 4, 5, 6, 7, 8] [] [4] (L' := [(4, .bool false)]) (w' := w0) kr ?_
   refine WR.nil ?_
   refine At.go ?_
   refine WC.ret kr ?_
   obtain rfl := Option.some.inj H
   have hS : Sat w0 (rf w0) [] := hS.sel [] kr
   exact At.body [.bool false] kr ⟨_, rfl, rfl, hS⟩
/-! ### 42 slices.Concat[[]byte,byte] -/
def slices_Concat.l1 (l0 : List (List Int)) : Nat → Int → Int → Option Int
  | 0, _, _ => none
  | k + 1, x3_l1, x11_l1 => (if decide (x11_l1 < (l0.length : Int)) then ((at? l0 x11_l1).bind fun v2 => (if decide (wi (x3_l1 + (v2.length : Int)) < 0) then none else slices_Concat.l1 l0 k (wi (x3_l1 + (v2.length : Int))) (wi (x11_l1 + 1)))) else some x3_l1)
def slices_Concat.l2 (l0 : List (List Int)) : Nat → (List Int) → Int → Option (List Int)
  | 0, _, _ => none
  | k + 1, x6_l2, x27_l2 => (if decide (x27_l2 < (l0.length : Int)) then ((at? l0 x27_l2).bind fun v20 => ((app? 140737488355328 x6_l2 v20).bind fun y26 => slices_Concat.l2 l0 k y26 (wi (x27_l2 + 1)))) else some x6_l2)
def slices_Concat.f (l0 : List (List Int)) : Option (List Int) := ((slices_Concat.l1 l0 FU 0 0).bind fun o8 => ((slices_Grow.f o8).bind fun r13 => ((slices_Concat.l2 l0 FU r13 0).bind fun o30 => some o30)))
def slices_Concat.post (w : World) (r : (List Int)) (v : Value) (w' : World) : Prop := ∃ (A0' : Option Addr) (c0' : Nat), v = (.slice A0' r.length c0' : Value) ∧ Sat w' (rf w) [osl 5 (r0 (.int .u8)) 1 A0' c0' r]
theorem slices_Concat.l1_ok {Q} (w0 : World) (A0 : Option Addr) (c0 : Nat) (l0 : List (List Int)) (R0 : rdS (rd (hp w0) (.slice 5 (.int .u8))) 1 (hp w0) A0 c0 l0) (out : Int) (hn0 : ∀ (w : World), Sat w (rf w0) [] → At Q (.exit 0) 36 [(0, .slice A0 l0.length c0), (3, .int .i64 out)] w) :
    ∀ (k : Nat) (x3_l1 : Int) (x11_l1 : Int) (w : World), Sat w (rf w0) [] → slices_Concat.l1 l0 k x3_l1 x11_l1 = some out → WL Try.prog (cbody (cbody (cr (cl (cr (cr C42)))))) Q 36 [(0, .slice A0 l0.length c0), (3, .int .i64 x3_l1), (9, .slice A0 l0.length c0), (10, .int .i64 (l0.length : Int)), (11, .int .i64 x11_l1)] w := by
  intro k
  induction k with
  | zero => intro x3_l1 x11_l1 w hS H; exact absurd (show none = some out from H) (by simp)
  | succ k ih =>
    intro x3_l1 x11_l1 w hS H
    unfold slices_Concat.l1 at H
    refine WL.round ?_
    refine WC.seq kr ?_
    refine WC.reg [0] kr kr ?_
    refine WR.runk [0] [] [0, 3, 9, 10, 11, 12] (L' := [(0, .slice A0 l0.length c0), (3, .int .i64 x3_l1), (9, .slice A0 l0.length c0), (10, .int .i64 (l0.length : Int)), (11, .int .i64 x11_l1), (12, .bool (decide (x11_l1 < (l0.length : Int))))]) (w' := w) kr ?_
    refine WR.nil ?_
    refine At.go ?_
    refine WC.seq kr ?_
    refine WC.cond kr (decide (x11_l1 < (l0.length : Int))) kr kr (fun hb1 => ?_) (fun hb1 => ?_)
    ·replace H := ite_t H hb1
     refine WC.skip kr ?_
     refine At.go ?_
     refine WC.seq kr ?_
     refine WC.block kr ?_
     refine WC.seq kr ?_
     refine WC.reg [0, 1, 2] kr kr ?_
     refine WR.runk [] [0, 1, 2] [0, 3, 9, 10, 11] (L' := [(0, .slice A0 l0.length c0), (3, .int .i64 x3_l1), (9, .slice A0 l0.length c0), (10, .int .i64 (l0.length : Int)), (11, .int .i64 x11_l1)]) (w' := w) kr ?_
     obtain ⟨v2, e3, H⟩ := bind_ex H
     refine WR.st (St.ofP (PSt.idx (k := .i64) (.tmp 9) (.tmp 11) kr kr E71 kr kr (rdS.up R0 hS.sub0) e3 ?_))
     refine WR.runk [] [1, 2] [0, 3, 9, 10, 11, 13] (L' := [(0, .slice A0 l0.length c0), (3, .int .i64 x3_l1), (9, .slice A0 l0.length c0), (10, .int .i64 (l0.length : Int)), (11, .int .i64 x11_l1), (13, .pointer (some (adr A0 x11_l1.toNat 1)))]) (w' := w) kr ?_
     refine WR.st (St.ofR (RSt.loadSl (t := 31) (.tmp 13) kr kr kr kr R0 e3 hS.sub0 (fun A4 c5 R6 => ?_)))
     replace R6 : rdS (r0 (.int .u8)) 1 (hp w0) A4 c5 v2 := R6
     refine WR.runk [2] [] [0, 3, 5, 9, 10, 11] (L' := [(0, .slice A0 l0.length c0), (3, .int .i64 x3_l1), (5, .slice A4 v2.length c5), (9, .slice A0 l0.length c0), (10, .int .i64 (l0.length : Int)), (11, .int .i64 x11_l1)]) (w' := w) kr ?_
     refine WR.nil ?_
     refine At.go ?_
     refine WC.seq kr ?_
     refine WC.reg [0, 1, 2, 3, 4] kr kr ?_
     refine WR.runk [0, 1, 2, 3, 4] [] [0, 3, 9, 10, 11] (L' := [(0, .slice A0 l0.length c0), (3, .int .i64 (wi (x3_l1 + (v2.length : Int)))), (9, .slice A0 l0.length c0), (10, .int .i64 (l0.length : Int)), (11, .int .i64 x11_l1)]) (w' := w) kr ?_
     refine WR.nil ?_
     refine At.go ?_
     refine WC.seq kr ?_
     refine WC.reg [0, 1] kr kr ?_
     refine WR.runk [0, 1] [] [0, 3, 9, 10, 11, 20] (L' := [(0, .slice A0 l0.length c0), (3, .int .i64 (wi (x3_l1 + (v2.length : Int)))), (9, .slice A0 l0.length c0), (10, .int .i64 (l0.length : Int)), (11, .int .i64 x11_l1), (20, .bool (decide (wi (x3_l1 + (v2.length : Int)) < 0)))]) (w' := w) kr ?_
     refine WR.nil ?_
     refine At.go ?_
     refine WC.cond kr (decide (wi (x3_l1 + (v2.length : Int)) < 0)) kr kr (fun hb7 => ?_) (fun hb7 => ?_)
     ·replace H := ite_t H hb7
      exact absurd (show none = some _ from H) (by simp)
     ·replace H := ite_f H hb7
      refine WC.skip kr ?_
      refine At.blockNormal ?_
      refine At.go ?_
      refine WC.reg [0, 1] kr kr ?_
      refine WR.runk [0, 1] [] [0, 3, 9, 10, 11] (L' := [(0, .slice A0 l0.length c0), (3, .int .i64 (wi (x3_l1 + (v2.length : Int)))), (9, .slice A0 l0.length c0), (10, .int .i64 (l0.length : Int)), (11, .int .i64 (wi (x11_l1 + 1)))]) (w' := w) kr ?_
      refine WR.nil ?_
      have hS : Sat w (rf w0) [] := hS.sel [] kr
      refine At.again ?_
      refine WL.weaken [0, 3, 9, 10, 11] (L' := [(0, .slice A0 l0.length c0), (3, .int .i64 (wi (x3_l1 + (v2.length : Int)))), (9, .slice A0 l0.length c0), (10, .int .i64 (l0.length : Int)), (11, .int .i64 (wi (x11_l1 + 1)))]) kr ?_
      exact ih (wi (x3_l1 + (v2.length : Int))) (wi (x11_l1 + 1)) _ hS H
    ·replace H := ite_f H hb1
     refine WC.exit kr ?_
     refine At.thenExit ?_
     refine At.thenExit ?_
     obtain rfl := Option.some.inj H
     have hS : Sat w (rf w0) [] := hS.sel [] kr
     refine At.weaken [0, 3] (L' := [(0, .slice A0 l0.length c0), (3, .int .i64 x3_l1)]) kr ?_
     exact hn0 _ hS
theorem slices_Concat.l2_ok {Q} (w0 : World) (A0 : Option Addr) (c0 : Nat) (l0 : List (List Int)) (R0 : rdS (rd (hp w0) (.slice 5 (.int .u8))) 1 (hp w0) A0 c0 l0) (out : (List Int)) (hn0 : ∀ (A6_q : Option Addr) (c6_q : Nat) (w : World), Sat w (rf w0) [osl 5 (r0 (.int .u8)) 1 A6_q c6_q out] → At Q (.exit 2) 36 [(6, .slice A6_q out.length c6_q)] w) :
    ∀ (k : Nat) (x6_l2 : List Int) (x27_l2 : Int) (A6_l2 : Option Addr) (c6_l2 : Nat) (w : World), Sat w (rf w0) [osl 5 (r0 (.int .u8)) 1 A6_l2 c6_l2 x6_l2] → slices_Concat.l2 l0 k x6_l2 x27_l2 = some out → WL Try.prog (cbody (cbody (cr (cl (cr (cr (cr (cr C42)))))))) Q 36 [(6, .slice A6_l2 x6_l2.length c6_l2), (25, .slice A0 l0.length c0), (26, .int .i64 (l0.length : Int)), (27, .int .i64 x27_l2)] w := by
  intro k
  induction k with
  | zero => intro x6_l2 x27_l2 A6_l2 c6_l2 w hS H; exact absurd (show none = some out from H) (by simp)
  | succ k ih =>
    intro x6_l2 x27_l2 A6_l2 c6_l2 w hS H
    unfold slices_Concat.l2 at H
    refine WL.round ?_
    refine WC.seq kr ?_
    refine WC.reg [0] kr kr ?_
    refine WR.runk [0] [] [6, 25, 26, 27, 28] (L' := [(6, .slice A6_l2 x6_l2.length c6_l2), (25, .slice A0 l0.length c0), (26, .int .i64 (l0.length : Int)), (27, .int .i64 x27_l2), (28, .bool (decide (x27_l2 < (l0.length : Int))))]) (w' := w) kr ?_
    refine WR.nil ?_
    refine At.go ?_
    refine WC.seq kr ?_
    refine WC.cond kr (decide (x27_l2 < (l0.length : Int))) kr kr (fun hb19 => ?_) (fun hb19 => ?_)
    ·replace H := ite_t H hb19
     refine WC.skip kr ?_
     refine At.go ?_
     refine WC.seq kr ?_
     refine WC.block kr ?_
     refine WC.seq kr ?_
     refine WC.reg [0, 1, 2] kr kr ?_
     refine WR.runk [] [0, 1, 2] [6, 25, 26, 27] (L' := [(6, .slice A6_l2 x6_l2.length c6_l2), (25, .slice A0 l0.length c0), (26, .int .i64 (l0.length : Int)), (27, .int .i64 x27_l2)]) (w' := w) kr ?_
     obtain ⟨v20, e21, H⟩ := bind_ex H
     refine WR.st (St.ofP (PSt.idx (k := .i64) (.tmp 25) (.tmp 27) kr kr E71 kr kr (rdS.up R0 hS.sub0) e21 ?_))
     refine WR.runk [] [1, 2] [6, 25, 26, 27, 29] (L' := [(6, .slice A6_l2 x6_l2.length c6_l2), (25, .slice A0 l0.length c0), (26, .int .i64 (l0.length : Int)), (27, .int .i64 x27_l2), (29, .pointer (some (adr A0 x27_l2.toNat 1)))]) (w' := w) kr ?_
     refine WR.st (St.ofR (RSt.loadSl (t := 31) (.tmp 29) kr kr kr kr R0 e21 hS.sub0 (fun A22 c23 R24 => ?_)))
     replace R24 : rdS (r0 (.int .u8)) 1 (hp w0) A22 c23 v20 := R24
     refine WR.runk [2] [] [6, 8, 25, 26, 27] (L' := [(6, .slice A6_l2 x6_l2.length c6_l2), (8, .slice A22 v20.length c23), (25, .slice A0 l0.length c0), (26, .int .i64 (l0.length : Int)), (27, .int .i64 x27_l2)]) (w' := w) kr ?_
     refine WR.nil ?_
     refine At.go ?_
     refine WC.reg [0, 1, 2, 3] kr kr ?_
     refine WR.runk [0, 1] [2, 3] [6, 25, 26, 27, 31, 32] (L' := [(6, .slice A6_l2 x6_l2.length c6_l2), (25, .slice A0 l0.length c0), (26, .int .i64 (l0.length : Int)), (27, .int .i64 x27_l2), (31, .slice A6_l2 x6_l2.length c6_l2), (32, .slice A22 v20.length c23)]) (w' := w) kr ?_
     obtain ⟨y26, e25, H⟩ := bind_ex H
     refine WR.st (St.append' (.tmp 31) (.tmp 32) kr kr E31 (r0_one _) hS kr kr (rdS.up R24 hS.sub0) 140737488355328 kr kr e25 (fun A27 c28 w29 hS => ?_))
     refine WR.runk [3] [] [6, 25, 26, 27] (L' := [(6, .slice A27 y26.length c28), (25, .slice A0 l0.length c0), (26, .int .i64 (l0.length : Int)), (27, .int .i64 x27_l2)]) (w' := w29) kr ?_
     refine WR.nil ?_
     refine At.blockNormal ?_
     refine At.go ?_
     refine WC.reg [0, 1] kr kr ?_
     refine WR.runk [0, 1] [] [6, 25, 26, 27] (L' := [(6, .slice A27 y26.length c28), (25, .slice A0 l0.length c0), (26, .int .i64 (l0.length : Int)), (27, .int .i64 (wi (x27_l2 + 1)))]) (w' := w29) kr ?_
     refine WR.nil ?_
     have hS : Sat w29 (rf w0) [osl 5 (r0 (.int .u8)) 1 A27 c28 y26] := hS.sel [0] kr
     refine At.again ?_
     refine WL.weaken [6, 25, 26, 27] (L' := [(6, .slice A27 y26.length c28), (25, .slice A0 l0.length c0), (26, .int .i64 (l0.length : Int)), (27, .int .i64 (wi (x27_l2 + 1)))]) kr ?_
     exact ih y26 (wi (x27_l2 + 1)) A27 c28 _ hS H
    ·replace H := ite_f H hb19
     refine WC.exit kr ?_
     refine At.thenExit ?_
     refine At.thenExit ?_
     obtain rfl := Option.some.inj H
     have hS : Sat w (rf w0) [osl 5 (r0 (.int .u8)) 1 A6_l2 c6_l2 x6_l2] := hS.sel [0] kr
     refine At.weaken [6] (L' := [(6, .slice A6_l2 x6_l2.length c6_l2)]) kr ?_
     exact hn0 A6_l2 c6_l2 _ hS
theorem slices_Concat.calls (w0 : World) (A0 : Option Addr) (c0 : Nat) (l0 : List (List Int)) (R0 : rdS (rd (hp w0) (.slice 5 (.int .u8))) 1 (hp w0) A0 c0 l0) (r : (List Int)) (H : slices_Concat.f l0 = some r) :
    Calls Try.prog 42 #[.slice A0 l0.length c0] w0 (fun e w' => ∃ v, e = .returned v ∧ slices_Concat.post w0 r v w') := by
  have hS : Sat w0 (rf w0) [] := Sat.start w0
  unfold slices_Concat.f at H
  refine calls_of_WC (vs := [.slice A0 l0.length c0]) Try.func42 (c := C42) (n := 36) kr kr kr ?_
  refine WC.seq kr ?_
  refine WC.reg [0] kr kr ?_
  refine WR.runk [0] [] [0] (L' := [(0, .slice A0 l0.length c0)]) (w' := w0) kr ?_
  refine WR.nil ?_
  refine At.go ?_
  refine WC.seq kr ?_
  refine WC.reg [0] kr kr ?_
  refine WR.runk [0] [] [0, 3] (L' := [(0, .slice A0 l0.length c0), (3, .int .i64 0)]) (w' := w0) kr ?_
  refine WR.nil ?_
  refine At.go ?_
  refine WC.seq kr ?_
  refine WC.seq kr ?_
  refine WC.reg [0, 1, 2] kr kr ?_
  refine WR.runk [0, 1, 2] [] [0, 3, 9, 10, 11] (L' := [(0, .slice A0 l0.length c0), (3, .int .i64 0), (9, .slice A0 l0.length c0), (10, .int .i64 (l0.length : Int)), (11, .int .i64 0)]) (w' := w0) kr ?_
  refine WR.nil ?_
  refine At.go ?_
  refine WC.block kr ?_
  have hS : Sat w0 (rf w0) [] := hS.sel [] kr
  obtain ⟨o8, e9, H⟩ := bind_ex H
  refine WC.loop kr ?_
  refine WL.weaken [0, 3, 9, 10, 11] (L' := [(0, .slice A0 l0.length c0), (3, .int .i64 0), (9, .slice A0 l0.length c0), (10, .int .i64 (l0.length : Int)), (11, .int .i64 0)]) kr ?_
  refine slices_Concat.l1_ok w0 A0 c0 l0 R0 o8 (fun w11 hS => ?_) FU 0 0 _ hS e9
  refine At.hit ?_
  refine At.go ?_
  refine WC.seq kr ?_
  refine WC.reg [0, 1, 2] kr kr ?_
  refine WR.runk [0] [1, 2] [0, 23] (L' := [(0, .slice A0 l0.length c0), (23, .int .i64 o8)]) (w' := w11) kr ?_
  obtain ⟨r13, e14, H⟩ := bind_ex H
  refine WR.st (St.call kr (f := 45) (args := #[.slice none 0 0, .int .i64 o8]) kr (slices_Grow.calls w11 o8 r13 e14) ?_)
  rintro _ w17 ⟨A15, c16, rfl, hS18⟩
  have hS : Sat w17 (rf w0) [osl 5 (r0 (.int .u8)) 1 A15 c16 r13] := hS.ext hS18
  refine WR.runk [2] [] [0, 6] (L' := [(0, .slice A0 l0.length c0), (6, .slice A15 r13.length c16)]) (w' := w17) kr ?_
  refine WR.nil ?_
  refine At.go ?_
  refine WC.seq kr ?_
  refine WC.seq kr ?_
  refine WC.reg [0, 1, 2] kr kr ?_
  refine WR.runk [0, 1, 2] [] [6, 25, 26, 27] (L' := [(6, .slice A15 r13.length c16), (25, .slice A0 l0.length c0), (26, .int .i64 (l0.length : Int)), (27, .int .i64 0)]) (w' := w17) kr ?_
  refine WR.nil ?_
  refine At.go ?_
  refine WC.block kr ?_
  have hS : Sat w17 (rf w0) [osl 5 (r0 (.int .u8)) 1 A15 c16 r13] := hS.sel [0] kr
  obtain ⟨o30, e31, H⟩ := bind_ex H
  refine WC.loop kr ?_
  refine WL.weaken [6, 25, 26, 27] (L' := [(6, .slice A15 r13.length c16), (25, .slice A0 l0.length c0), (26, .int .i64 (l0.length : Int)), (27, .int .i64 0)]) kr ?_
  refine slices_Concat.l2_ok w0 A0 c0 l0 R0 o30 (fun A6_q32 c6_q32 w33 hS => ?_) FU r13 0 A15 c16 _ hS e31
  refine At.hit ?_
  refine At.go ?_
  refine WC.seq kr ?_
  refine WC.reg [0, 1] kr kr ?_
  refine WR.runk [0, 1] [] [2] (L' := [(2, .slice A6_q32 o30.length c6_q32)]) (w' := w33) kr ?_
  refine WR.nil ?_
  refine At.go ?_
  refine WC.ret kr ?_
  obtain rfl := Option.some.inj H
  have hS : Sat w33 (rf w0) [osl 5 (r0 (.int .u8)) 1 A6_q32 c6_q32 o30] := hS.sel [0] kr
  exact At.body [.slice A6_q32 o30.length c6_q32] kr ⟨_, rfl, _, _, rfl, hS⟩
/-! ### 31 (*colophon/image.Image).Section -/
def image_Image_Section.f (p0 : Option ((List (List Int)) × (List Int) × (List Int))) (a1 : Int) : Option (List Int) := ((image_Image_has.f p0 a1).bind fun r1 => (if (!r1) then some ([] : List Int) else (p0.bind fun y13 => ((at? y13.2.1 a1).bind fun v28 => ((page_Many.f v28).bind fun r30 => ((at? y13.2.2 a1).bind fun v41 => ((sub? y13.1 v41 (wi (v41 + r30))).bind fun y43 => ((slices_Concat.f y43).bind fun r48 => ((sub? r48 0 v28).bind fun y61 => some y61)))))))))
def image_Image_Section.post (w : World) (r : (List Int)) (v : Value) (w' : World) : Prop := ∃ (A0' : Option Addr) (c0' : Nat), v = (.slice A0' r.length c0' : Value) ∧ Sat w' (rf w) [osl 5 (r0 (.int .u8)) 1 A0' c0' r]
theorem image_Image_Section.calls (w0 : World) (v0 : Value) (p0 : Option ((List (List Int)) × (List Int) × (List Int))) (R0 : rd (hp w0) (.ptr 80 (.pair (.slice 31 (.slice 5 (.int .u8))) (.pair (.slice 3 (.int .i64)) (.slice 3 (.int .i64))))) [v0] p0) (a1 : Int) (r : (List Int)) (H : image_Image_Section.f p0 a1 = some r) :
    Calls Try.prog 31 #[v0, .int .i64 a1] w0 (fun e w' => ∃ v, e = .returned v ∧ image_Image_Section.post w0 r v w') := by
  have hS : Sat w0 (rf w0) [] := Sat.start w0
  unfold image_Image_Section.f at H
  refine calls_of_WC (vs := [v0, .int .i64 a1]) Try.func31 (c := C31) (n := 57) kr kr kr ?_
  refine WC.seq kr ?_
  refine WC.reg [0] kr kr ?_
  refine WR.runk [0] [] [0, 1] (L' := [(0, v0), (1, .int .i64 a1)]) (w' := w0) kr ?_
  refine WR.nil ?_
  refine At.go ?_
  refine WC.seq kr ?_
  refine WC.seq kr ?_
  refine WC.reg [0, 1, 2, 3] kr kr ?_
  refine WR.runk [0, 1] [2, 3] [0, 1, 7, 8] (L' := [(0, v0), (1, .int .i64 a1), (7, v0), (8, .int .i64 a1)]) (w' := w0) kr ?_
  obtain ⟨r1, e2, H⟩ := bind_ex H
  refine WR.st (St.call kr (f := 41) (args := #[v0, .int .i64 a1]) kr (image_Image_has.calls w0 (v0) p0 (rd.mono hS.sub0 _ _ _ R0) a1 r1 e2) ?_)
  rintro _ w8 ⟨rfl, hS9⟩
  have hS : Sat w8 (rf w0) [] := hS.ext hS9
  refine WR.runk [3] [] [0, 1, 10] (L' := [(0, v0), (1, .int .i64 a1), (10, .bool (!r1))]) (w' := w8) kr ?_
  refine WR.nil ?_
  refine At.go ?_
  refine WC.cond kr (!r1) kr kr (fun hb10 => ?_) (fun hb10 => ?_)
  ·replace H := ite_t H hb10
   refine WC.seq kr ?_
   refine WC.reg [0] kr kr ?_
   refine WR.runk [0] [] [4] (L' := [(4, .slice none 0 0)]) (w' := w8) kr ?_
   refine WR.nil ?_
   refine At.go ?_
   refine WC.ret kr ?_
   refine At.thenRet ?_
   obtain rfl := Option.some.inj H
   have hS := hS.addNil (α := Int) 5 (r0 (.int .u8)) 1
   have hS : Sat w8 (rf w0) [osl 5 (r0 (.int .u8)) 1 none 0 ([] : List Int)] := hS.sel [0] kr
   exact At.body [.slice none 0 0] kr ⟨_, rfl, _, _, rfl, hS⟩
  ·replace H := ite_f H hb10
   refine WC.skip kr ?_
   refine At.go ?_
   refine WC.seq kr ?_
   refine WC.reg [0, 1, 2, 3, 4, 5, 6, 7, 8] kr kr ?_
   refine WR.runk [0] [1, 2, 3, 4, 5, 6, 7, 8] [0, 1, 11] (L' := [(0, v0), (1, .int .i64 a1), (11, v0)]) (w' := w8) kr ?_
   obtain ⟨y13, hr11, H⟩ := bind_ex H
   obtain ⟨b14, fr15, A19, c20, A22, c23, A25, c26, hv16, hb17, R21, R24, R27⟩ := P80.open R0 hr11
   have R18 := R0
   rw [hv16, hr11] at R18
   try subst hv16
   replace R21 : rdS (rd (hp w0) (.slice 5 (.int .u8))) 1 (hp w0) A19 c20 y13.1 := R21
   replace R24 : rdS (r0 (.int .i64)) 1 (hp w0) A22 c23 y13.2.1 := R24
   replace R27 : rdS (r0 (.int .i64)) 1 (hp w0) A25 c26 y13.2.2 := R27
   refine WR.runk [1, 2] [3, 4, 5, 6, 7, 8] [0, 1, 13] (L' := [(0, .pointer (some ⟨b14, 0, none⟩)), (1, .int .i64 a1), (13, .pointer (some ⟨b14, 1, none⟩))]) (w' := w8) kr ?_
   refine WR.st (St.ofR (RSt.loadRo (t := 47) (k := 1) (v := .slice A22 y13.2.1.length c23) (.tmp 13) kr kr kr hS.sub0 hb17 kr rfl ?_))
   refine WR.runk [4] [5, 6, 7, 8] [0, 1, 14, 15] (L' := [(0, .pointer (some ⟨b14, 0, none⟩)), (1, .int .i64 a1), (14, .slice A22 y13.2.1.length c23), (15, .int .i64 a1)]) (w' := w8) kr ?_
   obtain ⟨v28, e29, H⟩ := bind_ex H
   refine WR.st (St.ofP (PSt.idx (k := .i64) (.tmp 14) (.tmp 15) kr kr E47 kr kr (rdS.up R24 hS.sub0) e29 ?_))
   refine WR.runk [] [6, 7, 8] [0, 1, 16] (L' := [(0, .pointer (some ⟨b14, 0, none⟩)), (1, .int .i64 a1), (16, .pointer (some (adr A22 a1.toNat 1)))]) (w' := w8) kr ?_
   refine WR.st (St.ofR (RSt.loadInt (t := 3) (.tmp 16) kr kr kr kr (rdS.up R24 hS.sub0) e29 ?_))
   refine WR.runk [] [7, 8] [0, 1, 17] (L' := [(0, .pointer (some ⟨b14, 0, none⟩)), (1, .int .i64 a1), (17, .int .i64 v28)]) (w' := w8) kr ?_
   obtain ⟨r30, e31, H⟩ := bind_ex H
   refine WR.st (St.call kr (f := 37) (args := #[.int .i64 v28]) kr (page_Many.calls w8 v28 r30 e31) ?_)
   rintro _ w37 ⟨rfl, hS38⟩
   have hS : Sat w37 (rf w0) [] := hS.ext hS38
   refine WR.runk [8] [] [0, 1, 5] (L' := [(0, .pointer (some ⟨b14, 0, none⟩)), (1, .int .i64 a1), (5, .int .i64 r30)]) (w' := w37) kr ?_
   refine WR.nil ?_
   refine At.go ?_
   refine WC.seq kr ?_
   refine WC.drawn kr kr 23 kr (fun w39 hw40 => ?_)
   have hS := hS.heap hw40.1 hw40.2
   refine WD.weaken [0, 1, 5] (L' := [(0, .pointer (some ⟨b14, 0, none⟩)), (1, .int .i64 a1), (5, .int .i64 r30)]) kr ?_
   refine WD.pure (i := 0) (v := .pointer (some ⟨b14, 0, none⟩)) kr kr (fun _ => by kernel_rfl) ?_
   refine WD.weaken [0, 1, 5, 19] (L' := [(0, .pointer (some ⟨b14, 0, none⟩)), (1, .int .i64 a1), (5, .int .i64 r30), (19, .pointer (some ⟨b14, 0, none⟩))]) kr ?_
   refine WD.pure (i := 1) (v := .pointer (some ⟨b14, 0, none⟩)) kr kr (fun _ => by kernel_rfl) ?_
   refine WD.weaken [0, 1, 5, 20] (L' := [(0, .pointer (some ⟨b14, 0, none⟩)), (1, .int .i64 a1), (5, .int .i64 r30), (20, .pointer (some ⟨b14, 0, none⟩))]) kr ?_
   refine WD.pure (i := 2) (v := .pointer (some ⟨b14, 0, none⟩)) kr kr (fun _ => by kernel_rfl) ?_
   refine WD.weaken [0, 1, 5, 21] (L' := [(0, .pointer (some ⟨b14, 0, none⟩)), (1, .int .i64 a1), (5, .int .i64 r30), (21, .pointer (some ⟨b14, 0, none⟩))]) kr ?_
   refine WD.ofR (i := 3) kr (RSt.loadRo (t := 71) (k := 0) (v := .slice A19 y13.1.length c20) (.tmp 21) kr kr kr hS.sub0 hb17 kr rfl ?_)
   refine WD.weaken [0, 1, 5, 22] (L' := [(0, .pointer (some ⟨b14, 0, none⟩)), (1, .int .i64 a1), (5, .int .i64 r30), (22, .slice A19 y13.1.length c20)]) kr ?_
   refine WD.pure (i := 4) (v := .pointer (some ⟨b14, 0, none⟩)) kr kr (fun _ => by kernel_rfl) ?_
   refine WD.weaken [0, 1, 5, 22, 23] (L' := [(0, .pointer (some ⟨b14, 0, none⟩)), (1, .int .i64 a1), (5, .int .i64 r30), (22, .slice A19 y13.1.length c20), (23, .pointer (some ⟨b14, 0, none⟩))]) kr ?_
   refine WD.pure (i := 5) (v := .pointer (some ⟨b14, 0, none⟩)) kr kr (fun _ => by kernel_rfl) ?_
   refine WD.weaken [0, 1, 5, 22, 24] (L' := [(0, .pointer (some ⟨b14, 0, none⟩)), (1, .int .i64 a1), (5, .int .i64 r30), (22, .slice A19 y13.1.length c20), (24, .pointer (some ⟨b14, 0, none⟩))]) kr ?_
   refine WD.pure (i := 6) (v := .pointer (some ⟨b14, 2, none⟩)) kr kr (fun _ => by kernel_rfl) ?_
   refine WD.weaken [0, 1, 5, 22, 25] (L' := [(0, .pointer (some ⟨b14, 0, none⟩)), (1, .int .i64 a1), (5, .int .i64 r30), (22, .slice A19 y13.1.length c20), (25, .pointer (some ⟨b14, 2, none⟩))]) kr ?_
   refine WD.ofR (i := 7) kr (RSt.loadRo (t := 47) (k := 2) (v := .slice A25 y13.2.2.length c26) (.tmp 25) kr kr kr hS.sub0 hb17 kr rfl ?_)
   refine WD.weaken [0, 1, 5, 22, 26] (L' := [(0, .pointer (some ⟨b14, 0, none⟩)), (1, .int .i64 a1), (5, .int .i64 r30), (22, .slice A19 y13.1.length c20), (26, .slice A25 y13.2.2.length c26)]) kr ?_
   refine WD.pure (i := 8) (v := .int .i64 a1) kr kr (fun _ => by kernel_rfl) ?_
   refine WD.weaken [0, 1, 5, 22, 26, 27] (L' := [(0, .pointer (some ⟨b14, 0, none⟩)), (1, .int .i64 a1), (5, .int .i64 r30), (22, .slice A19 y13.1.length c20), (26, .slice A25 y13.2.2.length c26), (27, .int .i64 a1)]) kr ?_
   obtain ⟨v41, e42, H⟩ := bind_ex H
   refine WD.ofP (i := 9) kr (PSt.idx (k := .i64) (.tmp 26) (.tmp 27) kr kr E47 kr kr (rdS.up R27 hS.sub0) e42 ?_)
   refine WD.weaken [0, 1, 5, 22, 28] (L' := [(0, .pointer (some ⟨b14, 0, none⟩)), (1, .int .i64 a1), (5, .int .i64 r30), (22, .slice A19 y13.1.length c20), (28, .pointer (some (adr A25 a1.toNat 1)))]) kr ?_
   refine WD.ofR (i := 10) kr (RSt.loadInt (t := 3) (.tmp 28) kr kr kr kr (rdS.up R27 hS.sub0) e42 ?_)
   refine WD.weaken [0, 1, 5, 22, 29] (L' := [(0, .pointer (some ⟨b14, 0, none⟩)), (1, .int .i64 a1), (5, .int .i64 r30), (22, .slice A19 y13.1.length c20), (29, .int .i64 v41)]) kr ?_
   refine WD.pure (i := 11) (v := .pointer (some ⟨b14, 0, none⟩)) kr kr (fun _ => by kernel_rfl) ?_
   refine WD.weaken [0, 1, 5, 22, 29, 30] (L' := [(0, .pointer (some ⟨b14, 0, none⟩)), (1, .int .i64 a1), (5, .int .i64 r30), (22, .slice A19 y13.1.length c20), (29, .int .i64 v41), (30, .pointer (some ⟨b14, 0, none⟩))]) kr ?_
   refine WD.pure (i := 12) (v := .pointer (some ⟨b14, 0, none⟩)) kr kr (fun _ => by kernel_rfl) ?_
   refine WD.weaken [0, 1, 5, 22, 29, 31] (L' := [(0, .pointer (some ⟨b14, 0, none⟩)), (1, .int .i64 a1), (5, .int .i64 r30), (22, .slice A19 y13.1.length c20), (29, .int .i64 v41), (31, .pointer (some ⟨b14, 0, none⟩))]) kr ?_
   refine WD.pure (i := 13) (v := .pointer (some ⟨b14, 2, none⟩)) kr kr (fun _ => by kernel_rfl) ?_
   refine WD.weaken [0, 1, 5, 22, 29, 32] (L' := [(0, .pointer (some ⟨b14, 0, none⟩)), (1, .int .i64 a1), (5, .int .i64 r30), (22, .slice A19 y13.1.length c20), (29, .int .i64 v41), (32, .pointer (some ⟨b14, 2, none⟩))]) kr ?_
   refine WD.ofR (i := 14) kr (RSt.loadRo (t := 47) (k := 2) (v := .slice A25 y13.2.2.length c26) (.tmp 32) kr kr kr hS.sub0 hb17 kr rfl ?_)
   refine WD.weaken [0, 1, 5, 22, 29, 33] (L' := [(0, .pointer (some ⟨b14, 0, none⟩)), (1, .int .i64 a1), (5, .int .i64 r30), (22, .slice A19 y13.1.length c20), (29, .int .i64 v41), (33, .slice A25 y13.2.2.length c26)]) kr ?_
   refine WD.pure (i := 15) (v := .int .i64 a1) kr kr (fun _ => by kernel_rfl) ?_
   refine WD.weaken [0, 1, 5, 22, 29, 33, 34] (L' := [(0, .pointer (some ⟨b14, 0, none⟩)), (1, .int .i64 a1), (5, .int .i64 r30), (22, .slice A19 y13.1.length c20), (29, .int .i64 v41), (33, .slice A25 y13.2.2.length c26), (34, .int .i64 a1)]) kr ?_
   refine WD.ofP (i := 16) kr (PSt.idx (k := .i64) (.tmp 33) (.tmp 34) kr kr E47 kr kr (rdS.up R27 hS.sub0) e42 ?_)
   refine WD.weaken [0, 1, 5, 22, 29, 35] (L' := [(0, .pointer (some ⟨b14, 0, none⟩)), (1, .int .i64 a1), (5, .int .i64 r30), (22, .slice A19 y13.1.length c20), (29, .int .i64 v41), (35, .pointer (some (adr A25 a1.toNat 1)))]) kr ?_
   refine WD.ofR (i := 17) kr (RSt.loadInt (t := 3) (.tmp 35) kr kr kr kr (rdS.up R27 hS.sub0) e42 ?_)
   refine WD.weaken [0, 1, 5, 22, 29, 36] (L' := [(0, .pointer (some ⟨b14, 0, none⟩)), (1, .int .i64 a1), (5, .int .i64 r30), (22, .slice A19 y13.1.length c20), (29, .int .i64 v41), (36, .int .i64 v41)]) kr ?_
   refine WD.pure (i := 18) (v := .int .i64 r30) kr kr (fun _ => by kernel_rfl) ?_
   refine WD.weaken [0, 1, 22, 29, 36, 37] (L' := [(0, .pointer (some ⟨b14, 0, none⟩)), (1, .int .i64 a1), (22, .slice A19 y13.1.length c20), (29, .int .i64 v41), (36, .int .i64 v41), (37, .int .i64 r30)]) kr ?_
   refine WD.pure (i := 19) (v := .int .i64 (wi (v41 + r30))) kr kr (fun _ => by kernel_rfl) ?_
   refine WD.weaken [0, 1, 22, 29, 38] (L' := [(0, .pointer (some ⟨b14, 0, none⟩)), (1, .int .i64 a1), (22, .slice A19 y13.1.length c20), (29, .int .i64 v41), (38, .int .i64 (wi (v41 + r30)))]) kr ?_
   obtain ⟨y43, e44, H⟩ := bind_ex H
   refine WD.ofP (i := 20) kr (PSt.sub (A := A19) (c := c20) (.tmp 22) (some (.tmp 29)) (some (.tmp 38)) none kr kr E71 kr (rdS.up R21 hS.sub0).1 e44 (Exists.intro IntKind.i64 kr) (Exists.intro IntKind.i64 kr) trivial (fun A45 c46 T47 => ?_))
   refine WD.weaken [0, 1, 39] (L' := [(0, .pointer (some ⟨b14, 0, none⟩)), (1, .int .i64 a1), (39, .slice A45 y43.length c46)]) kr ?_
   obtain ⟨r48, e49, H⟩ := bind_ex H
   refine WD.act (i := 21) kr (St.call kr (f := 42) (args := #[.slice A45 y43.length c46]) kr (slices_Concat.calls w39 A45 c46 y43 (rdS.upd (T47.rd _ _ R21) hS.sub0) r48 e49) ?_)
   rintro _ w55 ⟨A57, c58, rfl, hS56⟩
   have hS : Sat w55 (rf w0) [osl 5 (r0 (.int .u8)) 1 A57 c58 r48] := hS.ext hS56
   refine ⟨(asked.anc kr (asked.anc kr (asked.anc kr (asked.anc kr (asked.anc kr (asked.nil _ _)))))), ?_⟩
   refine WD.weaken [0, 1, 40] (L' := [(0, .pointer (some ⟨b14, 0, none⟩)), (1, .int .i64 a1), (40, .slice A57 r48.length c58)]) kr ?_
   refine WD.pure (i := 22) (v := .slice A57 r48.length c58) kr kr (fun _ => by kernel_rfl) ?_
   refine WD.weaken [0, 1, 6] (L' := [(0, .pointer (some ⟨b14, 0, none⟩)), (1, .int .i64 a1), (6, .slice A57 r48.length c58)]) kr ?_
   refine WD.nil kr ?_
   refine At.go ?_
   refine WC.seq kr ?_
   refine WC.drawn kr kr 17 kr (fun w59 hw60 => ?_)
   have hS := hS.heap hw60.1 hw60.2
   refine WD.weaken [0, 1, 6] (L' := [(0, .pointer (some ⟨b14, 0, none⟩)), (1, .int .i64 a1), (6, .slice A57 r48.length c58)]) kr ?_
   refine WD.pure (i := 0) (v := .slice A57 r48.length c58) kr kr (fun _ => by kernel_rfl) ?_
   refine WD.weaken [0, 1, 41] (L' := [(0, .pointer (some ⟨b14, 0, none⟩)), (1, .int .i64 a1), (41, .slice A57 r48.length c58)]) kr ?_
   refine WD.pure (i := 1) (v := .pointer (some ⟨b14, 0, none⟩)) kr kr (fun _ => by kernel_rfl) ?_
   refine WD.weaken [0, 1, 41, 42] (L' := [(0, .pointer (some ⟨b14, 0, none⟩)), (1, .int .i64 a1), (41, .slice A57 r48.length c58), (42, .pointer (some ⟨b14, 0, none⟩))]) kr ?_
   refine WD.pure (i := 2) (v := .pointer (some ⟨b14, 0, none⟩)) kr kr (fun _ => by kernel_rfl) ?_
   refine WD.weaken [0, 1, 41, 43] (L' := [(0, .pointer (some ⟨b14, 0, none⟩)), (1, .int .i64 a1), (41, .slice A57 r48.length c58), (43, .pointer (some ⟨b14, 0, none⟩))]) kr ?_
   refine WD.pure (i := 3) (v := .pointer (some ⟨b14, 1, none⟩)) kr kr (fun _ => by kernel_rfl) ?_
   refine WD.weaken [0, 1, 41, 44] (L' := [(0, .pointer (some ⟨b14, 0, none⟩)), (1, .int .i64 a1), (41, .slice A57 r48.length c58), (44, .pointer (some ⟨b14, 1, none⟩))]) kr ?_
   refine WD.ofR (i := 4) kr (RSt.loadRo (t := 47) (k := 1) (v := .slice A22 y13.2.1.length c23) (.tmp 44) kr kr kr hS.sub0 hb17 kr rfl ?_)
   refine WD.weaken [0, 1, 41, 45] (L' := [(0, .pointer (some ⟨b14, 0, none⟩)), (1, .int .i64 a1), (41, .slice A57 r48.length c58), (45, .slice A22 y13.2.1.length c23)]) kr ?_
   refine WD.pure (i := 5) (v := .int .i64 a1) kr kr (fun _ => by kernel_rfl) ?_
   refine WD.weaken [0, 1, 41, 45, 46] (L' := [(0, .pointer (some ⟨b14, 0, none⟩)), (1, .int .i64 a1), (41, .slice A57 r48.length c58), (45, .slice A22 y13.2.1.length c23), (46, .int .i64 a1)]) kr ?_
   refine WD.ofP (i := 6) kr (PSt.idx (k := .i64) (.tmp 45) (.tmp 46) kr kr E47 kr kr (rdS.up R24 hS.sub0) e29 ?_)
   refine WD.weaken [0, 1, 41, 47] (L' := [(0, .pointer (some ⟨b14, 0, none⟩)), (1, .int .i64 a1), (41, .slice A57 r48.length c58), (47, .pointer (some (adr A22 a1.toNat 1)))]) kr ?_
   refine WD.ofR (i := 7) kr (RSt.loadInt (t := 3) (.tmp 47) kr kr kr kr (rdS.up R24 hS.sub0) e29 ?_)
   refine WD.weaken [0, 1, 41, 48] (L' := [(0, .pointer (some ⟨b14, 0, none⟩)), (1, .int .i64 a1), (41, .slice A57 r48.length c58), (48, .int .i64 v28)]) kr ?_
   refine WD.pure (i := 8) (v := .pointer (some ⟨b14, 0, none⟩)) kr kr (fun _ => by kernel_rfl) ?_
   refine WD.weaken [1, 41, 48, 49] (L' := [(1, .int .i64 a1), (41, .slice A57 r48.length c58), (48, .int .i64 v28), (49, .pointer (some ⟨b14, 0, none⟩))]) kr ?_
   refine WD.pure (i := 9) (v := .pointer (some ⟨b14, 0, none⟩)) kr kr (fun _ => by kernel_rfl) ?_
   refine WD.weaken [1, 41, 48, 50] (L' := [(1, .int .i64 a1), (41, .slice A57 r48.length c58), (48, .int .i64 v28), (50, .pointer (some ⟨b14, 0, none⟩))]) kr ?_
   refine WD.pure (i := 10) (v := .pointer (some ⟨b14, 1, none⟩)) kr kr (fun _ => by kernel_rfl) ?_
   refine WD.weaken [1, 41, 48, 51] (L' := [(1, .int .i64 a1), (41, .slice A57 r48.length c58), (48, .int .i64 v28), (51, .pointer (some ⟨b14, 1, none⟩))]) kr ?_
   refine WD.ofR (i := 11) kr (RSt.loadRo (t := 47) (k := 1) (v := .slice A22 y13.2.1.length c23) (.tmp 51) kr kr kr hS.sub0 hb17 kr rfl ?_)
   refine WD.weaken [1, 41, 48, 52] (L' := [(1, .int .i64 a1), (41, .slice A57 r48.length c58), (48, .int .i64 v28), (52, .slice A22 y13.2.1.length c23)]) kr ?_
   refine WD.pure (i := 12) (v := .int .i64 a1) kr kr (fun _ => by kernel_rfl) ?_
   refine WD.weaken [41, 48, 52, 53] (L' := [(41, .slice A57 r48.length c58), (48, .int .i64 v28), (52, .slice A22 y13.2.1.length c23), (53, .int .i64 a1)]) kr ?_
   refine WD.ofP (i := 13) kr (PSt.idx (k := .i64) (.tmp 52) (.tmp 53) kr kr E47 kr kr (rdS.up R24 hS.sub0) e29 ?_)
   refine WD.weaken [41, 48, 54] (L' := [(41, .slice A57 r48.length c58), (48, .int .i64 v28), (54, .pointer (some (adr A22 a1.toNat 1)))]) kr ?_
   refine WD.ofR (i := 14) kr (RSt.loadInt (t := 3) (.tmp 54) kr kr kr kr (rdS.up R24 hS.sub0) e29 ?_)
   refine WD.weaken [41, 48, 55] (L' := [(41, .slice A57 r48.length c58), (48, .int .i64 v28), (55, .int .i64 v28)]) kr ?_
   obtain ⟨y61, e62, H⟩ := bind_ex H
   refine WD.ofP (i := 15) kr (PSt.sub (A := A57) (c := c58) (.tmp 41) none (some (.tmp 48)) (some (.tmp 55)) kr kr E31 kr (Sat.rdAt 0 hS rfl).1 e62 rfl (Exists.intro IntKind.i64 kr) (Exists.intro IntKind.i64 kr) (fun A63 c64 T65 => ?_))
   refine WD.weaken [56] (L' := [(56, .slice A63 y61.length c64)]) kr ?_
   refine WD.pure (i := 16) (v := .slice A63 y61.length c64) kr kr (fun _ => by kernel_rfl) ?_
   refine WD.weaken [4] (L' := [(4, .slice A63 y61.length c64)]) kr ?_
   refine WD.nil kr ?_
   refine At.go ?_
   refine WC.ret kr ?_
   obtain rfl := Option.some.inj H
   have hS : Sat w59 (rf w0) [osl 5 (r0 (.int .u8)) 1 A63 c64 y61] := T65.sat _ _ _ _ _ hS
   have hS : Sat w59 (rf w0) [osl 5 (r0 (.int .u8)) 1 A63 c64 y61] := hS.sel [0] kr
   exact At.body [.slice A63 y61.length c64] kr ⟨_, rfl, _, _, rfl, hS⟩
end Go.Proofs.Ytbcdcpkofgfofaa
