/-
  Printed by gen.py (my own tool): for each Go function a plain Lean function and the proof that a call of it does what that function says.
-/
import Derived.Test.YtnffhpnlehcoiaaProg
import Derived.Test.YtnffhpnlehcoiaaGU
import Derived.Test.YtnffhpnlehcoiaaGN
set_option linter.unusedVariables false
set_option linter.unusedSimpArgs false
set_option maxRecDepth 100000
namespace Go.Proofs.Ytnffhpnlehcoiaa
open Go Go.Gol
theorem E48 : ElemInfo Try.prog 48 55 2 16 := ElemInfo.mk' (.agg #[.int .i64 0, .bool false]) (by kernel_rfl) (by kernel_rfl) rfl
theorem E24 : ElemInfo Try.prog 24 3 1 8 := ElemInfo.mk' (.int .i64 0) (by kernel_rfl) (by kernel_rfl) rfl
theorem E44 : ElemInfo Try.prog 44 47 1 8 := ElemInfo.mk' (.pointer none) (by kernel_rfl) (by kernel_rfl) rfl
theorem E22 : ElemInfo Try.prog 22 5 1 1 := ElemInfo.mk' (.int .u8 0) (by kernel_rfl) (by kernel_rfl) rfl
noncomputable abbrev C21 : Code := Try.f21.body.getD .skip
noncomputable abbrev C8 : Code := Try.f8.body.getD .skip
noncomputable abbrev C16 : Code := Try.f16.body.getD .skip
noncomputable abbrev C22 : Code := Try.f22.body.getD .skip
noncomputable abbrev C23 : Code := Try.f23.body.getD .skip
noncomputable abbrev C17 : Code := Try.f17.body.getD .skip
noncomputable abbrev C9 : Code := Try.f9.body.getD .skip
noncomputable abbrev C18 : Code := Try.f18.body.getD .skip
noncomputable abbrev C24 : Code := Try.f24.body.getD .skip
noncomputable abbrev C25 : Code := Try.f25.body.getD .skip
noncomputable abbrev C20 : Code := Try.f20.body.getD .skip
noncomputable abbrev C19 : Code := Try.f19.body.getD .skip
noncomputable abbrev C10 : Code := Try.f10.body.getD .skip
noncomputable abbrev C11 : Code := Try.f11.body.getD .skip
noncomputable abbrev C12 : Code := Try.f12.body.getD .skip
noncomputable abbrev C7 : Code := Try.f7.body.getD .skip
noncomputable abbrev C3 : Code := Try.f3.body.getD .skip
noncomputable abbrev C4 : Code := Try.f4.body.getD .skip
noncomputable abbrev C13 : Code := Try.f13.body.getD .skip
noncomputable abbrev C14 : Code := Try.f14.body.getD .skip
noncomputable abbrev C5 : Code := Try.f5.body.getD .skip
noncomputable abbrev C15 : Code := Try.f15.body.getD .skip
noncomputable abbrev C6 : Code := Try.f6.body.getD .skip
def O50 (b : Nat) (x : Int × Int × Int × (List (Int × Bool))) : HP := fun H => ∃ a : (Option Addr × Nat), SepL [pts b (.cells #[.int .i64 x.1, .int .i64 x.2.1, .int .i64 x.2.2.1, .slice a.1 x.2.2.2.length a.2] 50 (0, 0)), osl 55 (r0 (.pair (.int .i64) .bool)) 2 a.1 a.2 x.2.2.2] H
theorem O50.open {w : World} {B : Rf} {cs : List HP} {b : Nat} {x : Int × Int × Int × (List (Int × Bool))} (h : Sat w B (O50 b x :: cs)) : ∃ (A0 : Option Addr) (c0 : Nat), Sat w B ([pts b (.cells #[.int .i64 x.1, .int .i64 x.2.1, .int .i64 x.2.2.1, .slice A0 x.2.2.2.length c0] 50 (0, 0)), osl 55 (r0 (.pair (.int .i64) .bool)) 2 A0 c0 x.2.2.2] ++ cs) := by
  obtain ⟨a, h⟩ := Sat.ex h
  exact ⟨a.1, a.2, Sat.op h⟩
theorem O50.close {w : World} {B : Rf} {cs : List HP} {b : Nat} (x : Int × Int × Int × (List (Int × Bool))) (A0 : Option Addr) (c0 : Nat) (h : Sat w B ([pts b (.cells #[.int .i64 x.1, .int .i64 x.2.1, .int .i64 x.2.2.1, .slice A0 x.2.2.2.length c0] 50 (0, 0)), osl 55 (r0 (.pair (.int .i64) .bool)) 2 A0 c0 x.2.2.2] ++ cs)) : Sat w B (O50 b x :: cs) := Sat.mono1 (c := SepL [pts b (.cells #[.int .i64 x.1, .int .i64 x.2.1, .int .i64 x.2.2.1, .slice A0 x.2.2.2.length c0] 50 (0, 0)), osl 55 (r0 (.pair (.int .i64) .bool)) 2 A0 c0 x.2.2.2]) (fun H h => ⟨(A0, c0), h⟩) (Sat.cl _ h)
theorem P50.open {H : Heap} {v : Value} {o : Option (Int × Int × Int × (List (Int × Bool)))} (h : Gol.rd H (.ptr 50 (.pair (.int .i64) (.pair (.int .i64) (.pair (.int .i64) (.slice 55 (.pair (.int .i64) .bool)))))) [v] o) {y : Int × Int × Int × (List (Int × Bool))} (e : o = some y) : ∃ (b : Nat) (fr : Nat × Nat) (A0 : Option Addr) (c0 : Nat), v = .pointer (some ⟨b, 0, none⟩) ∧ H b = some (.cells #[.int .i64 y.1, .int .i64 y.2.1, .int .i64 y.2.2.1, .slice A0 y.2.2.2.length c0] 50 fr) ∧ rdS (r0 (.pair (.int .i64) .bool)) 2 H A0 c0 y.2.2.2 := by
  obtain ⟨b, cells, fr, hv, hb, hr⟩ := rd_ptr_some h e
  obtain ⟨_, _, e0, g0, z0, ⟨_, _, e1, g1, z1, ⟨_, _, e2, g2, z2, ⟨A0, c0, z3, R0⟩⟩⟩⟩ := hr
  have z0' := z0; replace z0' : _ = ([.int .i64 y.1] : List Value) := z0'
  have z1' := z1; replace z1' : _ = ([.int .i64 y.2.1] : List Value) := z1'
  have z2' := z2; replace z2' : _ = ([.int .i64 y.2.2.1] : List Value) := z2'
  have z3' := z3; replace z3' : _ = ([.slice A0 y.2.2.2.length c0] : List Value) := z3'
  have hc : cells = #[.int .i64 y.1, .int .i64 y.2.1, .int .i64 y.2.2.1, .slice A0 y.2.2.2.length c0] := by apply Array.ext'; rw [e0, z0', e1, z1', e2, z2', z3']; rfl
  subst hc
  exact ⟨b, fr, A0, c0, hv, hb, R0⟩
theorem P50.mk {H : Heap} {b : Nat} {fr : Nat × Nat} {y : Int × Int × Int × (List (Int × Bool))} {A0 : Option Addr} {c0 : Nat} (hb : H b = some (.cells #[.int .i64 y.1, .int .i64 y.2.1, .int .i64 y.2.2.1, .slice A0 y.2.2.2.length c0] 50 fr)) (R0 : rdS (r0 (.pair (.int .i64) .bool)) 2 H A0 c0 y.2.2.2) : Gol.rd H (.ptr 50 (.pair (.int .i64) (.pair (.int .i64) (.pair (.int .i64) (.slice 55 (.pair (.int .i64) .bool)))))) [.pointer (some ⟨b, 0, none⟩)] (some y) := ⟨b, _, fr, rfl, hb, ⟨[.int .i64 y.1], [.int .i64 y.2.1, .int .i64 y.2.2.1, .slice A0 y.2.2.2.length c0], rfl, rfl, rfl, ⟨[.int .i64 y.2.1], [.int .i64 y.2.2.1, .slice A0 y.2.2.2.length c0], rfl, rfl, rfl, ⟨[.int .i64 y.2.2.1], [.slice A0 y.2.2.2.length c0], rfl, rfl, rfl, ⟨A0, c0, rfl, (rdS.r0up R0)⟩⟩⟩⟩⟩
theorem O50.rd (b : Nat) (x : Int × Int × Int × (List (Int × Bool))) (H : Heap) (h : O50 b x H) : Gol.rd H (.ptr 50 (.pair (.int .i64) (.pair (.int .i64) (.pair (.int .i64) (.slice 55 (.pair (.int .i64) .bool)))))) [.pointer (some ⟨b, 0, none⟩)] (some x) := by
  obtain ⟨a, h⟩ := h
  exact P50.mk (SepL.blockAt 0 h rfl) (SepL.rdAt 1 h rfl)
def O46 (b : Nat) (x : Int × (List (Option (Int × Int × Int × (List (Int × Bool))))) × Int × Bool × Int × Bool) : HP := fun H => ∃ a : (Option Addr × Nat), SepL [pts b (.cells #[.int .i64 x.1, .slice a.1 x.2.1.length a.2, .int .i64 x.2.2.1, .bool x.2.2.2.1, .int .i64 x.2.2.2.2.1, .bool x.2.2.2.2.2] 46 (0, 0)), orw 47 (Ept O50) 1 a.1 a.2 x.2.1] H
theorem O46.open {w : World} {B : Rf} {cs : List HP} {b : Nat} {x : Int × (List (Option (Int × Int × Int × (List (Int × Bool))))) × Int × Bool × Int × Bool} (h : Sat w B (O46 b x :: cs)) : ∃ (A0 : Option Addr) (c0 : Nat), Sat w B ([pts b (.cells #[.int .i64 x.1, .slice A0 x.2.1.length c0, .int .i64 x.2.2.1, .bool x.2.2.2.1, .int .i64 x.2.2.2.2.1, .bool x.2.2.2.2.2] 46 (0, 0)), orw 47 (Ept O50) 1 A0 c0 x.2.1] ++ cs) := by
  obtain ⟨a, h⟩ := Sat.ex h
  exact ⟨a.1, a.2, Sat.op h⟩
theorem O46.close {w : World} {B : Rf} {cs : List HP} {b : Nat} (x : Int × (List (Option (Int × Int × Int × (List (Int × Bool))))) × Int × Bool × Int × Bool) (A0 : Option Addr) (c0 : Nat) (h : Sat w B ([pts b (.cells #[.int .i64 x.1, .slice A0 x.2.1.length c0, .int .i64 x.2.2.1, .bool x.2.2.2.1, .int .i64 x.2.2.2.2.1, .bool x.2.2.2.2.2] 46 (0, 0)), orw 47 (Ept O50) 1 A0 c0 x.2.1] ++ cs)) : Sat w B (O46 b x :: cs) := Sat.mono1 (c := SepL [pts b (.cells #[.int .i64 x.1, .slice A0 x.2.1.length c0, .int .i64 x.2.2.1, .bool x.2.2.2.1, .int .i64 x.2.2.2.2.1, .bool x.2.2.2.2.2] 46 (0, 0)), orw 47 (Ept O50) 1 A0 c0 x.2.1]) (fun H h => ⟨(A0, c0), h⟩) (Sat.cl _ h)
theorem P46.open {H : Heap} {v : Value} {o : Option (Int × (List (Option (Int × Int × Int × (List (Int × Bool))))) × Int × Bool × Int × Bool)} (h : Gol.rd H (.ptr 46 (.pair (.int .i64) (.pair (.slice 47 (.ptr 50 (.pair (.int .i64) (.pair (.int .i64) (.pair (.int .i64) (.slice 55 (.pair (.int .i64) .bool))))))) (.pair (.int .i64) (.pair .bool (.pair (.int .i64) .bool)))))) [v] o) {y : Int × (List (Option (Int × Int × Int × (List (Int × Bool))))) × Int × Bool × Int × Bool} (e : o = some y) : ∃ (b : Nat) (fr : Nat × Nat) (A0 : Option Addr) (c0 : Nat), v = .pointer (some ⟨b, 0, none⟩) ∧ H b = some (.cells #[.int .i64 y.1, .slice A0 y.2.1.length c0, .int .i64 y.2.2.1, .bool y.2.2.2.1, .int .i64 y.2.2.2.2.1, .bool y.2.2.2.2.2] 46 fr) ∧ rdS (Gol.rd H (.ptr 50 (.pair (.int .i64) (.pair (.int .i64) (.pair (.int .i64) (.slice 55 (.pair (.int .i64) .bool))))))) 1 H A0 c0 y.2.1 := by
  obtain ⟨b, cells, fr, hv, hb, hr⟩ := rd_ptr_some h e
  obtain ⟨_, _, e0, g0, z0, ⟨_, _, e1, g1, ⟨A0, c0, z1, R0⟩, ⟨_, _, e2, g2, z2, ⟨_, _, e3, g3, z3, ⟨_, _, e4, g4, z4, z5⟩⟩⟩⟩⟩ := hr
  have z0' := z0; replace z0' : _ = ([.int .i64 y.1] : List Value) := z0'
  have z1' := z1; replace z1' : _ = ([.slice A0 y.2.1.length c0] : List Value) := z1'
  have z2' := z2; replace z2' : _ = ([.int .i64 y.2.2.1] : List Value) := z2'
  have z3' := z3; replace z3' : _ = ([.bool y.2.2.2.1] : List Value) := z3'
  have z4' := z4; replace z4' : _ = ([.int .i64 y.2.2.2.2.1] : List Value) := z4'
  have z5' := z5; replace z5' : _ = ([.bool y.2.2.2.2.2] : List Value) := z5'
  have hc : cells = #[.int .i64 y.1, .slice A0 y.2.1.length c0, .int .i64 y.2.2.1, .bool y.2.2.2.1, .int .i64 y.2.2.2.2.1, .bool y.2.2.2.2.2] := by apply Array.ext'; rw [e0, z0', e1, z1', e2, z2', e3, z3', e4, z4', z5']; rfl
  subst hc
  exact ⟨b, fr, A0, c0, hv, hb, R0⟩
theorem P46.mk {H : Heap} {b : Nat} {fr : Nat × Nat} {y : Int × (List (Option (Int × Int × Int × (List (Int × Bool))))) × Int × Bool × Int × Bool} {A0 : Option Addr} {c0 : Nat} (hb : H b = some (.cells #[.int .i64 y.1, .slice A0 y.2.1.length c0, .int .i64 y.2.2.1, .bool y.2.2.2.1, .int .i64 y.2.2.2.2.1, .bool y.2.2.2.2.2] 46 fr)) (R0 : rdS (Gol.rd H (.ptr 50 (.pair (.int .i64) (.pair (.int .i64) (.pair (.int .i64) (.slice 55 (.pair (.int .i64) .bool))))))) 1 H A0 c0 y.2.1) : Gol.rd H (.ptr 46 (.pair (.int .i64) (.pair (.slice 47 (.ptr 50 (.pair (.int .i64) (.pair (.int .i64) (.pair (.int .i64) (.slice 55 (.pair (.int .i64) .bool))))))) (.pair (.int .i64) (.pair .bool (.pair (.int .i64) .bool)))))) [.pointer (some ⟨b, 0, none⟩)] (some y) := ⟨b, _, fr, rfl, hb, ⟨[.int .i64 y.1], [.slice A0 y.2.1.length c0, .int .i64 y.2.2.1, .bool y.2.2.2.1, .int .i64 y.2.2.2.2.1, .bool y.2.2.2.2.2], rfl, rfl, rfl, ⟨[.slice A0 y.2.1.length c0], [.int .i64 y.2.2.1, .bool y.2.2.2.1, .int .i64 y.2.2.2.2.1, .bool y.2.2.2.2.2], rfl, rfl, ⟨A0, c0, rfl, R0⟩, ⟨[.int .i64 y.2.2.1], [.bool y.2.2.2.1, .int .i64 y.2.2.2.2.1, .bool y.2.2.2.2.2], rfl, rfl, rfl, ⟨[.bool y.2.2.2.1], [.int .i64 y.2.2.2.2.1, .bool y.2.2.2.2.2], rfl, rfl, rfl, ⟨[.int .i64 y.2.2.2.2.1], [.bool y.2.2.2.2.2], rfl, rfl, rfl, rfl⟩⟩⟩⟩⟩⟩
theorem O46.rd (b : Nat) (x : Int × (List (Option (Int × Int × Int × (List (Int × Bool))))) × Int × Bool × Int × Bool) (H : Heap) (h : O46 b x H) : Gol.rd H (.ptr 46 (.pair (.int .i64) (.pair (.slice 47 (.ptr 50 (.pair (.int .i64) (.pair (.int .i64) (.pair (.int .i64) (.slice 55 (.pair (.int .i64) .bool))))))) (.pair (.int .i64) (.pair .bool (.pair (.int .i64) .bool)))))) [.pointer (some ⟨b, 0, none⟩)] (some x) := by
  obtain ⟨a, h⟩ := h
  exact P46.mk (SepL.blockAt 0 h rfl) (SepL.rdAnyS 1 h rfl (fun _ h => orw.rdS (κ := (.ptr 50 (.pair (.int .i64) (.pair (.int .i64) (.pair (.int .i64) (.slice 55 (.pair (.int .i64) .bool))))))) (Ept.rd (t := 50) (κ := (.pair (.int .i64) (.pair (.int .i64) (.pair (.int .i64) (.slice 55 (.pair (.int .i64) .bool)))))) (O := O50) O50.rd) h))
def O55 (b : Nat) (x : Int × Bool) : HP := fun H => SepL [pts b (.cells #[.int .i64 x.1, .bool x.2] 55 (0, 0))] H
theorem O55.open {w : World} {B : Rf} {cs : List HP} {b : Nat} {x : Int × Bool} (h : Sat w B (O55 b x :: cs)) : Sat w B ([pts b (.cells #[.int .i64 x.1, .bool x.2] 55 (0, 0))] ++ cs) := Sat.op h
theorem O55.close {w : World} {B : Rf} {cs : List HP} {b : Nat} (x : Int × Bool) (h : Sat w B ([pts b (.cells #[.int .i64 x.1, .bool x.2] 55 (0, 0))] ++ cs)) : Sat w B (O55 b x :: cs) := Sat.mono1 (c := SepL [pts b (.cells #[.int .i64 x.1, .bool x.2] 55 (0, 0))]) (fun H h => h) (Sat.cl _ h)
theorem P55.open {H : Heap} {v : Value} {o : Option (Int × Bool)} (h : Gol.rd H (.ptr 55 (.pair (.int .i64) .bool)) [v] o) {y : Int × Bool} (e : o = some y) : ∃ (b : Nat) (fr : Nat × Nat), v = .pointer (some ⟨b, 0, none⟩) ∧ H b = some (.cells #[.int .i64 y.1, .bool y.2] 55 fr) := by
  obtain ⟨b, cells, fr, hv, hb, hr⟩ := rd_ptr_some h e
  obtain ⟨_, _, e0, g0, z0, z1⟩ := hr
  have z0' := z0; replace z0' : _ = ([.int .i64 y.1] : List Value) := z0'
  have z1' := z1; replace z1' : _ = ([.bool y.2] : List Value) := z1'
  have hc : cells = #[.int .i64 y.1, .bool y.2] := by apply Array.ext'; rw [e0, z0', z1']; rfl
  subst hc
  exact ⟨b, fr, hv, hb⟩
theorem P55.mk {H : Heap} {b : Nat} {fr : Nat × Nat} {y : Int × Bool} (hb : H b = some (.cells #[.int .i64 y.1, .bool y.2] 55 fr)) : Gol.rd H (.ptr 55 (.pair (.int .i64) .bool)) [.pointer (some ⟨b, 0, none⟩)] (some y) := ⟨b, _, fr, rfl, hb, ⟨[.int .i64 y.1], [.bool y.2], rfl, rfl, rfl, rfl⟩⟩
theorem O55.rd (b : Nat) (x : Int × Bool) (H : Heap) (h : O55 b x H) : Gol.rd H (.ptr 55 (.pair (.int .i64) .bool)) [.pointer (some ⟨b, 0, none⟩)] (some x) := by
  exact P55.mk (SepL.blockAt 0 h rfl)
/-! ### 21 slices.Delete of jobs (by hand) -/
def slices_Delete.f (l0 : List (Int × Bool)) (a1 : Int) (a2 : Int) : Option (List (Int × Bool)) := if 0 ≤ a1 ∧ a1 ≤ a2 ∧ a2 ≤ (l0.length : Int) then some (l0.take a1.toNat ++ l0.drop a2.toNat) else none
def slices_Delete.post (B : Rf) (r : List (Int × Bool)) (v : Value) (w' : World) : Prop := ∃ (A' : Option Addr) (c' : Nat), v = .slice A' r.length c' ∧ Sat w' B [osl 55 (r0 (.pair (.int .i64) .bool)) 2 A' c' r]
theorem slices_Delete.calls (B : Rf) (w0 : World) (A0 : Option Addr) (c0 : Nat) (l0 : List (Int × Bool)) (hS : Sat w0 B [osl 55 (r0 (.pair (.int .i64) .bool)) 2 A0 c0 l0]) (a1 : Int) (a2 : Int) (r : List (Int × Bool)) (H : slices_Delete.f l0 a1 a2 = some r) :
    Calls Try.prog 21 #[.slice A0 l0.length c0, .int .i64 a1, .int .i64 a2] w0 (fun e w' => ∃ v, e = .returned v ∧ slices_Delete.post B r v w') := by
  unfold slices_Delete.f at H
  split at H
  case isFalse => cases H
  rename_i hc
  obtain ⟨h0, h1, h2⟩ := hc
  obtain rfl := Option.some.inj H
  clear H
  obtain ⟨M0, hM, _, hm⟩ := Sat.read [] [] hS
  obtain ⟨m1, m2, m3⟩ := hm
  refine calls_of_WC (vs := [.slice A0 l0.length c0, .int .i64 a1, .int .i64 a2]) Try.func21 (c := C21) (n := 33) (by kernel_rfl) (by kernel_rfl) (by kernel_rfl) ?_
  refine WC.seq (by kernel_rfl) ?_
  refine WC.reg [0] (by kernel_rfl) (by kernel_rfl) ?_
  refine WR.runk [0] [] [0, 1, 2] (L' := [(0, .slice A0 l0.length c0), (1, .int .i64 a1), (2, .int .i64 a2)]) (w' := w0) (by kernel_rfl) ?_
  refine WR.nil ?_
  refine At.go ?_
  refine WC.seq (by kernel_rfl) ?_
  refine WC.reg [0, 1, 2, 3, 4, 5] (by kernel_rfl) (by kernel_rfl) ?_
  refine WR.runk [0, 1, 2, 3, 4] [5] [0, 1, 2, 8, 9, 10, 12] (L' := [(0, .slice A0 l0.length c0), (1, .int .i64 a1), (2, .int .i64 a2), (8, .slice A0 l0.length c0), (9, .int .i64 a1), (10, .int .i64 a2), (12, .int .i64 (l0.length : Int))]) (w' := w0) (by kernel_rfl) ?_
  refine WR.st (St.ofP (PSt.cut (A := A0) (m := l0.length) (c := c0) (l := a1.toNat) (h := a2.toNat) (mm := ((l0.length : Int)).toNat) (.tmp 8) (some (.tmp 9)) (some (.tmp 10)) (some (.tmp 12)) (by kernel_rfl) (by kernel_rfl) E48 (by kernel_rfl) (lv := some (.int .i64 a1)) (hv := some (.int .i64 a2)) (mv := some (.int .i64 (l0.length : Int))) (by kernel_rfl) (by kernel_rfl) (by kernel_rfl) (fun w => bounds_all (k := .i64) (k2 := .i64) (k3 := .i64) h0 h1 h2 (by omega) w) ?_))
  refine WR.runk [] [] [0, 1, 2] (L' := [(0, .slice A0 l0.length c0), (1, .int .i64 a1), (2, .int .i64 a2)]) (w' := w0) (by kernel_rfl) ?_
  refine WR.nil ?_
  refine At.go ?_
  refine WC.seq (by kernel_rfl) ?_
  refine WC.seq (by kernel_rfl) ?_
  refine WC.reg [0, 1, 2] (by kernel_rfl) (by kernel_rfl) ?_
  refine WR.runk [0, 1, 2] [] [0, 1, 2, 16] (L' := [(0, .slice A0 l0.length c0), (1, .int .i64 a1), (2, .int .i64 a2), (16, .bool (a1 == a2))]) (w' := w0) (by kernel_rfl) ?_
  refine WR.nil ?_
  refine At.go ?_
  refine WC.cond (by kernel_rfl) (a1 == a2) (by kernel_rfl) (by kernel_rfl) (fun hb1 => ?_) (fun hb1 => ?_)
  · have e12 : a1 = a2 := by simpa using hb1
    refine WC.seq (by kernel_rfl) ?_
    refine WC.reg [0, 1] (by kernel_rfl) (by kernel_rfl) ?_
    refine WR.runk [0, 1] [] [6] (L' := [(6, .slice A0 l0.length c0)]) (w' := w0) (by kernel_rfl) ?_
    refine WR.nil ?_
    refine At.go ?_
    refine WC.ret (by kernel_rfl) ?_
    refine At.thenRet ?_
    have el : l0.take a1.toNat ++ l0.drop a2.toNat = l0 := by rw [e12, List.take_append_drop]
    rw [el]
    exact At.body [.slice A0 l0.length c0] (by kernel_rfl) ⟨_, rfl, _, _, rfl, hS⟩
  · have e12 : a1 < a2 := by have : a1 ≠ a2 := by simpa using hb1
                             omega
    obtain ⟨i, rfl⟩ : ∃ i : Nat, a1 = (i : Int) := ⟨a1.toNat, by omega⟩
    obtain ⟨j, rfl⟩ : ∃ j : Nat, a2 = (j : Int) := ⟨a2.toNat, by omega⟩
    simp only [Int.toNat_natCast] at *
    cases A0 with
    | none => obtain ⟨rfl, _⟩ := m3; simp at h2; omega
    | some a =>
    obtain ⟨g, off, cur, rfl, hg, ho, hr⟩ := m3
    have hl1 : (l0.take i).length = i := by simp; omega
    have hl2 : (l0.drop j).length = l0.length - j := by simp
    have hl3 : (l0.take i ++ l0.drop j).length = i + (l0.length - j) := by rw [List.length_append, hl1, hl2]
    have hS1 : Sat w0 B [osl 55 (r0 (.pair (.int .i64) .bool)) 2 (some ⟨g, off, none⟩) c0 (l0.take i)] := by
      have := hS.mono1 (fun H h => osl.part h (lo := 0) (hi := i) (m := c0) (Nat.zero_le _) (by omega) (by omega) (Nat.le_refl _))
      rw [if_neg (by omega), map_zero] at this
      simpa using this
    have hR2 : rdS (r0 (.pair (.int .i64) .bool)) 2 (hp w0) (if c0 = j then some ⟨g, off, none⟩ else (some (⟨g, off, none⟩ : Addr)).map (·.add (j * 2))) (c0 - j) (l0.drop j) := by
      have := (Sat.rdAt 0 hS rfl).part (lo := j) (hi := l0.length) (m := c0) (by omega) (Nat.le_refl _) m1 (Nat.le_refl _)
      rw [List.take_length] at this
      exact this
    refine WC.skip (by kernel_rfl) ?_
    refine At.go ?_
    refine WC.seq (by kernel_rfl) ?_
    refine WC.reg [0, 1, 2] (by kernel_rfl) (by kernel_rfl) ?_
    refine WR.runk [0, 1, 2] [] [0, 1, 2, 7] (L' := [(0, .slice (some ⟨g, off, none⟩) l0.length c0), (1, .int .i64 (i : Int)), (2, .int .i64 (j : Int)), (7, .int .i64 (l0.length : Int))]) (w' := w0) (by kernel_rfl) ?_
    refine WR.nil ?_
    refine At.go ?_
    refine WC.seq (by kernel_rfl) ?_
    refine WC.drawn (by kernel_rfl) (by kernel_rfl) 8 (by kernel_rfl) (fun w1 hw1 => ?_)
    have hS1 := hS1.heap hw1.1 hw1.2
    have hR2 : rdS (r0 (.pair (.int .i64) .bool)) 2 (hp w1) (if c0 = j then some ⟨g, off, none⟩ else (some (⟨g, off, none⟩ : Addr)).map (·.add (j * 2))) (c0 - j) (l0.drop j) := by
      have e : hp w1 = hp w0 := by funext b; simp [hp, hw1.1]
      rw [e]; exact hR2
    refine WD.weaken [0, 1, 2, 7] (L' := [(0, .slice (some ⟨g, off, none⟩) l0.length c0), (1, .int .i64 (i : Int)), (2, .int .i64 (j : Int)), (7, .int .i64 (l0.length : Int))]) (by kernel_rfl) ?_
    refine WD.pure (i := 0) (v := .slice (some ⟨g, off, none⟩) l0.length c0) (by kernel_rfl) (by kernel_rfl) (fun _ => by kernel_rfl) ?_
    refine WD.pure (i := 1) (v := .int .i64 (i : Int)) (by kernel_rfl) (by kernel_rfl) (fun _ => by kernel_rfl) ?_
    refine WD.ofP (i := 2) (by kernel_rfl) (PSt.cut (A := some ⟨g, off, none⟩) (m := l0.length) (c := c0) (l := 0) (h := i) (mm := c0) (.tmp 20) none (some (.tmp 21)) none (by kernel_rfl) (by kernel_rfl) E48 (by kernel_rfl) (lv := none) (hv := some (.int .i64 (i : Int))) (mv := none) (by kernel_rfl) (by kernel_rfl) (by kernel_rfl) (fun w => by have := bounds_none_some (P := Try.prog) (k := .i64) (m := l0.length) (c := c0) (j := (i : Int)) (by omega) (by omega) w; simpa using this) ?_)
    rw [if_neg (by omega), map_zero, Nat.sub_zero, Nat.sub_zero]
    refine WD.pure (i := 3) (v := .slice (some ⟨g, off, none⟩) l0.length c0) (by kernel_rfl) (by kernel_rfl) (fun _ => by kernel_rfl) ?_
    refine WD.pure (i := 4) (v := .int .i64 (j : Int)) (by kernel_rfl) (by kernel_rfl) (fun _ => by kernel_rfl) ?_
    refine WD.ofP (i := 5) (by kernel_rfl) (PSt.cut (A := some ⟨g, off, none⟩) (m := l0.length) (c := c0) (l := j) (h := l0.length) (mm := c0) (.tmp 23) (some (.tmp 24)) none none (by kernel_rfl) (by kernel_rfl) E48 (by kernel_rfl) (lv := some (.int .i64 (j : Int))) (hv := none) (mv := none) (by kernel_rfl) (by kernel_rfl) (by kernel_rfl) (fun w => by have := bounds_some_none (P := Try.prog) (k := .i64) (m := l0.length) (c := c0) (j := (j : Int)) (by omega) (by omega) w; simpa using this) ?_)
    refine WD.act (i := 6) (by kernel_rfl) (St.appendIn (α := Int × Bool) (R := r0 (.pair (.int .i64) .bool)) (g := g) (off := off) (c := c0) (xs := l0.take i) (ys := l0.drop j) (.tmp 22) (.tmp 25) (by kernel_rfl) (by kernel_rfl) E48 (r0_one (.pair (.int .i64) .bool)) hS1 (by rw [hl1]; kernel_rfl) (by rw [hl2]; kernel_rfl) hR2 (by rw [hl1, hl2]; omega) (fun w2 hS => ?_))
    refine ⟨asked.nil _ _, ?_⟩
    rw [hl3]
    refine WD.pure (i := 7) (v := .slice (some ⟨g, off, none⟩) (i + (l0.length - j)) c0) (by kernel_rfl) (by kernel_rfl) (fun _ => by kernel_rfl) ?_
    refine WD.weaken [0, 7] (L' := [(0, .slice (some ⟨g, off, none⟩) (i + (l0.length - j)) c0), (7, .int .i64 (l0.length : Int))]) (by kernel_rfl) ?_
    refine WD.nil (by kernel_rfl) ?_
    refine At.go ?_
    refine WC.seq (by kernel_rfl) ?_
    refine WC.reg [0, 1, 2, 3, 4, 5] (by kernel_rfl) (by kernel_rfl) ?_
    refine WR.runk [0, 1, 2, 3] [4, 5] [0, 27, 29, 30] (L' := [(0, .slice (some ⟨g, off, none⟩) (i + (l0.length - j)) c0), (27, .slice (some ⟨g, off, none⟩) (i + (l0.length - j)) c0), (29, .int .i64 ((i + (l0.length - j) : Nat) : Int)), (30, .int .i64 (l0.length : Int))]) (w' := w2) (by kernel_rfl) ?_
    refine WR.st (St.ofP (PSt.cut (A := some ⟨g, off, none⟩) (m := i + (l0.length - j)) (c := c0) (l := i + (l0.length - j)) (h := l0.length) (mm := c0) (.tmp 27) (some (.tmp 29)) (some (.tmp 30)) none (by kernel_rfl) (by kernel_rfl) E48 (by kernel_rfl) (lv := some (.int .i64 ((i + (l0.length - j) : Nat) : Int))) (hv := some (.int .i64 (l0.length : Int))) (mv := none) (by kernel_rfl) (by kernel_rfl) (by kernel_rfl) (fun w => by have := bounds_some_some (P := Try.prog) (k := .i64) (k2 := .i64) (m := i + (l0.length - j)) (c := c0) (j := ((i + (l0.length - j) : Nat) : Int)) (j2 := (l0.length : Int)) (by omega) (by omega) (by omega) w; rw [Int.toNat_natCast, Int.toNat_natCast] at this; exact this) ?_))
    have eA : (some (⟨g, off, none⟩ : Addr)).map (·.add ((i + (l0.length - j)) * 2)) = some ⟨g, off + (i + (l0.length - j)) * 2, none⟩ := by simp [addr_add]
    have eM : l0.length - (i + (l0.length - j)) = (j - i - 1) + 1 := by omega
    rw [if_neg (by omega), eA, eM]
    refine WR.st (St.clearTail (t := 48) (g := g) (off := off) (c := c0) (k := i + (l0.length - j)) (m := j - i - 1) (c' := c0 - (i + (l0.length - j))) (.tmp 31) (by kernel_rfl) (by kernel_rfl) E48 (fun inf z hi hz v hv => ?_) hS (by kernel_rfl) (by rw [hl3]; exact Nat.le_refl _) (by omega) (fun w3 hS => ?_))
    · have hq : (Try.prog.info? 55).bind (·.zero) = some (.agg #[.int .i64 0, .bool false]) := by kernel_rfl
      rw [hi] at hq
      have hq' : inf.zero = some (.agg #[.int .i64 0, .bool false]) := hq
      rw [hz] at hq'
      obtain rfl := Option.some.inj hq'
      have hv' : v ∈ [Value.int .i64 0, Value.bool false] := hv
      simp at hv'
      rcases hv' with rfl | rfl <;> rfl
    refine WR.runk [] [] [0] (L' := [(0, .slice (some ⟨g, off, none⟩) (i + (l0.length - j)) c0)]) (w' := w3) (by kernel_rfl) ?_
    refine WR.nil ?_
    refine At.go ?_
    refine WC.seq (by kernel_rfl) ?_
    refine WC.reg [0, 1] (by kernel_rfl) (by kernel_rfl) ?_
    refine WR.runk [0, 1] [] [6] (L' := [(6, .slice (some ⟨g, off, none⟩) (i + (l0.length - j)) c0)]) (w' := w3) (by kernel_rfl) ?_
    refine WR.nil ?_
    refine At.go ?_
    refine WC.ret (by kernel_rfl) ?_
    exact At.body [.slice (some ⟨g, off, none⟩) (i + (l0.length - j)) c0] (by kernel_rfl) ⟨_, rfl, _, _, by rw [hl3]; rfl, hS⟩

/-! ### 8 colophon/fair.New -/
def fair_New.l1 (l1 : List Int) : Nat → Int → (Int × (List (Option (Int × Int × Int × (List (Int × Bool))))) × Int × Bool × Int × Bool) → Option (Sum (Int × (Int × (List (Option (Int × Int × Int × (List (Int × Bool))))) × Int × Bool × Int × Bool)) (Int × (List (Option (Int × Int × Int × (List (Int × Bool))))) × Int × Bool × Int × Bool))
  | 0, _, _ => none
  | k + 1, x33_l1, q7_l1 => (if decide (x33_l1 < (l1.length : Int)) then ((at? l1 x33_l1).bind fun v9 => (if decide (v9 < 1) then some (.inl (2, q7_l1)) else (if decide (v9 > 16) then some (.inl (2, q7_l1)) else ((app? 17592186044416 q7_l1.2.1 [(some (v9, 0, 0, ([] : List (Int × Bool))))]).bind fun y21 => fair_New.l1 l1 k (wi (x33_l1 + 1)) (q7_l1.1, y21, q7_l1.2.2.1, q7_l1.2.2.2.1, q7_l1.2.2.2.2.1, q7_l1.2.2.2.2.2))))) else some (.inr q7_l1))
def fair_New.f (a0 : Int) (l1 : List Int) : Option ((Option (Int × (List (Option (Int × Int × Int × (List (Int × Bool))))) × Int × Bool × Int × Bool)) × Int) := (if decide (a0 < 1) then some (none, 2) else (if decide (a0 > 4096) then some (none, 2) else (if decide ((l1.length : Int) < 1) then some (none, 2) else (if decide ((l1.length : Int) > 16) then some (none, 2) else ((fair_New.l1 l1 FU 0 (a0, ([] : List (Option (Int × Int × Int × (List (Int × Bool))))), wi ((l1.length : Int) - 1), false, 0, false)).bind fun o33 => (match o33 with | .inl o35 => some (none, o35.1) | .inr o39 => some (some o39, 0)))))))
def fair_New.post (w : World) (r : (Option (Int × (List (Option (Int × Int × Int × (List (Int × Bool))))) × Int × Bool × Int × Bool)) × Int) (v : Value) (w' : World) : Prop := ∃ (v0 : Value), v = .tuple #[v0, .int .i64 r.2] ∧ Sat w' (rf w) [optP O46 v0 r.1]
theorem fair_New.l1_ok {Q} (w0 : World) (A1 : Option Addr) (c1 : Nat) (l1 : List Int) (b5 : Nat) (R1 : rdS (r0 (.int .i64)) 1 (hp w0) A1 c1 l1) (out : Sum (Int × (Int × (List (Option (Int × Int × Int × (List (Int × Bool))))) × Int × Bool × Int × Bool)) (Int × (List (Option (Int × Int × Int × (List (Int × Bool))))) × Int × Bool × Int × Bool)) (hn0 : ∀ (o0 : Int × (Int × (List (Option (Int × Int × Int × (List (Int × Bool))))) × Int × Bool × Int × Bool)) (w : World), out = (.inl o0) → Sat w (rf w0) [O46 b5 o0.2] → At Q .ret 57 [(4, .pointer none), (5, .int .i64 o0.1)] w) (hn1 : ∀ (o1 : (Int × (List (Option (Int × Int × Int × (List (Int × Bool))))) × Int × Bool × Int × Bool)) (w : World), out = (.inr o1) → Sat w (rf w0) [O46 b5 o1] → At Q (.exit 0) 57 [(6, .pointer (some ⟨b5, 0, none⟩))] w) :
    ∀ (k : Nat) (x33_l1 : Int) (q7_l1 : Int × (List (Option (Int × Int × Int × (List (Int × Bool))))) × Int × Bool × Int × Bool) (w : World), Sat w (rf w0) [O46 b5 q7_l1] → fair_New.l1 l1 k x33_l1 q7_l1 = some out → WL Try.prog (cbody (cbody (cr (cl (cr (cr (cr C8))))))) Q 57 [(6, .pointer (some ⟨b5, 0, none⟩)), (31, .slice A1 l1.length c1), (32, .int .i64 (l1.length : Int)), (33, .int .i64 x33_l1)] w := by
  intro k
  induction k with
  | zero => intro x33_l1 q7_l1 w hS H; exact absurd (show none = some out from H) (by simp)
  | succ k ih =>
    intro x33_l1 q7_l1 w hS H
    unfold fair_New.l1 at H
    refine WL.round ?_
    refine WC.seq (by kernel_rfl) ?_
    refine WC.reg [0] (by kernel_rfl) (by kernel_rfl) ?_
    refine WR.runk [0] [] [6, 31, 32, 33, 34] (L' := [(6, .pointer (some ⟨b5, 0, none⟩)), (31, .slice A1 l1.length c1), (32, .int .i64 (l1.length : Int)), (33, .int .i64 x33_l1), (34, .bool (decide (x33_l1 < (l1.length : Int))))]) (w' := w) (by kernel_rfl) ?_
    refine WR.nil ?_
    refine At.go ?_
    refine WC.seq (by kernel_rfl) ?_
    refine WC.cond (by kernel_rfl) (decide (x33_l1 < (l1.length : Int))) (by kernel_rfl) (by kernel_rfl) (fun hb8 => ?_) (fun hb8 => ?_)
    · replace H := ite_t H hb8
      refine WC.skip (by kernel_rfl) ?_
      refine At.go ?_
      refine WC.seq (by kernel_rfl) ?_
      refine WC.block (by kernel_rfl) ?_
      refine WC.seq (by kernel_rfl) ?_
      refine WC.reg [0, 1, 2] (by kernel_rfl) (by kernel_rfl) ?_
      refine WR.runk [] [0, 1, 2] [6, 31, 32, 33] (L' := [(6, .pointer (some ⟨b5, 0, none⟩)), (31, .slice A1 l1.length c1), (32, .int .i64 (l1.length : Int)), (33, .int .i64 x33_l1)]) (w' := w) (by kernel_rfl) ?_
      obtain ⟨v9, e10, H⟩ := bind_ex H
      refine WR.st (St.ofP (PSt.idx (k := .i64) (.tmp 31) (.tmp 33) (by kernel_rfl) (by kernel_rfl) E24 (by kernel_rfl) (by kernel_rfl) (rdS.up R1 hS.sub0) e10 ?_))
      refine WR.runk [] [1, 2] [6, 31, 32, 33, 35] (L' := [(6, .pointer (some ⟨b5, 0, none⟩)), (31, .slice A1 l1.length c1), (32, .int .i64 (l1.length : Int)), (33, .int .i64 x33_l1), (35, .pointer (some (adr A1 x33_l1.toNat 1)))]) (w' := w) (by kernel_rfl) ?_
      refine WR.st (St.ofR (RSt.loadInt (t := 3) (.tmp 35) (by kernel_rfl) (by kernel_rfl) (by kernel_rfl) (by kernel_rfl) (rdS.up R1 hS.sub0) e10 ?_))
      refine WR.runk [2] [] [6, 8, 31, 32, 33] (L' := [(6, .pointer (some ⟨b5, 0, none⟩)), (8, .int .i64 v9), (31, .slice A1 l1.length c1), (32, .int .i64 (l1.length : Int)), (33, .int .i64 x33_l1)]) (w' := w) (by kernel_rfl) ?_
      refine WR.nil ?_
      refine At.go ?_
      refine WC.seq (by kernel_rfl) ?_
      refine WC.seq (by kernel_rfl) ?_
      refine WC.reg [0, 1, 2, 3, 4, 5] (by kernel_rfl) (by kernel_rfl) ?_
      refine WR.runk [0, 1, 2] [3, 4, 5] [6, 8, 31, 32, 33, 39] (L' := [(6, .pointer (some ⟨b5, 0, none⟩)), (8, .int .i64 v9), (31, .slice A1 l1.length c1), (32, .int .i64 (l1.length : Int)), (33, .int .i64 x33_l1), (39, .bool (decide (v9 < 1)))]) (w' := w) (by kernel_rfl) ?_
      refine WR.split 39 (b := decide (v9 < 1)) (by kernel_rfl) (fun hb11 => ?_) (fun hb11 => ?_)
      · replace H := ite_t H hb11
        refine WR.runk [3, 4, 5] [] [6, 8, 31, 32, 33, 40, 41, 42] (L' := [(6, .pointer (some ⟨b5, 0, none⟩)), (8, .int .i64 v9), (31, .slice A1 l1.length c1), (32, .int .i64 (l1.length : Int)), (33, .int .i64 x33_l1), (40, undef), (41, undef), (42, .bool true)]) (w' := w) (by kernel_rfl) ?_
        refine WR.nil ?_
        refine At.go ?_
        refine WC.condT (by kernel_rfl) (by kernel_rfl) (by kernel_rfl) ?_
        refine WC.seq (by kernel_rfl) ?_
        refine WC.reg [0, 1] (by kernel_rfl) (by kernel_rfl) ?_
        refine WR.runk [0, 1] [] [4, 5] (L' := [(4, .pointer none), (5, .int .i64 2)]) (w' := w) (by kernel_rfl) ?_
        refine WR.nil ?_
        refine At.go ?_
        refine WC.ret (by kernel_rfl) ?_
        refine At.thenRet ?_
        refine At.blockRet ?_
        refine At.thenRet ?_
        refine At.thenRet ?_
        obtain rfl := Option.some.inj H
        have hS : Sat w (rf w0) [O46 b5 q7_l1] := hS.sel [0] (by kernel_rfl)
        refine At.weaken [4, 5] (L' := [(4, .pointer none), (5, .int .i64 2)]) (by kernel_rfl) ?_
        exact hn0 (2, q7_l1) _ rfl hS
      · replace H := ite_f H hb11
        refine WR.runk [3, 4, 5] [] [6, 8, 31, 32, 33, 40, 41, 42] (L' := [(6, .pointer (some ⟨b5, 0, none⟩)), (8, .int .i64 v9), (31, .slice A1 l1.length c1), (32, .int .i64 (l1.length : Int)), (33, .int .i64 x33_l1), (40, .int .i64 v9), (41, .bool (decide (v9 > 16))), (42, .bool (decide (v9 > 16)))]) (w' := w) (by kernel_rfl) ?_
        refine WR.nil ?_
        refine At.go ?_
        refine WC.cond (by kernel_rfl) (decide (v9 > 16)) (by kernel_rfl) (by kernel_rfl) (fun hb12 => ?_) (fun hb12 => ?_)
        · replace H := ite_t H hb12
          refine WC.seq (by kernel_rfl) ?_
          refine WC.reg [0, 1] (by kernel_rfl) (by kernel_rfl) ?_
          refine WR.runk [0, 1] [] [4, 5] (L' := [(4, .pointer none), (5, .int .i64 2)]) (w' := w) (by kernel_rfl) ?_
          refine WR.nil ?_
          refine At.go ?_
          refine WC.ret (by kernel_rfl) ?_
          refine At.thenRet ?_
          refine At.blockRet ?_
          refine At.thenRet ?_
          refine At.thenRet ?_
          obtain rfl := Option.some.inj H
          have hS : Sat w (rf w0) [O46 b5 q7_l1] := hS.sel [0] (by kernel_rfl)
          refine At.weaken [4, 5] (L' := [(4, .pointer none), (5, .int .i64 2)]) (by kernel_rfl) ?_
          exact hn0 (2, q7_l1) _ rfl hS
        · replace H := ite_f H hb12
          refine WC.skip (by kernel_rfl) ?_
          refine At.go ?_
          refine WC.reg [0, 1, 2, 3, 4, 5, 6, 7, 8, 9, 10, 11, 12] (by kernel_rfl) (by kernel_rfl) ?_
          refine WR.runk [0, 1, 2, 3] [4, 5, 6, 7, 8, 9, 10, 11, 12] [6, 8, 31, 32, 33, 40, 43, 46] (L' := [(6, .pointer (some ⟨b5, 0, none⟩)), (8, .int .i64 v9), (31, .slice A1 l1.length c1), (32, .int .i64 (l1.length : Int)), (33, .int .i64 x33_l1), (40, .int .i64 v9), (43, .pointer (some ⟨b5, 0, none⟩)), (46, .pointer (some ⟨b5, 1, none⟩))]) (w' := w) (by kernel_rfl) ?_
          obtain ⟨A13, c14, hS⟩ := O46.open hS
          have hS : Sat w (rf w0) [pts b5 (.cells #[.int .i64 q7_l1.1, .slice A13 q7_l1.2.1.length c14, .int .i64 q7_l1.2.2.1, .bool q7_l1.2.2.2.1, .int .i64 q7_l1.2.2.2.2.1, .bool q7_l1.2.2.2.2.2] 46 (0, 0)), orw 47 (Ept O50) 1 A13 c14 q7_l1.2.1] := hS
          refine WR.st (St.ofR (RSt.loadObj (t := 44) (k := 1) (v := .slice A13 q7_l1.2.1.length c14) (.tmp 46) (by kernel_rfl) (by kernel_rfl) (by kernel_rfl) 0 hS rfl (by kernel_rfl) rfl ?_))
          refine WR.runk [5, 6] [7, 8, 9, 10, 11, 12] [6, 31, 32, 33, 40, 43, 47, 49] (L' := [(6, .pointer (some ⟨b5, 0, none⟩)), (31, .slice A1 l1.length c1), (32, .int .i64 (l1.length : Int)), (33, .int .i64 x33_l1), (40, .int .i64 v9), (43, .pointer (some ⟨b5, 0, none⟩)), (47, .slice A13 q7_l1.2.1.length c14), (49, .agg #[.int .i64 v9, .int .i64 0, .int .i64 0, .slice none 0 0])]) (w' := w) (by kernel_rfl) ?_
          refine WR.st (St.box hS (by kernel_rfl) (.cells #[.int .i64 v9, .int .i64 0, .int .i64 0, .slice none 0 0] 50) (fun b15 => .pointer (some ⟨b15, 0, none⟩)) (fun _ => by kernel_rfl) (fun b15 w16 hS => ?_))
          refine WR.runk [] [8, 9, 10, 11, 12] [6, 31, 32, 33, 40, 43, 47, 50] (L' := [(6, .pointer (some ⟨b5, 0, none⟩)), (31, .slice A1 l1.length c1), (32, .int .i64 (l1.length : Int)), (33, .int .i64 x33_l1), (40, .int .i64 v9), (43, .pointer (some ⟨b5, 0, none⟩)), (47, .slice A13 q7_l1.2.1.length c14), (50, .pointer (some ⟨b15, 0, none⟩))]) (w' := w16) (by kernel_rfl) ?_
          refine WR.st (St.box hS (by kernel_rfl) (.cells #[.pointer (some ⟨b15, 0, none⟩)] 47) (fun b18 => .slice (some ⟨b18, 0, none⟩) 1 1) (fun _ => by kernel_rfl) (fun b18 w19 hS => ?_))
          refine WR.runk [] [9, 10, 11, 12] [6, 31, 32, 33, 40, 43, 47, 51] (L' := [(6, .pointer (some ⟨b5, 0, none⟩)), (31, .slice A1 l1.length c1), (32, .int .i64 (l1.length : Int)), (33, .int .i64 x33_l1), (40, .int .i64 v9), (43, .pointer (some ⟨b5, 0, none⟩)), (47, .slice A13 q7_l1.2.1.length c14), (51, .slice (some ⟨b18, 0, none⟩) 1 1)]) (w' := w19) (by kernel_rfl) ?_
          have hS : Sat w19 (rf w0) [orw 47 (Ept O50) 1 A13 c14 q7_l1.2.1, pts b18 (.cells #[.pointer (some ⟨b15, 0, none⟩)] 47 (0, 0)), pts b15 (.cells #[.int .i64 v9, .int .i64 0, .int .i64 0, .slice none 0 0] 50 (0, 0)), pts b5 (.cells #[.int .i64 q7_l1.1, .slice A13 q7_l1.2.1.length c14, .int .i64 q7_l1.2.2.1, .bool q7_l1.2.2.2.1, .int .i64 q7_l1.2.2.2.2.1, .bool q7_l1.2.2.2.2.2] 46 (0, 0))] := hS.sel [3, 0, 1, 2] (by kernel_rfl)
          have hS := hS.addNil (α := (Int × Bool)) 55 (r0 (.pair (.int .i64) .bool)) 2
          have hS : Sat w19 (rf w0) [pts b15 (.cells #[.int .i64 v9, .int .i64 0, .int .i64 0, .slice none 0 0] 50 (0, 0)), osl 55 (r0 (.pair (.int .i64) .bool)) 2 none 0 ([] : List (Int × Bool)), orw 47 (Ept O50) 1 A13 c14 q7_l1.2.1, pts b18 (.cells #[.pointer (some ⟨b15, 0, none⟩)] 47 (0, 0)), pts b5 (.cells #[.int .i64 q7_l1.1, .slice A13 q7_l1.2.1.length c14, .int .i64 q7_l1.2.2.1, .bool q7_l1.2.2.2.1, .int .i64 q7_l1.2.2.2.2.1, .bool q7_l1.2.2.2.2.2] 46 (0, 0))] := hS.sel [3, 0, 1, 2, 4] (by kernel_rfl)
          have hS : Sat w19 (rf w0) [O50 b15 (v9, 0, 0, ([] : List (Int × Bool))), orw 47 (Ept O50) 1 A13 c14 q7_l1.2.1, pts b18 (.cells #[.pointer (some ⟨b15, 0, none⟩)] 47 (0, 0)), pts b5 (.cells #[.int .i64 q7_l1.1, .slice A13 q7_l1.2.1.length c14, .int .i64 q7_l1.2.2.1, .bool q7_l1.2.2.2.1, .int .i64 q7_l1.2.2.2.2.1, .bool q7_l1.2.2.2.2.2] 46 (0, 0))] := O50.close (v9, 0, 0, ([] : List (Int × Bool))) none 0 hS
          have hS : Sat w19 (rf w0) [optP O50 (.pointer (some ⟨b15, 0, none⟩)) (some (v9, 0, 0, ([] : List (Int × Bool)))), orw 47 (Ept O50) 1 A13 c14 q7_l1.2.1, pts b18 (.cells #[.pointer (some ⟨b15, 0, none⟩)] 47 (0, 0)), pts b5 (.cells #[.int .i64 q7_l1.1, .slice A13 q7_l1.2.1.length c14, .int .i64 q7_l1.2.2.1, .bool q7_l1.2.2.2.1, .int .i64 q7_l1.2.2.2.2.1, .bool q7_l1.2.2.2.2.2] 46 (0, 0))] := optP.mk hS
          have hS : Sat w19 (rf w0) [orw 47 (Ept O50) 1 A13 c14 q7_l1.2.1, optP O50 (.pointer (some ⟨b15, 0, none⟩)) (some (v9, 0, 0, ([] : List (Int × Bool)))), pts b18 (.cells #[.pointer (some ⟨b15, 0, none⟩)] 47 (0, 0)), pts b5 (.cells #[.int .i64 q7_l1.1, .slice A13 q7_l1.2.1.length c14, .int .i64 q7_l1.2.2.1, .bool q7_l1.2.2.2.1, .int .i64 q7_l1.2.2.2.2.1, .bool q7_l1.2.2.2.2.2] 46 (0, 0))] := hS.sel [1, 0, 2, 3] (by kernel_rfl)
          obtain ⟨y21, e20, H⟩ := bind_ex H
          refine WR.st (St.appendOwn (.tmp 47) (.tmp 51) (by kernel_rfl) (by kernel_rfl) E44 (fun H h => Ept.mk H h) hS 0 rfl (by kernel_rfl) (by kernel_rfl) (by kernel_rfl) (by kernel_rfl) 17592186044416 (by kernel_rfl) (by kernel_rfl) e20 (fun A22 c23 w24 K25 hS hK26 hM27 => ?_))
          have R28 : rdS (rd K25 (.ptr 50 (.pair (.int .i64) (.pair (.int .i64) (.pair (.int .i64) (.slice 55 (.pair (.int .i64) .bool))))))) 1 K25 A22 c23 y21 := orw.rdS (κ := (.ptr 50 (.pair (.int .i64) (.pair (.int .i64) (.pair (.int .i64) (.slice 55 (.pair (.int .i64) .bool))))))) (Ept.rd (t := 50) (κ := (.pair (.int .i64) (.pair (.int .i64) (.pair (.int .i64) (.slice 55 (.pair (.int .i64) .bool)))))) (O := O50) O50.rd) hK26
          obtain ⟨css30, hC31⟩ := orw.named hK26
          refine WR.runk [10, 11] [12] [6, 31, 32, 33, 40, 52, 54] (L' := [(6, .pointer (some ⟨b5, 0, none⟩)), (31, .slice A1 l1.length c1), (32, .int .i64 (l1.length : Int)), (33, .int .i64 x33_l1), (40, .int .i64 v9), (52, .slice A22 y21.length c23), (54, .pointer (some ⟨b5, 1, none⟩))]) (w' := w24) (by kernel_rfl) ?_
          have hS : Sat w24 (rf w0) [pts b5 (.cells #[.int .i64 q7_l1.1, .slice A13 q7_l1.2.1.length c14, .int .i64 q7_l1.2.2.1, .bool q7_l1.2.2.2.1, .int .i64 q7_l1.2.2.2.2.1, .bool q7_l1.2.2.2.2.2] 46 (0, 0)), gh K25, pts b18 (.cells #[.pointer (some ⟨b15, 0, none⟩)] 47 (0, 0))] := hS.sel [2, 0, 1] (by kernel_rfl)
          refine WR.st (St.storeObj (t := 44) (k := 1) (cur' := #[.int .i64 q7_l1.1, .slice A22 y21.length c23, .int .i64 q7_l1.2.2.1, .bool q7_l1.2.2.2.1, .int .i64 q7_l1.2.2.2.2.1, .bool q7_l1.2.2.2.2.2]) (.tmp 54) (.tmp 52) (by kernel_rfl) (by kernel_rfl) (by kernel_rfl) hS (by kernel_rfl) (by kernel_rfl) (by kernel_rfl) rfl rfl (fun w32 hS => ?_))
          refine WR.runk [] [] [6, 31, 32, 33, 40] (L' := [(6, .pointer (some ⟨b5, 0, none⟩)), (31, .slice A1 l1.length c1), (32, .int .i64 (l1.length : Int)), (33, .int .i64 x33_l1), (40, .int .i64 v9)]) (w' := w32) (by kernel_rfl) ?_
          refine WR.nil ?_
          refine At.blockNormal ?_
          refine At.go ?_
          refine WC.reg [0, 1] (by kernel_rfl) (by kernel_rfl) ?_
          refine WR.runk [0, 1] [] [6, 31, 32, 33, 40] (L' := [(6, .pointer (some ⟨b5, 0, none⟩)), (31, .slice A1 l1.length c1), (32, .int .i64 (l1.length : Int)), (33, .int .i64 (wi (x33_l1 + 1))), (40, .int .i64 v9)]) (w' := w32) (by kernel_rfl) ?_
          refine WR.nil ?_
          have hS : Sat w32 (rf w0) [gh K25, pts b5 (.cells #[.int .i64 q7_l1.1, .slice A22 y21.length c23, .int .i64 q7_l1.2.2.1, .bool q7_l1.2.2.2.1, .int .i64 q7_l1.2.2.2.2.1, .bool q7_l1.2.2.2.2.2] 46 (0, 0)), pts b18 (.cells #[.pointer (some ⟨b15, 0, none⟩)] 47 (0, 0))] := hS.sel [1, 0, 2] (by kernel_rfl)
          have hS : Sat w32 (rf w0) [orw 47 (Ept O50) 1 A22 c23 y21, pts b5 (.cells #[.int .i64 q7_l1.1, .slice A22 y21.length c23, .int .i64 q7_l1.2.2.1, .bool q7_l1.2.2.2.1, .int .i64 q7_l1.2.2.2.2.1, .bool q7_l1.2.2.2.2.2] 46 (0, 0)), pts b18 (.cells #[.pointer (some ⟨b15, 0, none⟩)] 47 (0, 0))] := Sat.ungh hK26 hS
          have hS : Sat w32 (rf w0) [pts b5 (.cells #[.int .i64 q7_l1.1, .slice A22 y21.length c23, .int .i64 q7_l1.2.2.1, .bool q7_l1.2.2.2.1, .int .i64 q7_l1.2.2.2.2.1, .bool q7_l1.2.2.2.2.2] 46 (0, 0)), orw 47 (Ept O50) 1 A22 c23 y21, pts b18 (.cells #[.pointer (some ⟨b15, 0, none⟩)] 47 (0, 0))] := hS.sel [1, 0, 2] (by kernel_rfl)
          have hS : Sat w32 (rf w0) [O46 b5 (q7_l1.1, y21, q7_l1.2.2.1, q7_l1.2.2.2.1, q7_l1.2.2.2.2.1, q7_l1.2.2.2.2.2), pts b18 (.cells #[.pointer (some ⟨b15, 0, none⟩)] 47 (0, 0))] := O46.close (q7_l1.1, y21, q7_l1.2.2.1, q7_l1.2.2.2.1, q7_l1.2.2.2.2.1, q7_l1.2.2.2.2.2) A22 c23 hS
          have hS : Sat w32 (rf w0) [O46 b5 (q7_l1.1, y21, q7_l1.2.2.1, q7_l1.2.2.2.1, q7_l1.2.2.2.2.1, q7_l1.2.2.2.2.2)] := hS.sel [0] (by kernel_rfl)
          refine At.again ?_
          refine WL.weaken [6, 31, 32, 33] (L' := [(6, .pointer (some ⟨b5, 0, none⟩)), (31, .slice A1 l1.length c1), (32, .int .i64 (l1.length : Int)), (33, .int .i64 (wi (x33_l1 + 1)))]) (by kernel_rfl) ?_
          exact ih (wi (x33_l1 + 1)) (q7_l1.1, y21, q7_l1.2.2.1, q7_l1.2.2.2.1, q7_l1.2.2.2.2.1, q7_l1.2.2.2.2.2) _ hS H
    · replace H := ite_f H hb8
      refine WC.exit (by kernel_rfl) ?_
      refine At.thenExit ?_
      refine At.thenExit ?_
      obtain rfl := Option.some.inj H
      have hS : Sat w (rf w0) [O46 b5 q7_l1] := hS.sel [0] (by kernel_rfl)
      refine At.weaken [6] (L' := [(6, .pointer (some ⟨b5, 0, none⟩))]) (by kernel_rfl) ?_
      exact hn1 q7_l1 _ rfl hS
theorem fair_New.calls (w0 : World) (a0 : Int) (A1 : Option Addr) (c1 : Nat) (l1 : List Int) (R1 : rdS (r0 (.int .i64)) 1 (hp w0) A1 c1 l1) (r : (Option (Int × (List (Option (Int × Int × Int × (List (Int × Bool))))) × Int × Bool × Int × Bool)) × Int) (H : fair_New.f a0 l1 = some r) :
    Calls Try.prog 8 #[.int .i64 a0, .slice A1 l1.length c1] w0 (fun e w' => ∃ v, e = .returned v ∧ fair_New.post w0 r v w') := by
  have hS : Sat w0 (rf w0) [] := Sat.start w0
  unfold fair_New.f at H
  refine calls_of_WC (vs := [.int .i64 a0, .slice A1 l1.length c1]) Try.func8 (c := C8) (n := 57) (by kernel_rfl) (by kernel_rfl) (by kernel_rfl) ?_
  refine WC.seq (by kernel_rfl) ?_
  refine WC.reg [0, 1] (by kernel_rfl) (by kernel_rfl) ?_
  refine WR.runk [0, 1] [] [0, 1] (L' := [(0, .int .i64 a0), (1, .slice A1 l1.length c1)]) (w' := w0) (by kernel_rfl) ?_
  refine WR.nil ?_
  refine At.go ?_
  refine WC.seq (by kernel_rfl) ?_
  refine WC.seq (by kernel_rfl) ?_
  refine WC.reg [0, 1, 2, 3, 4, 5, 6, 7, 8, 9, 10, 11, 12, 13, 14, 15] (by kernel_rfl) (by kernel_rfl) ?_
  refine WR.runk [0, 1, 2] [3, 4, 5, 6, 7, 8, 9, 10, 11, 12, 13, 14, 15] [0, 1, 11] (L' := [(0, .int .i64 a0), (1, .slice A1 l1.length c1), (11, .bool (decide (a0 < 1)))]) (w' := w0) (by kernel_rfl) ?_
  refine WR.split 11 (b := decide (a0 < 1)) (by kernel_rfl) (fun hb1 => ?_) (fun hb1 => ?_)
  · replace H := ite_t H hb1
    refine WR.runk [3, 4, 5, 6, 7, 8, 9, 10, 11, 12, 13, 14, 15] [] [0, 1, 24] (L' := [(0, .int .i64 a0), (1, .slice A1 l1.length c1), (24, .bool true)]) (w' := w0) (by kernel_rfl) ?_
    refine WR.nil ?_
    refine At.go ?_
    refine WC.condT (by kernel_rfl) (by kernel_rfl) (by kernel_rfl) ?_
    refine WC.seq (by kernel_rfl) ?_
    refine WC.reg [0, 1] (by kernel_rfl) (by kernel_rfl) ?_
    refine WR.runk [0, 1] [] [4, 5] (L' := [(4, .pointer none), (5, .int .i64 2)]) (w' := w0) (by kernel_rfl) ?_
    refine WR.nil ?_
    refine At.go ?_
    refine WC.ret (by kernel_rfl) ?_
    refine At.thenRet ?_
    obtain rfl := Option.some.inj H
    have hS := optP.nil (O := O46) hS
    have hS : Sat w0 (rf w0) [optP O46 (.pointer none) none] := hS.sel [0] (by kernel_rfl)
    exact At.body [.pointer none, .int .i64 2] (by kernel_rfl) ⟨_, rfl, _, rfl, hS⟩
  · replace H := ite_f H hb1
    refine WR.runk [3, 4, 5, 6] [7, 8, 9, 10, 11, 12, 13, 14, 15] [0, 1, 15] (L' := [(0, .int .i64 a0), (1, .slice A1 l1.length c1), (15, .bool (decide (a0 > 4096)))]) (w' := w0) (by kernel_rfl) ?_
    refine WR.split 15 (b := decide (a0 > 4096)) (by kernel_rfl) (fun hb2 => ?_) (fun hb2 => ?_)
    · replace H := ite_t H hb2
      refine WR.runk [7, 8, 9, 10, 11, 12, 13, 14, 15] [] [0, 1, 24] (L' := [(0, .int .i64 a0), (1, .slice A1 l1.length c1), (24, .bool true)]) (w' := w0) (by kernel_rfl) ?_
      refine WR.nil ?_
      refine At.go ?_
      refine WC.condT (by kernel_rfl) (by kernel_rfl) (by kernel_rfl) ?_
      refine WC.seq (by kernel_rfl) ?_
      refine WC.reg [0, 1] (by kernel_rfl) (by kernel_rfl) ?_
      refine WR.runk [0, 1] [] [4, 5] (L' := [(4, .pointer none), (5, .int .i64 2)]) (w' := w0) (by kernel_rfl) ?_
      refine WR.nil ?_
      refine At.go ?_
      refine WC.ret (by kernel_rfl) ?_
      refine At.thenRet ?_
      obtain rfl := Option.some.inj H
      have hS := optP.nil (O := O46) hS
      have hS : Sat w0 (rf w0) [optP O46 (.pointer none) none] := hS.sel [0] (by kernel_rfl)
      exact At.body [.pointer none, .int .i64 2] (by kernel_rfl) ⟨_, rfl, _, rfl, hS⟩
    · replace H := ite_f H hb2
      refine WR.runk [7, 8, 9, 10, 11] [12, 13, 14, 15] [0, 1, 20] (L' := [(0, .int .i64 a0), (1, .slice A1 l1.length c1), (20, .bool (decide ((l1.length : Int) < 1)))]) (w' := w0) (by kernel_rfl) ?_
      refine WR.split 20 (b := decide ((l1.length : Int) < 1)) (by kernel_rfl) (fun hb3 => ?_) (fun hb3 => ?_)
      · replace H := ite_t H hb3
        refine WR.runk [12, 13, 14, 15] [] [0, 1, 24] (L' := [(0, .int .i64 a0), (1, .slice A1 l1.length c1), (24, .bool true)]) (w' := w0) (by kernel_rfl) ?_
        refine WR.nil ?_
        refine At.go ?_
        refine WC.condT (by kernel_rfl) (by kernel_rfl) (by kernel_rfl) ?_
        refine WC.seq (by kernel_rfl) ?_
        refine WC.reg [0, 1] (by kernel_rfl) (by kernel_rfl) ?_
        refine WR.runk [0, 1] [] [4, 5] (L' := [(4, .pointer none), (5, .int .i64 2)]) (w' := w0) (by kernel_rfl) ?_
        refine WR.nil ?_
        refine At.go ?_
        refine WC.ret (by kernel_rfl) ?_
        refine At.thenRet ?_
        obtain rfl := Option.some.inj H
        have hS := optP.nil (O := O46) hS
        have hS : Sat w0 (rf w0) [optP O46 (.pointer none) none] := hS.sel [0] (by kernel_rfl)
        exact At.body [.pointer none, .int .i64 2] (by kernel_rfl) ⟨_, rfl, _, rfl, hS⟩
      · replace H := ite_f H hb3
        refine WR.runk [12, 13, 14, 15] [] [0, 1, 24] (L' := [(0, .int .i64 a0), (1, .slice A1 l1.length c1), (24, .bool (decide ((l1.length : Int) > 16)))]) (w' := w0) (by kernel_rfl) ?_
        refine WR.nil ?_
        refine At.go ?_
        refine WC.cond (by kernel_rfl) (decide ((l1.length : Int) > 16)) (by kernel_rfl) (by kernel_rfl) (fun hb4 => ?_) (fun hb4 => ?_)
        · replace H := ite_t H hb4
          refine WC.seq (by kernel_rfl) ?_
          refine WC.reg [0, 1] (by kernel_rfl) (by kernel_rfl) ?_
          refine WR.runk [0, 1] [] [4, 5] (L' := [(4, .pointer none), (5, .int .i64 2)]) (w' := w0) (by kernel_rfl) ?_
          refine WR.nil ?_
          refine At.go ?_
          refine WC.ret (by kernel_rfl) ?_
          refine At.thenRet ?_
          obtain rfl := Option.some.inj H
          have hS := optP.nil (O := O46) hS
          have hS : Sat w0 (rf w0) [optP O46 (.pointer none) none] := hS.sel [0] (by kernel_rfl)
          exact At.body [.pointer none, .int .i64 2] (by kernel_rfl) ⟨_, rfl, _, rfl, hS⟩
        · replace H := ite_f H hb4
          refine WC.skip (by kernel_rfl) ?_
          refine At.go ?_
          refine WC.seq (by kernel_rfl) ?_
          refine WC.reg [0, 1, 2, 3, 4, 5, 6] (by kernel_rfl) (by kernel_rfl) ?_
          refine WR.runk [0, 1, 2, 3, 4] [5, 6] [1, 29] (L' := [(1, .slice A1 l1.length c1), (29, .agg #[.int .i64 a0, .slice none 0 0, .int .i64 (wi ((l1.length : Int) - 1)), .bool false, .int .i64 0, .bool false])]) (w' := w0) (by kernel_rfl) ?_
          refine WR.st (St.box hS (by kernel_rfl) (.cells #[.int .i64 a0, .slice none 0 0, .int .i64 (wi ((l1.length : Int) - 1)), .bool false, .int .i64 0, .bool false] 46) (fun b5 => .pointer (some ⟨b5, 0, none⟩)) (fun _ => by kernel_rfl) (fun b5 w6 hS => ?_))
          refine WR.runk [6] [] [1, 6] (L' := [(1, .slice A1 l1.length c1), (6, .pointer (some ⟨b5, 0, none⟩))]) (w' := w6) (by kernel_rfl) ?_
          refine WR.nil ?_
          refine At.go ?_
          refine WC.seq (by kernel_rfl) ?_
          refine WC.seq (by kernel_rfl) ?_
          refine WC.reg [0, 1, 2] (by kernel_rfl) (by kernel_rfl) ?_
          refine WR.runk [0, 1, 2] [] [6, 31, 32, 33] (L' := [(6, .pointer (some ⟨b5, 0, none⟩)), (31, .slice A1 l1.length c1), (32, .int .i64 (l1.length : Int)), (33, .int .i64 0)]) (w' := w6) (by kernel_rfl) ?_
          refine WR.nil ?_
          refine At.go ?_
          refine WC.block (by kernel_rfl) ?_
          have hS := hS.addNilR (α := (Option (Int × Int × Int × (List (Int × Bool))))) 47 (Ept O50) 1
          have hS : Sat w6 (rf w0) [pts b5 (.cells #[.int .i64 a0, .slice none 0 0, .int .i64 (wi ((l1.length : Int) - 1)), .bool false, .int .i64 0, .bool false] 46 (0, 0)), orw 47 (Ept O50) 1 none 0 ([] : List (Option (Int × Int × Int × (List (Int × Bool)))))] := hS.sel [1, 0] (by kernel_rfl)
          have hS : Sat w6 (rf w0) [O46 b5 (a0, ([] : List (Option (Int × Int × Int × (List (Int × Bool))))), wi ((l1.length : Int) - 1), false, 0, false)] := O46.close (a0, ([] : List (Option (Int × Int × Int × (List (Int × Bool))))), wi ((l1.length : Int) - 1), false, 0, false) none 0 hS
          have hS : Sat w6 (rf w0) [O46 b5 (a0, ([] : List (Option (Int × Int × Int × (List (Int × Bool))))), wi ((l1.length : Int) - 1), false, 0, false)] := hS.sel [0] (by kernel_rfl)
          obtain ⟨o33, e34, H⟩ := bind_ex H
          refine WC.loop (by kernel_rfl) ?_
          refine WL.weaken [6, 31, 32, 33] (L' := [(6, .pointer (some ⟨b5, 0, none⟩)), (31, .slice A1 l1.length c1), (32, .int .i64 (l1.length : Int)), (33, .int .i64 0)]) (by kernel_rfl) ?_
          refine fair_New.l1_ok w0 A1 c1 l1 b5 R1 o33 (fun o35 w37 ho38 hS => ?_) (fun o39 w41 ho42 hS => ?_) FU 0 (a0, ([] : List (Option (Int × Int × Int × (List (Int × Bool))))), wi ((l1.length : Int) - 1), false, 0, false) _ hS e34
          · subst ho38
            dsimp only at H
            refine At.blockRet ?_
            refine At.thenRet ?_
            obtain rfl := Option.some.inj H
            have hS := optP.nil (O := O46) hS
            have hS : Sat w37 (rf w0) [optP O46 (.pointer none) none] := hS.sel [0] (by kernel_rfl)
            exact At.body [.pointer none, .int .i64 o35.1] (by kernel_rfl) ⟨_, rfl, _, rfl, hS⟩
          · subst ho42
            dsimp only at H
            refine At.hit ?_
            refine At.go ?_
            refine WC.seq (by kernel_rfl) ?_
            refine WC.reg [0, 1, 2] (by kernel_rfl) (by kernel_rfl) ?_
            refine WR.runk [0, 1, 2] [] [4, 5] (L' := [(4, .pointer (some ⟨b5, 0, none⟩)), (5, .int .i64 0)]) (w' := w41) (by kernel_rfl) ?_
            refine WR.nil ?_
            refine At.go ?_
            refine WC.ret (by kernel_rfl) ?_
            obtain rfl := Option.some.inj H
            have hS : Sat w41 (rf w0) [optP O46 (.pointer (some ⟨b5, 0, none⟩)) (some o39)] := optP.mk hS
            have hS : Sat w41 (rf w0) [optP O46 (.pointer (some ⟨b5, 0, none⟩)) (some o39)] := hS.sel [0] (by kernel_rfl)
            exact At.body [.pointer (some ⟨b5, 0, none⟩), .int .i64 0] (by kernel_rfl) ⟨_, rfl, _, rfl, hS⟩
/-! ### 9 (*colophon/fair.Ring).Add -/
def fair_Ring_Add.l2 (a2 : Int) (y20 : Int × Int × Int × (List (Int × Bool))) : Nat → Int → Option (Sum Int Unit)
  | 0, _ => none
  | k + 1, x8_l2 => (if decide (x8_l2 < (y20.2.2.2.length : Int)) then ((at? y20.2.2.2 x8_l2).bind fun v31 => (if (v31.1 == a2) then some (.inl x8_l2) else fair_Ring_Add.l2 a2 y20 k (wi (x8_l2 + 1)))) else some (.inr ()))
def fair_Ring_Add.l1 (p0 : Int × (List (Option (Int × Int × Int × (List (Int × Bool))))) × Int × Bool × Int × Bool) (a2 : Int) : Nat → Int → Option (Sum (Int × Int) Unit)
  | 0, _ => none
  | k + 1, x16_l1 => (if decide (x16_l1 < (p0.2.1.length : Int)) then ((at? p0.2.1 x16_l1).bind fun v13 => (v13.bind fun y20 => ((fair_Ring_Add.l2 a2 y20 FU 0).bind fun o37 => (match o37 with | .inl o39 => (if decide (o39 ≥ 0) then some (.inl (x16_l1, o39)) else fair_Ring_Add.l1 p0 a2 k (wi (x16_l1 + 1))) | .inr o44 => (if decide ((-1) ≥ 0) then some (.inl (x16_l1, (-1))) else fair_Ring_Add.l1 p0 a2 k (wi (x16_l1 + 1))))))) else some (.inr ()))
def fair_Ring_Add.l4 (a2 : Int) (y78 : Int × Int × Int × (List (Int × Bool))) : Nat → Int → Option (Sum Int Unit)
  | 0, _ => none
  | k + 1, x8_l4 => (if decide (x8_l4 < (y78.2.2.2.length : Int)) then ((at? y78.2.2.2 x8_l4).bind fun v89 => (if (v89.1 == a2) then some (.inl x8_l4) else fair_Ring_Add.l4 a2 y78 k (wi (x8_l4 + 1)))) else some (.inr ()))
def fair_Ring_Add.l3 (p0 : Int × (List (Option (Int × Int × Int × (List (Int × Bool))))) × Int × Bool × Int × Bool) (a2 : Int) : Nat → Int → Option (Sum (Int × Int) Unit)
  | 0, _ => none
  | k + 1, x16_l3 => (if decide (x16_l3 < (p0.2.1.length : Int)) then ((at? p0.2.1 x16_l3).bind fun v71 => (v71.bind fun y78 => ((fair_Ring_Add.l4 a2 y78 FU 0).bind fun o95 => (match o95 with | .inl o97 => (if decide (o97 ≥ 0) then some (.inl (x16_l3, o97)) else fair_Ring_Add.l3 p0 a2 k (wi (x16_l3 + 1))) | .inr o102 => (if decide ((-1) ≥ 0) then some (.inl (x16_l3, (-1))) else fair_Ring_Add.l3 p0 a2 k (wi (x16_l3 + 1))))))) else some (.inr ()))
def fair_Ring_Add.l6 (a2 : Int) (y138 : Int × Int × Int × (List (Int × Bool))) : Nat → Int → Option (Sum Int Unit)
  | 0, _ => none
  | k + 1, x8_l6 => (if decide (x8_l6 < (y138.2.2.2.length : Int)) then ((at? y138.2.2.2 x8_l6).bind fun v149 => (if (v149.1 == a2) then some (.inl x8_l6) else fair_Ring_Add.l6 a2 y138 k (wi (x8_l6 + 1)))) else some (.inr ()))
def fair_Ring_Add.l5 (p0 : Int × (List (Option (Int × Int × Int × (List (Int × Bool))))) × Int × Bool × Int × Bool) (a2 : Int) : Nat → Int → Option (Sum (Int × Int) Unit)
  | 0, _ => none
  | k + 1, x16_l5 => (if decide (x16_l5 < (p0.2.1.length : Int)) then ((at? p0.2.1 x16_l5).bind fun v131 => (v131.bind fun y138 => ((fair_Ring_Add.l6 a2 y138 FU 0).bind fun o155 => (match o155 with | .inl o157 => (if decide (o157 ≥ 0) then some (.inl (x16_l5, o157)) else fair_Ring_Add.l5 p0 a2 k (wi (x16_l5 + 1))) | .inr o162 => (if decide ((-1) ≥ 0) then some (.inl (x16_l5, (-1))) else fair_Ring_Add.l5 p0 a2 k (wi (x16_l5 + 1))))))) else some (.inr ()))
def fair_Ring_Add.f (p0 : Int × (List (Option (Int × Int × Int × (List (Int × Bool))))) × Int × Bool × Int × Bool) (a1 : Int) (a2 : Int) : Option (Bool × (Int × (List (Option (Int × Int × Int × (List (Int × Bool))))) × Int × Bool × Int × Bool)) := (if decide (a1 < 0) then ((fair_Ring_Add.l1 p0 a2 FU 0).bind fun o49 => (match o49 with | .inl o51 => some (false, p0) | .inr o55 => some (false, p0))) else (if decide (a1 ≥ (p0.2.1.length : Int)) then ((fair_Ring_Add.l3 p0 a2 FU 0).bind fun o107 => (match o107 with | .inl o109 => some (false, p0) | .inr o113 => some (false, p0))) else ((at? p0.2.1 a1).bind fun v122 => ((fair_Ring_Add.l5 p0 a2 FU 0).bind fun o167 => (match o167 with | .inl o169 => (match v122 with | none => some (false, p0) | some y175 => (if decide (o169.2 ≥ 0) then some (false, p0) else ((app? 8796093022208 y175.2.2.2 ([(a2, false)] : List (Int × Bool))).bind fun y192 => some (true, (p0.1, (List.set p0.2.1 a1.toNat (some (y175.1, y175.2.1, y175.2.2.1, y192))), p0.2.2.1, p0.2.2.2.1, p0.2.2.2.2.1, p0.2.2.2.2.2))))) | .inr o199 => (match v122 with | none => some (false, p0) | some y205 => (if decide ((-1) ≥ 0) then some (false, p0) else ((app? 8796093022208 y205.2.2.2 ([(a2, false)] : List (Int × Bool))).bind fun y222 => some (true, (p0.1, (List.set p0.2.1 a1.toNat (some (y205.1, y205.2.1, y205.2.2.1, y222))), p0.2.2.1, p0.2.2.2.1, p0.2.2.2.2.1, p0.2.2.2.2.2))))))))))
def fair_Ring_Add.post (B : Rf) (b0 : Nat) (p0 : Int × (List (Option (Int × Int × Int × (List (Int × Bool))))) × Int × Bool × Int × Bool) (w : World) (r : Bool × (Int × (List (Option (Int × Int × Int × (List (Int × Bool))))) × Int × Bool × Int × Bool)) (v : Value) (w' : World) : Prop := v = (.bool r.1 : Value) ∧ Sat w' B [O46 b0 r.2]
theorem fair_Ring_Add.l2_ok {Q} (B : Rf) (b0 : Nat) (p0 : Int × (List (Option (Int × Int × Int × (List (Int × Bool))))) × Int × Bool × Int × Bool) (a2 : Int) (b2 : Nat) (A5 : Option Addr) (c6 : Nat) (K7 : Heap) (y20 : Int × Int × Int × (List (Int × Bool))) (A26 : Option Addr) (c27 : Nat) (R28 : rdS (r0 (.pair (.int .i64) .bool)) 2 K7 A26 c27 y20.2.2.2) (out : Sum Int Unit) (hn0 : ∀ (o0 : Int) (w : World), out = (.inl o0) → Sat w B [pts b0 (.cells #[.int .i64 p0.1, .slice A5 p0.2.1.length c6, .int .i64 p0.2.2.1, .bool p0.2.2.2.1, .int .i64 p0.2.2.2.2.1, .bool p0.2.2.2.2.2] 46 (0, 0)), gh K7, pts b2 (.cells #[.int .i64 a2] 3 (0, 0))] → At Q .ret 19 [(4, .int .i64 o0)] w) (hn1 : ∀ (o1 : Unit) (w : World), out = (.inr o1) → Sat w B [pts b0 (.cells #[.int .i64 p0.1, .slice A5 p0.2.1.length c6, .int .i64 p0.2.2.1, .bool p0.2.2.2.1, .int .i64 p0.2.2.2.2.1, .bool p0.2.2.2.2.2] 46 (0, 0)), gh K7, pts b2 (.cells #[.int .i64 a2] 3 (0, 0))] → At Q (.exit 0) 19 [] w) :
    ∀ (k : Nat) (x8_l2 : Int) (w : World), Sat w B [gh K7, pts b0 (.cells #[.int .i64 p0.1, .slice A5 p0.2.1.length c6, .int .i64 p0.2.2.1, .bool p0.2.2.2.1, .int .i64 p0.2.2.2.2.1, .bool p0.2.2.2.2.2] 46 (0, 0)), pts b2 (.cells #[.int .i64 a2] 3 (0, 0))] → fair_Ring_Add.l2 a2 y20 k x8_l2 = some out → WL Try.prog (cbody (cbody (cr (cl (cr C22))))) Q 19 [(0, .slice A26 y20.2.2.2.length c27), (1, .func (.func 23) #[] #[.pointer (some ⟨b2, 0, none⟩)]), (7, .int .i64 (y20.2.2.2.length : Int)), (8, .int .i64 x8_l2)] w := by
  intro k
  induction k with
  | zero => intro x8_l2 w hS H; exact absurd (show none = some out from H) (by simp)
  | succ k ih =>
    intro x8_l2 w hS H
    unfold fair_Ring_Add.l2 at H
    refine WL.round ?_
    refine WC.seq (by kernel_rfl) ?_
    refine WC.reg [0] (by kernel_rfl) (by kernel_rfl) ?_
    refine WR.runk [0] [] [0, 1, 7, 8, 9] (L' := [(0, .slice A26 y20.2.2.2.length c27), (1, .func (.func 23) #[] #[.pointer (some ⟨b2, 0, none⟩)]), (7, .int .i64 (y20.2.2.2.length : Int)), (8, .int .i64 x8_l2), (9, .bool (decide (x8_l2 < (y20.2.2.2.length : Int))))]) (w' := w) (by kernel_rfl) ?_
    refine WR.nil ?_
    refine At.go ?_
    refine WC.seq (by kernel_rfl) ?_
    refine WC.cond (by kernel_rfl) (decide (x8_l2 < (y20.2.2.2.length : Int))) (by kernel_rfl) (by kernel_rfl) (fun hb30 => ?_) (fun hb30 => ?_)
    · replace H := ite_t H hb30
      refine WC.skip (by kernel_rfl) ?_
      refine At.go ?_
      refine WC.seq (by kernel_rfl) ?_
      refine WC.block (by kernel_rfl) ?_
      refine WC.seq (by kernel_rfl) ?_
      refine WC.reg [0, 1] (by kernel_rfl) (by kernel_rfl) ?_
      refine WR.runk [0, 1] [] [0, 1, 5, 7, 8] (L' := [(0, .slice A26 y20.2.2.2.length c27), (1, .func (.func 23) #[] #[.pointer (some ⟨b2, 0, none⟩)]), (5, .int .i64 x8_l2), (7, .int .i64 (y20.2.2.2.length : Int)), (8, .int .i64 x8_l2)]) (w' := w) (by kernel_rfl) ?_
      refine WR.nil ?_
      refine At.go ?_
      refine WC.seq (by kernel_rfl) ?_
      refine WC.reg [0, 1, 2, 3, 4, 5] (by kernel_rfl) (by kernel_rfl) ?_
      refine WR.runk [0, 1, 2] [3, 4, 5] [0, 1, 5, 7, 8, 11, 12, 13] (L' := [(0, .slice A26 y20.2.2.2.length c27), (1, .func (.func 23) #[] #[.pointer (some ⟨b2, 0, none⟩)]), (5, .int .i64 x8_l2), (7, .int .i64 (y20.2.2.2.length : Int)), (8, .int .i64 x8_l2), (11, .func (.func 23) #[] #[.pointer (some ⟨b2, 0, none⟩)]), (12, .slice A26 y20.2.2.2.length c27), (13, .int .i64 x8_l2)]) (w' := w) (by kernel_rfl) ?_
      obtain ⟨v31, e32, H⟩ := bind_ex H
      refine WR.st (St.ofP (PSt.idx (k := .i64) (.tmp 12) (.tmp 13) (by kernel_rfl) (by kernel_rfl) E48 (by kernel_rfl) (by kernel_rfl) (rdS.up R28 (Sat.ghAt 0 hS rfl)) e32 ?_))
      refine WR.runk [] [4, 5] [0, 1, 5, 7, 8, 11, 14] (L' := [(0, .slice A26 y20.2.2.2.length c27), (1, .func (.func 23) #[] #[.pointer (some ⟨b2, 0, none⟩)]), (5, .int .i64 x8_l2), (7, .int .i64 (y20.2.2.2.length : Int)), (8, .int .i64 x8_l2), (11, .func (.func 23) #[] #[.pointer (some ⟨b2, 0, none⟩)]), (14, .pointer (some (adr A26 x8_l2.toNat 2)))]) (w' := w) (by kernel_rfl) ?_
      refine WR.st (St.ofR (RSt.loadFlat (t := 55) (κ := (.pair (.int .i64) .bool)) (.tmp 14) (by kernel_rfl) (by kernel_rfl) (by kernel_rfl) (by kernel_rfl) (by kernel_rfl) (by kernel_rfl) (rdS.up R28 (Sat.ghAt 0 hS rfl)) e32 ?_))
      refine WR.runk [] [5] [0, 1, 5, 7, 8, 11, 15] (L' := [(0, .slice A26 y20.2.2.2.length c27), (1, .func (.func 23) #[] #[.pointer (some ⟨b2, 0, none⟩)]), (5, .int .i64 x8_l2), (7, .int .i64 (y20.2.2.2.length : Int)), (8, .int .i64 x8_l2), (11, .func (.func 23) #[] #[.pointer (some ⟨b2, 0, none⟩)]), (15, .agg #[.int .i64 v31.1, .bool v31.2])]) (w' := w) (by kernel_rfl) ?_
      refine WR.st (St.call (by kernel_rfl) (f := 23) (args := #[.agg #[.int .i64 v31.1, .bool v31.2], .pointer (some ⟨b2, 0, none⟩)]) (by kernel_rfl) (calls_of_WC (vs := [.agg #[.int .i64 v31.1, .bool v31.2], .pointer (some ⟨b2, 0, none⟩)]) Try.func23 (c := C23) (n := 8) (by kernel_rfl) (by kernel_rfl) (by kernel_rfl) ?_) (fun _ _ h => h))
      refine WC.seq (by kernel_rfl) ?_
      refine WC.reg [0, 1] (by kernel_rfl) (by kernel_rfl) ?_
      refine WR.runk [] [0, 1] [0, 1] (L' := [(0, .agg #[.int .i64 v31.1, .bool v31.2]), (1, .pointer (some ⟨b2, 0, none⟩))]) (w' := w) (by kernel_rfl) ?_
      refine WR.st (St.box hS (by kernel_rfl) (.cells #[.int .i64 v31.1, .bool v31.2] 55) (fun b33 => .pointer (some ⟨b33, 0, none⟩)) (fun _ => by kernel_rfl) (fun b33 w34 hS => ?_))
      refine WR.runk [1] [] [1, 2] (L' := [(1, .pointer (some ⟨b2, 0, none⟩)), (2, .pointer (some ⟨b33, 0, none⟩))]) (w' := w34) (by kernel_rfl) ?_
      refine WR.nil ?_
      refine At.go ?_
      refine WC.seq (by kernel_rfl) ?_
      refine WC.reg [0, 1, 2, 3, 4] (by kernel_rfl) (by kernel_rfl) ?_
      refine WR.runk [0] [1, 2, 3, 4] [1, 4] (L' := [(1, .pointer (some ⟨b2, 0, none⟩)), (4, .pointer (some ⟨b33, 0, none⟩))]) (w' := w34) (by kernel_rfl) ?_
      refine WR.st (St.ofR (RSt.loadObj (t := 3) (k := 0) (v := .int .i64 v31.1) (.tmp 4) (by kernel_rfl) (by kernel_rfl) (by kernel_rfl) 0 hS rfl (by kernel_rfl) rfl ?_))
      refine WR.runk [] [2, 3, 4] [1, 5] (L' := [(1, .pointer (some ⟨b2, 0, none⟩)), (5, .int .i64 v31.1)]) (w' := w34) (by kernel_rfl) ?_
      refine WR.st (St.ofR (RSt.loadObj (t := 3) (k := 0) (v := .int .i64 a2) (.tmp 1) (by kernel_rfl) (by kernel_rfl) (by kernel_rfl) 3 hS rfl (by kernel_rfl) rfl ?_))
      refine WR.runk [3, 4] [] [3] (L' := [(3, .bool (v31.1 == a2))]) (w' := w34) (by kernel_rfl) ?_
      refine WR.nil ?_
      refine At.go ?_
      refine WC.ret (by kernel_rfl) ?_
      refine At.bodyK [.bool (v31.1 == a2)] (.bool (v31.1 == a2)) (by kernel_rfl) rfl ?_
      refine WR.runk [] [] [0, 1, 5, 7, 8, 16] (L' := [(0, .slice A26 y20.2.2.2.length c27), (1, .func (.func 23) #[] #[.pointer (some ⟨b2, 0, none⟩)]), (5, .int .i64 x8_l2), (7, .int .i64 (y20.2.2.2.length : Int)), (8, .int .i64 x8_l2), (16, .bool (v31.1 == a2))]) (w' := w34) (by kernel_rfl) ?_
      refine WR.nil ?_
      refine At.go ?_
      refine WC.cond (by kernel_rfl) (v31.1 == a2) (by kernel_rfl) (by kernel_rfl) (fun hb36 => ?_) (fun hb36 => ?_)
      · replace H := ite_t H hb36
        refine WC.seq (by kernel_rfl) ?_
        refine WC.reg [0, 1] (by kernel_rfl) (by kernel_rfl) ?_
        refine WR.runk [0, 1] [] [4] (L' := [(4, .int .i64 x8_l2)]) (w' := w34) (by kernel_rfl) ?_
        refine WR.nil ?_
        refine At.go ?_
        refine WC.ret (by kernel_rfl) ?_
        refine At.blockRet ?_
        refine At.thenRet ?_
        refine At.thenRet ?_
        obtain rfl := Option.some.inj H
        have hS : Sat w34 B [pts b0 (.cells #[.int .i64 p0.1, .slice A5 p0.2.1.length c6, .int .i64 p0.2.2.1, .bool p0.2.2.2.1, .int .i64 p0.2.2.2.2.1, .bool p0.2.2.2.2.2] 46 (0, 0)), gh K7, pts b2 (.cells #[.int .i64 a2] 3 (0, 0))] := hS.sel [2, 1, 3] (by kernel_rfl)
        refine At.weaken [4] (L' := [(4, .int .i64 x8_l2)]) (by kernel_rfl) ?_
        exact hn0 x8_l2 _ rfl hS
      · replace H := ite_f H hb36
        refine WC.skip (by kernel_rfl) ?_
        refine At.blockNormal ?_
        refine At.go ?_
        refine WC.reg [0, 1] (by kernel_rfl) (by kernel_rfl) ?_
        refine WR.runk [0, 1] [] [0, 1, 7, 8] (L' := [(0, .slice A26 y20.2.2.2.length c27), (1, .func (.func 23) #[] #[.pointer (some ⟨b2, 0, none⟩)]), (7, .int .i64 (y20.2.2.2.length : Int)), (8, .int .i64 (wi (x8_l2 + 1)))]) (w' := w34) (by kernel_rfl) ?_
        refine WR.nil ?_
        have hS : Sat w34 B [gh K7, pts b0 (.cells #[.int .i64 p0.1, .slice A5 p0.2.1.length c6, .int .i64 p0.2.2.1, .bool p0.2.2.2.1, .int .i64 p0.2.2.2.2.1, .bool p0.2.2.2.2.2] 46 (0, 0)), pts b2 (.cells #[.int .i64 a2] 3 (0, 0))] := hS.sel [1, 2, 3] (by kernel_rfl)
        refine At.again ?_
        refine WL.weaken [0, 1, 7, 8] (L' := [(0, .slice A26 y20.2.2.2.length c27), (1, .func (.func 23) #[] #[.pointer (some ⟨b2, 0, none⟩)]), (7, .int .i64 (y20.2.2.2.length : Int)), (8, .int .i64 (wi (x8_l2 + 1)))]) (by kernel_rfl) ?_
        exact ih (wi (x8_l2 + 1)) _ hS H
    · replace H := ite_f H hb30
      refine WC.exit (by kernel_rfl) ?_
      refine At.thenExit ?_
      refine At.thenExit ?_
      obtain rfl := Option.some.inj H
      have hS : Sat w B [pts b0 (.cells #[.int .i64 p0.1, .slice A5 p0.2.1.length c6, .int .i64 p0.2.2.1, .bool p0.2.2.2.1, .int .i64 p0.2.2.2.2.1, .bool p0.2.2.2.2.2] 46 (0, 0)), gh K7, pts b2 (.cells #[.int .i64 a2] 3 (0, 0))] := hS.sel [1, 0, 2] (by kernel_rfl)
      refine At.weaken [] (L' := []) (by kernel_rfl) ?_
      exact hn1 () _ rfl hS
theorem fair_Ring_Add.l1_ok {Q} (B : Rf) (b0 : Nat) (p0 : Int × (List (Option (Int × Int × Int × (List (Int × Bool))))) × Int × Bool × Int × Bool) (a2 : Int) (b2 : Nat) (A5 : Option Addr) (c6 : Nat) (K7 : Heap) (css10 : List (List Value)) (R9 : rdS (rd K7 (.ptr 50 (.pair (.int .i64) (.pair (.int .i64) (.pair (.int .i64) (.slice 55 (.pair (.int .i64) .bool))))))) 1 K7 A5 c6 p0.2.1) (hC11 : orc 47 (Ept O50) 1 A5 c6 css10 p0.2.1 K7) (out : Sum (Int × Int) Unit) (hn0 : ∀ (o0 : Int × Int) (u4_q : Value) (w : World), out = (.inl o0) → Sat w B [gh K7, pts b2 (.cells #[.int .i64 a2] 3 (0, 0)), pts b0 (.cells #[.int .i64 p0.1, .slice A5 p0.2.1.length c6, .int .i64 p0.2.2.1, .bool p0.2.2.2.1, .int .i64 p0.2.2.2.2.1, .bool p0.2.2.2.2.2] 46 (0, 0))] → css10[(o0.1).toNat]? = some [u4_q] → At Q .ret 31 [(4, u4_q), (5, .int .i64 o0.2)] w) (hn1 : ∀ (o1 : Unit) (w : World), out = (.inr o1) → Sat w B [pts b2 (.cells #[.int .i64 a2] 3 (0, 0)), pts b0 (.cells #[.int .i64 p0.1, .slice A5 p0.2.1.length c6, .int .i64 p0.2.2.1, .bool p0.2.2.2.1, .int .i64 p0.2.2.2.2.1, .bool p0.2.2.2.2.2] 46 (0, 0)), gh K7] → At Q (.exit 0) 31 [] w) :
    ∀ (k : Nat) (x16_l1 : Int) (w : World), Sat w B [gh K7, pts b2 (.cells #[.int .i64 a2] 3 (0, 0)), pts b0 (.cells #[.int .i64 p0.1, .slice A5 p0.2.1.length c6, .int .i64 p0.2.2.1, .bool p0.2.2.2.1, .int .i64 p0.2.2.2.2.1, .bool p0.2.2.2.2.2] 46 (0, 0))] → fair_Ring_Add.l1 p0 a2 k x16_l1 = some out → WL Try.prog (cbody (cbody (cr (cl (cr (cr C17)))))) Q 31 [(3, .pointer (some ⟨b2, 0, none⟩)), (14, .slice A5 p0.2.1.length c6), (15, .int .i64 (p0.2.1.length : Int)), (16, .int .i64 x16_l1)] w := by
  intro k
  induction k with
  | zero => intro x16_l1 w hS H; exact absurd (show none = some out from H) (by simp)
  | succ k ih =>
    intro x16_l1 w hS H
    unfold fair_Ring_Add.l1 at H
    refine WL.round ?_
    refine WC.seq (by kernel_rfl) ?_
    refine WC.reg [0] (by kernel_rfl) (by kernel_rfl) ?_
    refine WR.runk [0] [] [3, 14, 15, 16, 17] (L' := [(3, .pointer (some ⟨b2, 0, none⟩)), (14, .slice A5 p0.2.1.length c6), (15, .int .i64 (p0.2.1.length : Int)), (16, .int .i64 x16_l1), (17, .bool (decide (x16_l1 < (p0.2.1.length : Int))))]) (w' := w) (by kernel_rfl) ?_
    refine WR.nil ?_
    refine At.go ?_
    refine WC.seq (by kernel_rfl) ?_
    refine WC.cond (by kernel_rfl) (decide (x16_l1 < (p0.2.1.length : Int))) (by kernel_rfl) (by kernel_rfl) (fun hb12 => ?_) (fun hb12 => ?_)
    · replace H := ite_t H hb12
      refine WC.skip (by kernel_rfl) ?_
      refine At.go ?_
      refine WC.seq (by kernel_rfl) ?_
      refine WC.block (by kernel_rfl) ?_
      refine WC.seq (by kernel_rfl) ?_
      refine WC.reg [0, 1, 2] (by kernel_rfl) (by kernel_rfl) ?_
      refine WR.runk [] [0, 1, 2] [3, 14, 15, 16] (L' := [(3, .pointer (some ⟨b2, 0, none⟩)), (14, .slice A5 p0.2.1.length c6), (15, .int .i64 (p0.2.1.length : Int)), (16, .int .i64 x16_l1)]) (w' := w) (by kernel_rfl) ?_
      obtain ⟨v13, e14, H⟩ := bind_ex H
      refine WR.st (St.ofP (PSt.idx (k := .i64) (.tmp 14) (.tmp 16) (by kernel_rfl) (by kernel_rfl) E44 (by kernel_rfl) (by kernel_rfl) (rdS.upd R9 (Sat.ghAt 0 hS rfl)) e14 ?_))
      refine WR.runk [] [1, 2] [3, 14, 15, 16, 18] (L' := [(3, .pointer (some ⟨b2, 0, none⟩)), (14, .slice A5 p0.2.1.length c6), (15, .int .i64 (p0.2.1.length : Int)), (16, .int .i64 x16_l1), (18, .pointer (some (adr A5 x16_l1.toNat 1)))]) (w' := w) (by kernel_rfl) ?_
      refine WR.st (St.ofR (RSt.loadRow (t := 47) (κ := (.ptr 50 (.pair (.int .i64) (.pair (.int .i64) (.pair (.int .i64) (.slice 55 (.pair (.int .i64) .bool))))))) (Ept.rd (t := 50) (κ := (.pair (.int .i64) (.pair (.int .i64) (.pair (.int .i64) (.slice 55 (.pair (.int .i64) .bool)))))) (O := O50) O50.rd) (.tmp 18) (by kernel_rfl) (by kernel_rfl) (by kernel_rfl) (by kernel_rfl) hC11 e14 (Sat.ghAt 0 hS rfl) (fun u15 C16 R17 => ?_)))
      replace R17 : rd K7 (.ptr 50 (.pair (.int .i64) (.pair (.int .i64) (.pair (.int .i64) (.slice 55 (.pair (.int .i64) .bool)))))) [u15] v13 := R17
      replace C16 : css10[x16_l1.toNat]? = some [u15] := C16
      refine WR.runk [2] [] [3, 7, 14, 15, 16] (L' := [(3, .pointer (some ⟨b2, 0, none⟩)), (7, u15), (14, .slice A5 p0.2.1.length c6), (15, .int .i64 (p0.2.1.length : Int)), (16, .int .i64 x16_l1)]) (w' := w) (by kernel_rfl) ?_
      refine WR.nil ?_
      refine At.go ?_
      refine WC.seq (by kernel_rfl) ?_
      refine WC.reg [0, 1, 2, 3, 4, 5, 6] (by kernel_rfl) (by kernel_rfl) ?_
      refine WR.runk [0] [1, 2, 3, 4, 5, 6] [3, 7, 14, 15, 16, 20] (L' := [(3, .pointer (some ⟨b2, 0, none⟩)), (7, u15), (14, .slice A5 p0.2.1.length c6), (15, .int .i64 (p0.2.1.length : Int)), (16, .int .i64 x16_l1), (20, u15)]) (w' := w) (by kernel_rfl) ?_
      obtain ⟨y20, hr18, H⟩ := bind_ex H
      obtain ⟨b21, fr22, A26, c27, hv23, hb24, R28⟩ := P50.open R17 hr18
      have R25 := R17
      rw [hv23, hr18] at R25
      have C29 : css10[x16_l1.toNat]? = some [.pointer (some ⟨b21, 0, none⟩)] := by rw [← hv23]; exact C16
      try subst hv23
      replace R28 : rdS (r0 (.pair (.int .i64) .bool)) 2 K7 A26 c27 y20.2.2.2 := R28
      refine WR.runk [1, 2] [3, 4, 5, 6] [3, 7, 14, 15, 16, 22] (L' := [(3, .pointer (some ⟨b2, 0, none⟩)), (7, .pointer (some ⟨b21, 0, none⟩)), (14, .slice A5 p0.2.1.length c6), (15, .int .i64 (p0.2.1.length : Int)), (16, .int .i64 x16_l1), (22, .pointer (some ⟨b21, 3, none⟩))]) (w' := w) (by kernel_rfl) ?_
      refine WR.st (St.ofR (RSt.loadRo (t := 48) (k := 3) (v := .slice A26 y20.2.2.2.length c27) (.tmp 22) (by kernel_rfl) (by kernel_rfl) (by kernel_rfl) (Sat.ghAt 0 hS rfl) hb24 (by kernel_rfl) rfl ?_))
      refine WR.runk [4] [5, 6] [3, 7, 14, 15, 16, 23, 24] (L' := [(3, .pointer (some ⟨b2, 0, none⟩)), (7, .pointer (some ⟨b21, 0, none⟩)), (14, .slice A5 p0.2.1.length c6), (15, .int .i64 (p0.2.1.length : Int)), (16, .int .i64 x16_l1), (23, .slice A26 y20.2.2.2.length c27), (24, .func (.func 23) #[] #[.pointer (some ⟨b2, 0, none⟩)])]) (w' := w) (by kernel_rfl) ?_
      refine WR.st (St.call (by kernel_rfl) (f := 22) (args := #[.slice A26 y20.2.2.2.length c27, .func (.func 23) #[] #[.pointer (some ⟨b2, 0, none⟩)]]) (by kernel_rfl) (calls_of_WC (vs := [.slice A26 y20.2.2.2.length c27, .func (.func 23) #[] #[.pointer (some ⟨b2, 0, none⟩)]]) Try.func22 (c := C22) (n := 19) (by kernel_rfl) (by kernel_rfl) (by kernel_rfl) ?_) (fun _ _ h => h))
      refine WC.seq (by kernel_rfl) ?_
      refine WC.reg [0] (by kernel_rfl) (by kernel_rfl) ?_
      refine WR.runk [0] [] [0, 1] (L' := [(0, .slice A26 y20.2.2.2.length c27), (1, .func (.func 23) #[] #[.pointer (some ⟨b2, 0, none⟩)])]) (w' := w) (by kernel_rfl) ?_
      refine WR.nil ?_
      refine At.go ?_
      refine WC.seq (by kernel_rfl) ?_
      refine WC.seq (by kernel_rfl) ?_
      refine WC.reg [0, 1, 2] (by kernel_rfl) (by kernel_rfl) ?_
      refine WR.runk [0, 1, 2] [] [0, 1, 7, 8] (L' := [(0, .slice A26 y20.2.2.2.length c27), (1, .func (.func 23) #[] #[.pointer (some ⟨b2, 0, none⟩)]), (7, .int .i64 (y20.2.2.2.length : Int)), (8, .int .i64 0)]) (w' := w) (by kernel_rfl) ?_
      refine WR.nil ?_
      refine At.go ?_
      refine WC.block (by kernel_rfl) ?_
      have hS : Sat w B [gh K7, pts b0 (.cells #[.int .i64 p0.1, .slice A5 p0.2.1.length c6, .int .i64 p0.2.2.1, .bool p0.2.2.2.1, .int .i64 p0.2.2.2.2.1, .bool p0.2.2.2.2.2] 46 (0, 0)), pts b2 (.cells #[.int .i64 a2] 3 (0, 0))] := hS.sel [0, 2, 1] (by kernel_rfl)
      obtain ⟨o37, e38, H⟩ := bind_ex H
      refine WC.loop (by kernel_rfl) ?_
      refine WL.weaken [0, 1, 7, 8] (L' := [(0, .slice A26 y20.2.2.2.length c27), (1, .func (.func 23) #[] #[.pointer (some ⟨b2, 0, none⟩)]), (7, .int .i64 (y20.2.2.2.length : Int)), (8, .int .i64 0)]) (by kernel_rfl) ?_
      refine fair_Ring_Add.l2_ok B b0 p0 a2 b2 A5 c6 K7 y20 A26 c27 R28 o37 (fun o39 w41 ho42 hS => ?_) (fun o44 w46 ho47 hS => ?_) FU 0 _ hS e38
      · subst ho42
        dsimp only at H
        refine At.blockRet ?_
        refine At.thenRet ?_
        refine At.bodyK [.int .i64 o39] (.int .i64 o39) (by kernel_rfl) rfl ?_
        refine WR.runk [6] [] [3, 7, 8, 14, 15, 16] (L' := [(3, .pointer (some ⟨b2, 0, none⟩)), (7, .pointer (some ⟨b21, 0, none⟩)), (8, .int .i64 o39), (14, .slice A5 p0.2.1.length c6), (15, .int .i64 (p0.2.1.length : Int)), (16, .int .i64 x16_l1)]) (w' := w41) (by kernel_rfl) ?_
        refine WR.nil ?_
        refine At.go ?_
        refine WC.seq (by kernel_rfl) ?_
        refine WC.reg [0, 1] (by kernel_rfl) (by kernel_rfl) ?_
        refine WR.runk [0, 1] [] [3, 7, 8, 14, 15, 16, 27] (L' := [(3, .pointer (some ⟨b2, 0, none⟩)), (7, .pointer (some ⟨b21, 0, none⟩)), (8, .int .i64 o39), (14, .slice A5 p0.2.1.length c6), (15, .int .i64 (p0.2.1.length : Int)), (16, .int .i64 x16_l1), (27, .bool (decide (o39 ≥ 0)))]) (w' := w41) (by kernel_rfl) ?_
        refine WR.nil ?_
        refine At.go ?_
        refine WC.cond (by kernel_rfl) (decide (o39 ≥ 0)) (by kernel_rfl) (by kernel_rfl) (fun hb43 => ?_) (fun hb43 => ?_)
        · replace H := ite_t H hb43
          refine WC.seq (by kernel_rfl) ?_
          refine WC.reg [0, 1, 2, 3] (by kernel_rfl) (by kernel_rfl) ?_
          refine WR.runk [0, 1, 2, 3] [] [4, 5] (L' := [(4, .pointer (some ⟨b21, 0, none⟩)), (5, .int .i64 o39)]) (w' := w41) (by kernel_rfl) ?_
          refine WR.nil ?_
          refine At.go ?_
          refine WC.ret (by kernel_rfl) ?_
          refine At.blockRet ?_
          refine At.thenRet ?_
          refine At.thenRet ?_
          obtain rfl := Option.some.inj H
          have hS : Sat w41 B [gh K7, pts b2 (.cells #[.int .i64 a2] 3 (0, 0)), pts b0 (.cells #[.int .i64 p0.1, .slice A5 p0.2.1.length c6, .int .i64 p0.2.2.1, .bool p0.2.2.2.1, .int .i64 p0.2.2.2.2.1, .bool p0.2.2.2.2.2] 46 (0, 0))] := hS.sel [1, 2, 0] (by kernel_rfl)
          refine At.weaken [4, 5] (L' := [(4, .pointer (some ⟨b21, 0, none⟩)), (5, .int .i64 o39)]) (by kernel_rfl) ?_
          exact hn0 (x16_l1, o39) (.pointer (some ⟨b21, 0, none⟩)) _ rfl hS C29
        · replace H := ite_f H hb43
          refine WC.skip (by kernel_rfl) ?_
          refine At.blockNormal ?_
          refine At.go ?_
          refine WC.reg [0, 1] (by kernel_rfl) (by kernel_rfl) ?_
          refine WR.runk [0, 1] [] [3, 14, 15, 16] (L' := [(3, .pointer (some ⟨b2, 0, none⟩)), (14, .slice A5 p0.2.1.length c6), (15, .int .i64 (p0.2.1.length : Int)), (16, .int .i64 (wi (x16_l1 + 1)))]) (w' := w41) (by kernel_rfl) ?_
          refine WR.nil ?_
          have hS : Sat w41 B [gh K7, pts b2 (.cells #[.int .i64 a2] 3 (0, 0)), pts b0 (.cells #[.int .i64 p0.1, .slice A5 p0.2.1.length c6, .int .i64 p0.2.2.1, .bool p0.2.2.2.1, .int .i64 p0.2.2.2.2.1, .bool p0.2.2.2.2.2] 46 (0, 0))] := hS.sel [1, 2, 0] (by kernel_rfl)
          refine At.again ?_
          refine WL.weaken [3, 14, 15, 16] (L' := [(3, .pointer (some ⟨b2, 0, none⟩)), (14, .slice A5 p0.2.1.length c6), (15, .int .i64 (p0.2.1.length : Int)), (16, .int .i64 (wi (x16_l1 + 1)))]) (by kernel_rfl) ?_
          exact ih (wi (x16_l1 + 1)) _ hS H
      · subst ho47
        dsimp only at H
        refine At.hit ?_
        refine At.go ?_
        refine WC.seq (by kernel_rfl) ?_
        refine WC.reg [0] (by kernel_rfl) (by kernel_rfl) ?_
        refine WR.runk [0] [] [4] (L' := [(4, .int .i64 (-1))]) (w' := w46) (by kernel_rfl) ?_
        refine WR.nil ?_
        refine At.go ?_
        refine WC.ret (by kernel_rfl) ?_
        refine At.bodyK [.int .i64 (-1)] (.int .i64 (-1)) (by kernel_rfl) rfl ?_
        refine WR.runk [6] [] [3, 7, 8, 14, 15, 16] (L' := [(3, .pointer (some ⟨b2, 0, none⟩)), (7, .pointer (some ⟨b21, 0, none⟩)), (8, .int .i64 (-1)), (14, .slice A5 p0.2.1.length c6), (15, .int .i64 (p0.2.1.length : Int)), (16, .int .i64 x16_l1)]) (w' := w46) (by kernel_rfl) ?_
        refine WR.nil ?_
        refine At.go ?_
        refine WC.seq (by kernel_rfl) ?_
        refine WC.reg [0, 1] (by kernel_rfl) (by kernel_rfl) ?_
        refine WR.runk [0, 1] [] [3, 7, 8, 14, 15, 16, 27] (L' := [(3, .pointer (some ⟨b2, 0, none⟩)), (7, .pointer (some ⟨b21, 0, none⟩)), (8, .int .i64 (-1)), (14, .slice A5 p0.2.1.length c6), (15, .int .i64 (p0.2.1.length : Int)), (16, .int .i64 x16_l1), (27, .bool (decide ((-1) ≥ 0)))]) (w' := w46) (by kernel_rfl) ?_
        refine WR.nil ?_
        refine At.go ?_
        refine WC.cond (by kernel_rfl) (decide ((-1) ≥ 0)) (by kernel_rfl) (by kernel_rfl) (fun hb48 => ?_) (fun hb48 => ?_)
        · replace H := ite_t H hb48
          refine WC.seq (by kernel_rfl) ?_
          refine WC.reg [0, 1, 2, 3] (by kernel_rfl) (by kernel_rfl) ?_
          refine WR.runk [0, 1, 2, 3] [] [4, 5] (L' := [(4, .pointer (some ⟨b21, 0, none⟩)), (5, .int .i64 (-1))]) (w' := w46) (by kernel_rfl) ?_
          refine WR.nil ?_
          refine At.go ?_
          refine WC.ret (by kernel_rfl) ?_
          refine At.blockRet ?_
          refine At.thenRet ?_
          refine At.thenRet ?_
          obtain rfl := Option.some.inj H
          have hS : Sat w46 B [gh K7, pts b2 (.cells #[.int .i64 a2] 3 (0, 0)), pts b0 (.cells #[.int .i64 p0.1, .slice A5 p0.2.1.length c6, .int .i64 p0.2.2.1, .bool p0.2.2.2.1, .int .i64 p0.2.2.2.2.1, .bool p0.2.2.2.2.2] 46 (0, 0))] := hS.sel [1, 2, 0] (by kernel_rfl)
          refine At.weaken [4, 5] (L' := [(4, .pointer (some ⟨b21, 0, none⟩)), (5, .int .i64 (-1))]) (by kernel_rfl) ?_
          exact hn0 (x16_l1, (-1)) (.pointer (some ⟨b21, 0, none⟩)) _ rfl hS C29
        · replace H := ite_f H hb48
          refine WC.skip (by kernel_rfl) ?_
          refine At.blockNormal ?_
          refine At.go ?_
          refine WC.reg [0, 1] (by kernel_rfl) (by kernel_rfl) ?_
          refine WR.runk [0, 1] [] [3, 14, 15, 16] (L' := [(3, .pointer (some ⟨b2, 0, none⟩)), (14, .slice A5 p0.2.1.length c6), (15, .int .i64 (p0.2.1.length : Int)), (16, .int .i64 (wi (x16_l1 + 1)))]) (w' := w46) (by kernel_rfl) ?_
          refine WR.nil ?_
          have hS : Sat w46 B [gh K7, pts b2 (.cells #[.int .i64 a2] 3 (0, 0)), pts b0 (.cells #[.int .i64 p0.1, .slice A5 p0.2.1.length c6, .int .i64 p0.2.2.1, .bool p0.2.2.2.1, .int .i64 p0.2.2.2.2.1, .bool p0.2.2.2.2.2] 46 (0, 0))] := hS.sel [1, 2, 0] (by kernel_rfl)
          refine At.again ?_
          refine WL.weaken [3, 14, 15, 16] (L' := [(3, .pointer (some ⟨b2, 0, none⟩)), (14, .slice A5 p0.2.1.length c6), (15, .int .i64 (p0.2.1.length : Int)), (16, .int .i64 (wi (x16_l1 + 1)))]) (by kernel_rfl) ?_
          exact ih (wi (x16_l1 + 1)) _ hS H
    · replace H := ite_f H hb12
      refine WC.exit (by kernel_rfl) ?_
      refine At.thenExit ?_
      refine At.thenExit ?_
      obtain rfl := Option.some.inj H
      have hS : Sat w B [pts b2 (.cells #[.int .i64 a2] 3 (0, 0)), pts b0 (.cells #[.int .i64 p0.1, .slice A5 p0.2.1.length c6, .int .i64 p0.2.2.1, .bool p0.2.2.2.1, .int .i64 p0.2.2.2.2.1, .bool p0.2.2.2.2.2] 46 (0, 0)), gh K7] := hS.sel [1, 2, 0] (by kernel_rfl)
      refine At.weaken [] (L' := []) (by kernel_rfl) ?_
      exact hn1 () _ rfl hS
theorem fair_Ring_Add.l4_ok {Q} (B : Rf) (b0 : Nat) (p0 : Int × (List (Option (Int × Int × Int × (List (Int × Bool))))) × Int × Bool × Int × Bool) (a2 : Int) (A59 : Option Addr) (c60 : Nat) (b62 : Nat) (K65 : Heap) (y78 : Int × Int × Int × (List (Int × Bool))) (A84 : Option Addr) (c85 : Nat) (R86 : rdS (r0 (.pair (.int .i64) .bool)) 2 K65 A84 c85 y78.2.2.2) (out : Sum Int Unit) (hn0 : ∀ (o0 : Int) (w : World), out = (.inl o0) → Sat w B [pts b0 (.cells #[.int .i64 p0.1, .slice A59 p0.2.1.length c60, .int .i64 p0.2.2.1, .bool p0.2.2.2.1, .int .i64 p0.2.2.2.2.1, .bool p0.2.2.2.2.2] 46 (0, 0)), gh K65, pts b62 (.cells #[.int .i64 a2] 3 (0, 0))] → At Q .ret 19 [(4, .int .i64 o0)] w) (hn1 : ∀ (o1 : Unit) (w : World), out = (.inr o1) → Sat w B [pts b0 (.cells #[.int .i64 p0.1, .slice A59 p0.2.1.length c60, .int .i64 p0.2.2.1, .bool p0.2.2.2.1, .int .i64 p0.2.2.2.2.1, .bool p0.2.2.2.2.2] 46 (0, 0)), gh K65, pts b62 (.cells #[.int .i64 a2] 3 (0, 0))] → At Q (.exit 0) 19 [] w) :
    ∀ (k : Nat) (x8_l4 : Int) (w : World), Sat w B [gh K65, pts b0 (.cells #[.int .i64 p0.1, .slice A59 p0.2.1.length c60, .int .i64 p0.2.2.1, .bool p0.2.2.2.1, .int .i64 p0.2.2.2.2.1, .bool p0.2.2.2.2.2] 46 (0, 0)), pts b62 (.cells #[.int .i64 a2] 3 (0, 0))] → fair_Ring_Add.l4 a2 y78 k x8_l4 = some out → WL Try.prog (cbody (cbody (cr (cl (cr C22))))) Q 19 [(0, .slice A84 y78.2.2.2.length c85), (1, .func (.func 23) #[] #[.pointer (some ⟨b62, 0, none⟩)]), (7, .int .i64 (y78.2.2.2.length : Int)), (8, .int .i64 x8_l4)] w := by
  intro k
  induction k with
  | zero => intro x8_l4 w hS H; exact absurd (show none = some out from H) (by simp)
  | succ k ih =>
    intro x8_l4 w hS H
    unfold fair_Ring_Add.l4 at H
    refine WL.round ?_
    refine WC.seq (by kernel_rfl) ?_
    refine WC.reg [0] (by kernel_rfl) (by kernel_rfl) ?_
    refine WR.runk [0] [] [0, 1, 7, 8, 9] (L' := [(0, .slice A84 y78.2.2.2.length c85), (1, .func (.func 23) #[] #[.pointer (some ⟨b62, 0, none⟩)]), (7, .int .i64 (y78.2.2.2.length : Int)), (8, .int .i64 x8_l4), (9, .bool (decide (x8_l4 < (y78.2.2.2.length : Int))))]) (w' := w) (by kernel_rfl) ?_
    refine WR.nil ?_
    refine At.go ?_
    refine WC.seq (by kernel_rfl) ?_
    refine WC.cond (by kernel_rfl) (decide (x8_l4 < (y78.2.2.2.length : Int))) (by kernel_rfl) (by kernel_rfl) (fun hb88 => ?_) (fun hb88 => ?_)
    · replace H := ite_t H hb88
      refine WC.skip (by kernel_rfl) ?_
      refine At.go ?_
      refine WC.seq (by kernel_rfl) ?_
      refine WC.block (by kernel_rfl) ?_
      refine WC.seq (by kernel_rfl) ?_
      refine WC.reg [0, 1] (by kernel_rfl) (by kernel_rfl) ?_
      refine WR.runk [0, 1] [] [0, 1, 5, 7, 8] (L' := [(0, .slice A84 y78.2.2.2.length c85), (1, .func (.func 23) #[] #[.pointer (some ⟨b62, 0, none⟩)]), (5, .int .i64 x8_l4), (7, .int .i64 (y78.2.2.2.length : Int)), (8, .int .i64 x8_l4)]) (w' := w) (by kernel_rfl) ?_
      refine WR.nil ?_
      refine At.go ?_
      refine WC.seq (by kernel_rfl) ?_
      refine WC.reg [0, 1, 2, 3, 4, 5] (by kernel_rfl) (by kernel_rfl) ?_
      refine WR.runk [0, 1, 2] [3, 4, 5] [0, 1, 5, 7, 8, 11, 12, 13] (L' := [(0, .slice A84 y78.2.2.2.length c85), (1, .func (.func 23) #[] #[.pointer (some ⟨b62, 0, none⟩)]), (5, .int .i64 x8_l4), (7, .int .i64 (y78.2.2.2.length : Int)), (8, .int .i64 x8_l4), (11, .func (.func 23) #[] #[.pointer (some ⟨b62, 0, none⟩)]), (12, .slice A84 y78.2.2.2.length c85), (13, .int .i64 x8_l4)]) (w' := w) (by kernel_rfl) ?_
      obtain ⟨v89, e90, H⟩ := bind_ex H
      refine WR.st (St.ofP (PSt.idx (k := .i64) (.tmp 12) (.tmp 13) (by kernel_rfl) (by kernel_rfl) E48 (by kernel_rfl) (by kernel_rfl) (rdS.up R86 (Sat.ghAt 0 hS rfl)) e90 ?_))
      refine WR.runk [] [4, 5] [0, 1, 5, 7, 8, 11, 14] (L' := [(0, .slice A84 y78.2.2.2.length c85), (1, .func (.func 23) #[] #[.pointer (some ⟨b62, 0, none⟩)]), (5, .int .i64 x8_l4), (7, .int .i64 (y78.2.2.2.length : Int)), (8, .int .i64 x8_l4), (11, .func (.func 23) #[] #[.pointer (some ⟨b62, 0, none⟩)]), (14, .pointer (some (adr A84 x8_l4.toNat 2)))]) (w' := w) (by kernel_rfl) ?_
      refine WR.st (St.ofR (RSt.loadFlat (t := 55) (κ := (.pair (.int .i64) .bool)) (.tmp 14) (by kernel_rfl) (by kernel_rfl) (by kernel_rfl) (by kernel_rfl) (by kernel_rfl) (by kernel_rfl) (rdS.up R86 (Sat.ghAt 0 hS rfl)) e90 ?_))
      refine WR.runk [] [5] [0, 1, 5, 7, 8, 11, 15] (L' := [(0, .slice A84 y78.2.2.2.length c85), (1, .func (.func 23) #[] #[.pointer (some ⟨b62, 0, none⟩)]), (5, .int .i64 x8_l4), (7, .int .i64 (y78.2.2.2.length : Int)), (8, .int .i64 x8_l4), (11, .func (.func 23) #[] #[.pointer (some ⟨b62, 0, none⟩)]), (15, .agg #[.int .i64 v89.1, .bool v89.2])]) (w' := w) (by kernel_rfl) ?_
      refine WR.st (St.call (by kernel_rfl) (f := 23) (args := #[.agg #[.int .i64 v89.1, .bool v89.2], .pointer (some ⟨b62, 0, none⟩)]) (by kernel_rfl) (calls_of_WC (vs := [.agg #[.int .i64 v89.1, .bool v89.2], .pointer (some ⟨b62, 0, none⟩)]) Try.func23 (c := C23) (n := 8) (by kernel_rfl) (by kernel_rfl) (by kernel_rfl) ?_) (fun _ _ h => h))
      refine WC.seq (by kernel_rfl) ?_
      refine WC.reg [0, 1] (by kernel_rfl) (by kernel_rfl) ?_
      refine WR.runk [] [0, 1] [0, 1] (L' := [(0, .agg #[.int .i64 v89.1, .bool v89.2]), (1, .pointer (some ⟨b62, 0, none⟩))]) (w' := w) (by kernel_rfl) ?_
      refine WR.st (St.box hS (by kernel_rfl) (.cells #[.int .i64 v89.1, .bool v89.2] 55) (fun b91 => .pointer (some ⟨b91, 0, none⟩)) (fun _ => by kernel_rfl) (fun b91 w92 hS => ?_))
      refine WR.runk [1] [] [1, 2] (L' := [(1, .pointer (some ⟨b62, 0, none⟩)), (2, .pointer (some ⟨b91, 0, none⟩))]) (w' := w92) (by kernel_rfl) ?_
      refine WR.nil ?_
      refine At.go ?_
      refine WC.seq (by kernel_rfl) ?_
      refine WC.reg [0, 1, 2, 3, 4] (by kernel_rfl) (by kernel_rfl) ?_
      refine WR.runk [0] [1, 2, 3, 4] [1, 4] (L' := [(1, .pointer (some ⟨b62, 0, none⟩)), (4, .pointer (some ⟨b91, 0, none⟩))]) (w' := w92) (by kernel_rfl) ?_
      refine WR.st (St.ofR (RSt.loadObj (t := 3) (k := 0) (v := .int .i64 v89.1) (.tmp 4) (by kernel_rfl) (by kernel_rfl) (by kernel_rfl) 0 hS rfl (by kernel_rfl) rfl ?_))
      refine WR.runk [] [2, 3, 4] [1, 5] (L' := [(1, .pointer (some ⟨b62, 0, none⟩)), (5, .int .i64 v89.1)]) (w' := w92) (by kernel_rfl) ?_
      refine WR.st (St.ofR (RSt.loadObj (t := 3) (k := 0) (v := .int .i64 a2) (.tmp 1) (by kernel_rfl) (by kernel_rfl) (by kernel_rfl) 3 hS rfl (by kernel_rfl) rfl ?_))
      refine WR.runk [3, 4] [] [3] (L' := [(3, .bool (v89.1 == a2))]) (w' := w92) (by kernel_rfl) ?_
      refine WR.nil ?_
      refine At.go ?_
      refine WC.ret (by kernel_rfl) ?_
      refine At.bodyK [.bool (v89.1 == a2)] (.bool (v89.1 == a2)) (by kernel_rfl) rfl ?_
      refine WR.runk [] [] [0, 1, 5, 7, 8, 16] (L' := [(0, .slice A84 y78.2.2.2.length c85), (1, .func (.func 23) #[] #[.pointer (some ⟨b62, 0, none⟩)]), (5, .int .i64 x8_l4), (7, .int .i64 (y78.2.2.2.length : Int)), (8, .int .i64 x8_l4), (16, .bool (v89.1 == a2))]) (w' := w92) (by kernel_rfl) ?_
      refine WR.nil ?_
      refine At.go ?_
      refine WC.cond (by kernel_rfl) (v89.1 == a2) (by kernel_rfl) (by kernel_rfl) (fun hb94 => ?_) (fun hb94 => ?_)
      · replace H := ite_t H hb94
        refine WC.seq (by kernel_rfl) ?_
        refine WC.reg [0, 1] (by kernel_rfl) (by kernel_rfl) ?_
        refine WR.runk [0, 1] [] [4] (L' := [(4, .int .i64 x8_l4)]) (w' := w92) (by kernel_rfl) ?_
        refine WR.nil ?_
        refine At.go ?_
        refine WC.ret (by kernel_rfl) ?_
        refine At.blockRet ?_
        refine At.thenRet ?_
        refine At.thenRet ?_
        obtain rfl := Option.some.inj H
        have hS : Sat w92 B [pts b0 (.cells #[.int .i64 p0.1, .slice A59 p0.2.1.length c60, .int .i64 p0.2.2.1, .bool p0.2.2.2.1, .int .i64 p0.2.2.2.2.1, .bool p0.2.2.2.2.2] 46 (0, 0)), gh K65, pts b62 (.cells #[.int .i64 a2] 3 (0, 0))] := hS.sel [2, 1, 3] (by kernel_rfl)
        refine At.weaken [4] (L' := [(4, .int .i64 x8_l4)]) (by kernel_rfl) ?_
        exact hn0 x8_l4 _ rfl hS
      · replace H := ite_f H hb94
        refine WC.skip (by kernel_rfl) ?_
        refine At.blockNormal ?_
        refine At.go ?_
        refine WC.reg [0, 1] (by kernel_rfl) (by kernel_rfl) ?_
        refine WR.runk [0, 1] [] [0, 1, 7, 8] (L' := [(0, .slice A84 y78.2.2.2.length c85), (1, .func (.func 23) #[] #[.pointer (some ⟨b62, 0, none⟩)]), (7, .int .i64 (y78.2.2.2.length : Int)), (8, .int .i64 (wi (x8_l4 + 1)))]) (w' := w92) (by kernel_rfl) ?_
        refine WR.nil ?_
        have hS : Sat w92 B [gh K65, pts b0 (.cells #[.int .i64 p0.1, .slice A59 p0.2.1.length c60, .int .i64 p0.2.2.1, .bool p0.2.2.2.1, .int .i64 p0.2.2.2.2.1, .bool p0.2.2.2.2.2] 46 (0, 0)), pts b62 (.cells #[.int .i64 a2] 3 (0, 0))] := hS.sel [1, 2, 3] (by kernel_rfl)
        refine At.again ?_
        refine WL.weaken [0, 1, 7, 8] (L' := [(0, .slice A84 y78.2.2.2.length c85), (1, .func (.func 23) #[] #[.pointer (some ⟨b62, 0, none⟩)]), (7, .int .i64 (y78.2.2.2.length : Int)), (8, .int .i64 (wi (x8_l4 + 1)))]) (by kernel_rfl) ?_
        exact ih (wi (x8_l4 + 1)) _ hS H
    · replace H := ite_f H hb88
      refine WC.exit (by kernel_rfl) ?_
      refine At.thenExit ?_
      refine At.thenExit ?_
      obtain rfl := Option.some.inj H
      have hS : Sat w B [pts b0 (.cells #[.int .i64 p0.1, .slice A59 p0.2.1.length c60, .int .i64 p0.2.2.1, .bool p0.2.2.2.1, .int .i64 p0.2.2.2.2.1, .bool p0.2.2.2.2.2] 46 (0, 0)), gh K65, pts b62 (.cells #[.int .i64 a2] 3 (0, 0))] := hS.sel [1, 0, 2] (by kernel_rfl)
      refine At.weaken [] (L' := []) (by kernel_rfl) ?_
      exact hn1 () _ rfl hS
theorem fair_Ring_Add.l3_ok {Q} (B : Rf) (b0 : Nat) (p0 : Int × (List (Option (Int × Int × Int × (List (Int × Bool))))) × Int × Bool × Int × Bool) (a2 : Int) (A59 : Option Addr) (c60 : Nat) (b62 : Nat) (K65 : Heap) (css68 : List (List Value)) (R67 : rdS (rd K65 (.ptr 50 (.pair (.int .i64) (.pair (.int .i64) (.pair (.int .i64) (.slice 55 (.pair (.int .i64) .bool))))))) 1 K65 A59 c60 p0.2.1) (hC69 : orc 47 (Ept O50) 1 A59 c60 css68 p0.2.1 K65) (out : Sum (Int × Int) Unit) (hn0 : ∀ (o0 : Int × Int) (u4_q : Value) (w : World), out = (.inl o0) → Sat w B [gh K65, pts b62 (.cells #[.int .i64 a2] 3 (0, 0)), pts b0 (.cells #[.int .i64 p0.1, .slice A59 p0.2.1.length c60, .int .i64 p0.2.2.1, .bool p0.2.2.2.1, .int .i64 p0.2.2.2.2.1, .bool p0.2.2.2.2.2] 46 (0, 0))] → css68[(o0.1).toNat]? = some [u4_q] → At Q .ret 31 [(4, u4_q), (5, .int .i64 o0.2)] w) (hn1 : ∀ (o1 : Unit) (w : World), out = (.inr o1) → Sat w B [pts b62 (.cells #[.int .i64 a2] 3 (0, 0)), pts b0 (.cells #[.int .i64 p0.1, .slice A59 p0.2.1.length c60, .int .i64 p0.2.2.1, .bool p0.2.2.2.1, .int .i64 p0.2.2.2.2.1, .bool p0.2.2.2.2.2] 46 (0, 0)), gh K65] → At Q (.exit 0) 31 [] w) :
    ∀ (k : Nat) (x16_l3 : Int) (w : World), Sat w B [gh K65, pts b62 (.cells #[.int .i64 a2] 3 (0, 0)), pts b0 (.cells #[.int .i64 p0.1, .slice A59 p0.2.1.length c60, .int .i64 p0.2.2.1, .bool p0.2.2.2.1, .int .i64 p0.2.2.2.2.1, .bool p0.2.2.2.2.2] 46 (0, 0))] → fair_Ring_Add.l3 p0 a2 k x16_l3 = some out → WL Try.prog (cbody (cbody (cr (cl (cr (cr C17)))))) Q 31 [(3, .pointer (some ⟨b62, 0, none⟩)), (14, .slice A59 p0.2.1.length c60), (15, .int .i64 (p0.2.1.length : Int)), (16, .int .i64 x16_l3)] w := by
  intro k
  induction k with
  | zero => intro x16_l3 w hS H; exact absurd (show none = some out from H) (by simp)
  | succ k ih =>
    intro x16_l3 w hS H
    unfold fair_Ring_Add.l3 at H
    refine WL.round ?_
    refine WC.seq (by kernel_rfl) ?_
    refine WC.reg [0] (by kernel_rfl) (by kernel_rfl) ?_
    refine WR.runk [0] [] [3, 14, 15, 16, 17] (L' := [(3, .pointer (some ⟨b62, 0, none⟩)), (14, .slice A59 p0.2.1.length c60), (15, .int .i64 (p0.2.1.length : Int)), (16, .int .i64 x16_l3), (17, .bool (decide (x16_l3 < (p0.2.1.length : Int))))]) (w' := w) (by kernel_rfl) ?_
    refine WR.nil ?_
    refine At.go ?_
    refine WC.seq (by kernel_rfl) ?_
    refine WC.cond (by kernel_rfl) (decide (x16_l3 < (p0.2.1.length : Int))) (by kernel_rfl) (by kernel_rfl) (fun hb70 => ?_) (fun hb70 => ?_)
    · replace H := ite_t H hb70
      refine WC.skip (by kernel_rfl) ?_
      refine At.go ?_
      refine WC.seq (by kernel_rfl) ?_
      refine WC.block (by kernel_rfl) ?_
      refine WC.seq (by kernel_rfl) ?_
      refine WC.reg [0, 1, 2] (by kernel_rfl) (by kernel_rfl) ?_
      refine WR.runk [] [0, 1, 2] [3, 14, 15, 16] (L' := [(3, .pointer (some ⟨b62, 0, none⟩)), (14, .slice A59 p0.2.1.length c60), (15, .int .i64 (p0.2.1.length : Int)), (16, .int .i64 x16_l3)]) (w' := w) (by kernel_rfl) ?_
      obtain ⟨v71, e72, H⟩ := bind_ex H
      refine WR.st (St.ofP (PSt.idx (k := .i64) (.tmp 14) (.tmp 16) (by kernel_rfl) (by kernel_rfl) E44 (by kernel_rfl) (by kernel_rfl) (rdS.upd R67 (Sat.ghAt 0 hS rfl)) e72 ?_))
      refine WR.runk [] [1, 2] [3, 14, 15, 16, 18] (L' := [(3, .pointer (some ⟨b62, 0, none⟩)), (14, .slice A59 p0.2.1.length c60), (15, .int .i64 (p0.2.1.length : Int)), (16, .int .i64 x16_l3), (18, .pointer (some (adr A59 x16_l3.toNat 1)))]) (w' := w) (by kernel_rfl) ?_
      refine WR.st (St.ofR (RSt.loadRow (t := 47) (κ := (.ptr 50 (.pair (.int .i64) (.pair (.int .i64) (.pair (.int .i64) (.slice 55 (.pair (.int .i64) .bool))))))) (Ept.rd (t := 50) (κ := (.pair (.int .i64) (.pair (.int .i64) (.pair (.int .i64) (.slice 55 (.pair (.int .i64) .bool)))))) (O := O50) O50.rd) (.tmp 18) (by kernel_rfl) (by kernel_rfl) (by kernel_rfl) (by kernel_rfl) hC69 e72 (Sat.ghAt 0 hS rfl) (fun u73 C74 R75 => ?_)))
      replace R75 : rd K65 (.ptr 50 (.pair (.int .i64) (.pair (.int .i64) (.pair (.int .i64) (.slice 55 (.pair (.int .i64) .bool)))))) [u73] v71 := R75
      replace C74 : css68[x16_l3.toNat]? = some [u73] := C74
      refine WR.runk [2] [] [3, 7, 14, 15, 16] (L' := [(3, .pointer (some ⟨b62, 0, none⟩)), (7, u73), (14, .slice A59 p0.2.1.length c60), (15, .int .i64 (p0.2.1.length : Int)), (16, .int .i64 x16_l3)]) (w' := w) (by kernel_rfl) ?_
      refine WR.nil ?_
      refine At.go ?_
      refine WC.seq (by kernel_rfl) ?_
      refine WC.reg [0, 1, 2, 3, 4, 5, 6] (by kernel_rfl) (by kernel_rfl) ?_
      refine WR.runk [0] [1, 2, 3, 4, 5, 6] [3, 7, 14, 15, 16, 20] (L' := [(3, .pointer (some ⟨b62, 0, none⟩)), (7, u73), (14, .slice A59 p0.2.1.length c60), (15, .int .i64 (p0.2.1.length : Int)), (16, .int .i64 x16_l3), (20, u73)]) (w' := w) (by kernel_rfl) ?_
      obtain ⟨y78, hr76, H⟩ := bind_ex H
      obtain ⟨b79, fr80, A84, c85, hv81, hb82, R86⟩ := P50.open R75 hr76
      have R83 := R75
      rw [hv81, hr76] at R83
      have C87 : css68[x16_l3.toNat]? = some [.pointer (some ⟨b79, 0, none⟩)] := by rw [← hv81]; exact C74
      try subst hv81
      replace R86 : rdS (r0 (.pair (.int .i64) .bool)) 2 K65 A84 c85 y78.2.2.2 := R86
      refine WR.runk [1, 2] [3, 4, 5, 6] [3, 7, 14, 15, 16, 22] (L' := [(3, .pointer (some ⟨b62, 0, none⟩)), (7, .pointer (some ⟨b79, 0, none⟩)), (14, .slice A59 p0.2.1.length c60), (15, .int .i64 (p0.2.1.length : Int)), (16, .int .i64 x16_l3), (22, .pointer (some ⟨b79, 3, none⟩))]) (w' := w) (by kernel_rfl) ?_
      refine WR.st (St.ofR (RSt.loadRo (t := 48) (k := 3) (v := .slice A84 y78.2.2.2.length c85) (.tmp 22) (by kernel_rfl) (by kernel_rfl) (by kernel_rfl) (Sat.ghAt 0 hS rfl) hb82 (by kernel_rfl) rfl ?_))
      refine WR.runk [4] [5, 6] [3, 7, 14, 15, 16, 23, 24] (L' := [(3, .pointer (some ⟨b62, 0, none⟩)), (7, .pointer (some ⟨b79, 0, none⟩)), (14, .slice A59 p0.2.1.length c60), (15, .int .i64 (p0.2.1.length : Int)), (16, .int .i64 x16_l3), (23, .slice A84 y78.2.2.2.length c85), (24, .func (.func 23) #[] #[.pointer (some ⟨b62, 0, none⟩)])]) (w' := w) (by kernel_rfl) ?_
      refine WR.st (St.call (by kernel_rfl) (f := 22) (args := #[.slice A84 y78.2.2.2.length c85, .func (.func 23) #[] #[.pointer (some ⟨b62, 0, none⟩)]]) (by kernel_rfl) (calls_of_WC (vs := [.slice A84 y78.2.2.2.length c85, .func (.func 23) #[] #[.pointer (some ⟨b62, 0, none⟩)]]) Try.func22 (c := C22) (n := 19) (by kernel_rfl) (by kernel_rfl) (by kernel_rfl) ?_) (fun _ _ h => h))
      refine WC.seq (by kernel_rfl) ?_
      refine WC.reg [0] (by kernel_rfl) (by kernel_rfl) ?_
      refine WR.runk [0] [] [0, 1] (L' := [(0, .slice A84 y78.2.2.2.length c85), (1, .func (.func 23) #[] #[.pointer (some ⟨b62, 0, none⟩)])]) (w' := w) (by kernel_rfl) ?_
      refine WR.nil ?_
      refine At.go ?_
      refine WC.seq (by kernel_rfl) ?_
      refine WC.seq (by kernel_rfl) ?_
      refine WC.reg [0, 1, 2] (by kernel_rfl) (by kernel_rfl) ?_
      refine WR.runk [0, 1, 2] [] [0, 1, 7, 8] (L' := [(0, .slice A84 y78.2.2.2.length c85), (1, .func (.func 23) #[] #[.pointer (some ⟨b62, 0, none⟩)]), (7, .int .i64 (y78.2.2.2.length : Int)), (8, .int .i64 0)]) (w' := w) (by kernel_rfl) ?_
      refine WR.nil ?_
      refine At.go ?_
      refine WC.block (by kernel_rfl) ?_
      have hS : Sat w B [gh K65, pts b0 (.cells #[.int .i64 p0.1, .slice A59 p0.2.1.length c60, .int .i64 p0.2.2.1, .bool p0.2.2.2.1, .int .i64 p0.2.2.2.2.1, .bool p0.2.2.2.2.2] 46 (0, 0)), pts b62 (.cells #[.int .i64 a2] 3 (0, 0))] := hS.sel [0, 2, 1] (by kernel_rfl)
      obtain ⟨o95, e96, H⟩ := bind_ex H
      refine WC.loop (by kernel_rfl) ?_
      refine WL.weaken [0, 1, 7, 8] (L' := [(0, .slice A84 y78.2.2.2.length c85), (1, .func (.func 23) #[] #[.pointer (some ⟨b62, 0, none⟩)]), (7, .int .i64 (y78.2.2.2.length : Int)), (8, .int .i64 0)]) (by kernel_rfl) ?_
      refine fair_Ring_Add.l4_ok B b0 p0 a2 A59 c60 b62 K65 y78 A84 c85 R86 o95 (fun o97 w99 ho100 hS => ?_) (fun o102 w104 ho105 hS => ?_) FU 0 _ hS e96
      · subst ho100
        dsimp only at H
        refine At.blockRet ?_
        refine At.thenRet ?_
        refine At.bodyK [.int .i64 o97] (.int .i64 o97) (by kernel_rfl) rfl ?_
        refine WR.runk [6] [] [3, 7, 8, 14, 15, 16] (L' := [(3, .pointer (some ⟨b62, 0, none⟩)), (7, .pointer (some ⟨b79, 0, none⟩)), (8, .int .i64 o97), (14, .slice A59 p0.2.1.length c60), (15, .int .i64 (p0.2.1.length : Int)), (16, .int .i64 x16_l3)]) (w' := w99) (by kernel_rfl) ?_
        refine WR.nil ?_
        refine At.go ?_
        refine WC.seq (by kernel_rfl) ?_
        refine WC.reg [0, 1] (by kernel_rfl) (by kernel_rfl) ?_
        refine WR.runk [0, 1] [] [3, 7, 8, 14, 15, 16, 27] (L' := [(3, .pointer (some ⟨b62, 0, none⟩)), (7, .pointer (some ⟨b79, 0, none⟩)), (8, .int .i64 o97), (14, .slice A59 p0.2.1.length c60), (15, .int .i64 (p0.2.1.length : Int)), (16, .int .i64 x16_l3), (27, .bool (decide (o97 ≥ 0)))]) (w' := w99) (by kernel_rfl) ?_
        refine WR.nil ?_
        refine At.go ?_
        refine WC.cond (by kernel_rfl) (decide (o97 ≥ 0)) (by kernel_rfl) (by kernel_rfl) (fun hb101 => ?_) (fun hb101 => ?_)
        · replace H := ite_t H hb101
          refine WC.seq (by kernel_rfl) ?_
          refine WC.reg [0, 1, 2, 3] (by kernel_rfl) (by kernel_rfl) ?_
          refine WR.runk [0, 1, 2, 3] [] [4, 5] (L' := [(4, .pointer (some ⟨b79, 0, none⟩)), (5, .int .i64 o97)]) (w' := w99) (by kernel_rfl) ?_
          refine WR.nil ?_
          refine At.go ?_
          refine WC.ret (by kernel_rfl) ?_
          refine At.blockRet ?_
          refine At.thenRet ?_
          refine At.thenRet ?_
          obtain rfl := Option.some.inj H
          have hS : Sat w99 B [gh K65, pts b62 (.cells #[.int .i64 a2] 3 (0, 0)), pts b0 (.cells #[.int .i64 p0.1, .slice A59 p0.2.1.length c60, .int .i64 p0.2.2.1, .bool p0.2.2.2.1, .int .i64 p0.2.2.2.2.1, .bool p0.2.2.2.2.2] 46 (0, 0))] := hS.sel [1, 2, 0] (by kernel_rfl)
          refine At.weaken [4, 5] (L' := [(4, .pointer (some ⟨b79, 0, none⟩)), (5, .int .i64 o97)]) (by kernel_rfl) ?_
          exact hn0 (x16_l3, o97) (.pointer (some ⟨b79, 0, none⟩)) _ rfl hS C87
        · replace H := ite_f H hb101
          refine WC.skip (by kernel_rfl) ?_
          refine At.blockNormal ?_
          refine At.go ?_
          refine WC.reg [0, 1] (by kernel_rfl) (by kernel_rfl) ?_
          refine WR.runk [0, 1] [] [3, 14, 15, 16] (L' := [(3, .pointer (some ⟨b62, 0, none⟩)), (14, .slice A59 p0.2.1.length c60), (15, .int .i64 (p0.2.1.length : Int)), (16, .int .i64 (wi (x16_l3 + 1)))]) (w' := w99) (by kernel_rfl) ?_
          refine WR.nil ?_
          have hS : Sat w99 B [gh K65, pts b62 (.cells #[.int .i64 a2] 3 (0, 0)), pts b0 (.cells #[.int .i64 p0.1, .slice A59 p0.2.1.length c60, .int .i64 p0.2.2.1, .bool p0.2.2.2.1, .int .i64 p0.2.2.2.2.1, .bool p0.2.2.2.2.2] 46 (0, 0))] := hS.sel [1, 2, 0] (by kernel_rfl)
          refine At.again ?_
          refine WL.weaken [3, 14, 15, 16] (L' := [(3, .pointer (some ⟨b62, 0, none⟩)), (14, .slice A59 p0.2.1.length c60), (15, .int .i64 (p0.2.1.length : Int)), (16, .int .i64 (wi (x16_l3 + 1)))]) (by kernel_rfl) ?_
          exact ih (wi (x16_l3 + 1)) _ hS H
      · subst ho105
        dsimp only at H
        refine At.hit ?_
        refine At.go ?_
        refine WC.seq (by kernel_rfl) ?_
        refine WC.reg [0] (by kernel_rfl) (by kernel_rfl) ?_
        refine WR.runk [0] [] [4] (L' := [(4, .int .i64 (-1))]) (w' := w104) (by kernel_rfl) ?_
        refine WR.nil ?_
        refine At.go ?_
        refine WC.ret (by kernel_rfl) ?_
        refine At.bodyK [.int .i64 (-1)] (.int .i64 (-1)) (by kernel_rfl) rfl ?_
        refine WR.runk [6] [] [3, 7, 8, 14, 15, 16] (L' := [(3, .pointer (some ⟨b62, 0, none⟩)), (7, .pointer (some ⟨b79, 0, none⟩)), (8, .int .i64 (-1)), (14, .slice A59 p0.2.1.length c60), (15, .int .i64 (p0.2.1.length : Int)), (16, .int .i64 x16_l3)]) (w' := w104) (by kernel_rfl) ?_
        refine WR.nil ?_
        refine At.go ?_
        refine WC.seq (by kernel_rfl) ?_
        refine WC.reg [0, 1] (by kernel_rfl) (by kernel_rfl) ?_
        refine WR.runk [0, 1] [] [3, 7, 8, 14, 15, 16, 27] (L' := [(3, .pointer (some ⟨b62, 0, none⟩)), (7, .pointer (some ⟨b79, 0, none⟩)), (8, .int .i64 (-1)), (14, .slice A59 p0.2.1.length c60), (15, .int .i64 (p0.2.1.length : Int)), (16, .int .i64 x16_l3), (27, .bool (decide ((-1) ≥ 0)))]) (w' := w104) (by kernel_rfl) ?_
        refine WR.nil ?_
        refine At.go ?_
        refine WC.cond (by kernel_rfl) (decide ((-1) ≥ 0)) (by kernel_rfl) (by kernel_rfl) (fun hb106 => ?_) (fun hb106 => ?_)
        · replace H := ite_t H hb106
          refine WC.seq (by kernel_rfl) ?_
          refine WC.reg [0, 1, 2, 3] (by kernel_rfl) (by kernel_rfl) ?_
          refine WR.runk [0, 1, 2, 3] [] [4, 5] (L' := [(4, .pointer (some ⟨b79, 0, none⟩)), (5, .int .i64 (-1))]) (w' := w104) (by kernel_rfl) ?_
          refine WR.nil ?_
          refine At.go ?_
          refine WC.ret (by kernel_rfl) ?_
          refine At.blockRet ?_
          refine At.thenRet ?_
          refine At.thenRet ?_
          obtain rfl := Option.some.inj H
          have hS : Sat w104 B [gh K65, pts b62 (.cells #[.int .i64 a2] 3 (0, 0)), pts b0 (.cells #[.int .i64 p0.1, .slice A59 p0.2.1.length c60, .int .i64 p0.2.2.1, .bool p0.2.2.2.1, .int .i64 p0.2.2.2.2.1, .bool p0.2.2.2.2.2] 46 (0, 0))] := hS.sel [1, 2, 0] (by kernel_rfl)
          refine At.weaken [4, 5] (L' := [(4, .pointer (some ⟨b79, 0, none⟩)), (5, .int .i64 (-1))]) (by kernel_rfl) ?_
          exact hn0 (x16_l3, (-1)) (.pointer (some ⟨b79, 0, none⟩)) _ rfl hS C87
        · replace H := ite_f H hb106
          refine WC.skip (by kernel_rfl) ?_
          refine At.blockNormal ?_
          refine At.go ?_
          refine WC.reg [0, 1] (by kernel_rfl) (by kernel_rfl) ?_
          refine WR.runk [0, 1] [] [3, 14, 15, 16] (L' := [(3, .pointer (some ⟨b62, 0, none⟩)), (14, .slice A59 p0.2.1.length c60), (15, .int .i64 (p0.2.1.length : Int)), (16, .int .i64 (wi (x16_l3 + 1)))]) (w' := w104) (by kernel_rfl) ?_
          refine WR.nil ?_
          have hS : Sat w104 B [gh K65, pts b62 (.cells #[.int .i64 a2] 3 (0, 0)), pts b0 (.cells #[.int .i64 p0.1, .slice A59 p0.2.1.length c60, .int .i64 p0.2.2.1, .bool p0.2.2.2.1, .int .i64 p0.2.2.2.2.1, .bool p0.2.2.2.2.2] 46 (0, 0))] := hS.sel [1, 2, 0] (by kernel_rfl)
          refine At.again ?_
          refine WL.weaken [3, 14, 15, 16] (L' := [(3, .pointer (some ⟨b62, 0, none⟩)), (14, .slice A59 p0.2.1.length c60), (15, .int .i64 (p0.2.1.length : Int)), (16, .int .i64 (wi (x16_l3 + 1)))]) (by kernel_rfl) ?_
          exact ih (wi (x16_l3 + 1)) _ hS H
    · replace H := ite_f H hb70
      refine WC.exit (by kernel_rfl) ?_
      refine At.thenExit ?_
      refine At.thenExit ?_
      obtain rfl := Option.some.inj H
      have hS : Sat w B [pts b62 (.cells #[.int .i64 a2] 3 (0, 0)), pts b0 (.cells #[.int .i64 p0.1, .slice A59 p0.2.1.length c60, .int .i64 p0.2.2.1, .bool p0.2.2.2.1, .int .i64 p0.2.2.2.2.1, .bool p0.2.2.2.2.2] 46 (0, 0)), gh K65] := hS.sel [1, 2, 0] (by kernel_rfl)
      refine At.weaken [] (L' := []) (by kernel_rfl) ?_
      exact hn1 () _ rfl hS
theorem fair_Ring_Add.l6_ok {Q} (B : Rf) (b0 : Nat) (p0 : Int × (List (Option (Int × Int × Int × (List (Int × Bool))))) × Int × Bool × Int × Bool) (a2 : Int) (A59 : Option Addr) (c60 : Nat) (K117 : Heap) (b127 : Nat) (y138 : Int × Int × Int × (List (Int × Bool))) (A144 : Option Addr) (c145 : Nat) (R146 : rdS (r0 (.pair (.int .i64) .bool)) 2 K117 A144 c145 y138.2.2.2) (out : Sum Int Unit) (hn0 : ∀ (o0 : Int) (w : World), out = (.inl o0) → Sat w B [pts b0 (.cells #[.int .i64 p0.1, .slice A59 p0.2.1.length c60, .int .i64 p0.2.2.1, .bool p0.2.2.2.1, .int .i64 p0.2.2.2.2.1, .bool p0.2.2.2.2.2] 46 (0, 0)), gh K117, pts b127 (.cells #[.int .i64 a2] 3 (0, 0))] → At Q .ret 19 [(4, .int .i64 o0)] w) (hn1 : ∀ (o1 : Unit) (w : World), out = (.inr o1) → Sat w B [pts b0 (.cells #[.int .i64 p0.1, .slice A59 p0.2.1.length c60, .int .i64 p0.2.2.1, .bool p0.2.2.2.1, .int .i64 p0.2.2.2.2.1, .bool p0.2.2.2.2.2] 46 (0, 0)), gh K117, pts b127 (.cells #[.int .i64 a2] 3 (0, 0))] → At Q (.exit 0) 19 [] w) :
    ∀ (k : Nat) (x8_l6 : Int) (w : World), Sat w B [gh K117, pts b0 (.cells #[.int .i64 p0.1, .slice A59 p0.2.1.length c60, .int .i64 p0.2.2.1, .bool p0.2.2.2.1, .int .i64 p0.2.2.2.2.1, .bool p0.2.2.2.2.2] 46 (0, 0)), pts b127 (.cells #[.int .i64 a2] 3 (0, 0))] → fair_Ring_Add.l6 a2 y138 k x8_l6 = some out → WL Try.prog (cbody (cbody (cr (cl (cr C22))))) Q 19 [(0, .slice A144 y138.2.2.2.length c145), (1, .func (.func 23) #[] #[.pointer (some ⟨b127, 0, none⟩)]), (7, .int .i64 (y138.2.2.2.length : Int)), (8, .int .i64 x8_l6)] w := by
  intro k
  induction k with
  | zero => intro x8_l6 w hS H; exact absurd (show none = some out from H) (by simp)
  | succ k ih =>
    intro x8_l6 w hS H
    unfold fair_Ring_Add.l6 at H
    refine WL.round ?_
    refine WC.seq (by kernel_rfl) ?_
    refine WC.reg [0] (by kernel_rfl) (by kernel_rfl) ?_
    refine WR.runk [0] [] [0, 1, 7, 8, 9] (L' := [(0, .slice A144 y138.2.2.2.length c145), (1, .func (.func 23) #[] #[.pointer (some ⟨b127, 0, none⟩)]), (7, .int .i64 (y138.2.2.2.length : Int)), (8, .int .i64 x8_l6), (9, .bool (decide (x8_l6 < (y138.2.2.2.length : Int))))]) (w' := w) (by kernel_rfl) ?_
    refine WR.nil ?_
    refine At.go ?_
    refine WC.seq (by kernel_rfl) ?_
    refine WC.cond (by kernel_rfl) (decide (x8_l6 < (y138.2.2.2.length : Int))) (by kernel_rfl) (by kernel_rfl) (fun hb148 => ?_) (fun hb148 => ?_)
    · replace H := ite_t H hb148
      refine WC.skip (by kernel_rfl) ?_
      refine At.go ?_
      refine WC.seq (by kernel_rfl) ?_
      refine WC.block (by kernel_rfl) ?_
      refine WC.seq (by kernel_rfl) ?_
      refine WC.reg [0, 1] (by kernel_rfl) (by kernel_rfl) ?_
      refine WR.runk [0, 1] [] [0, 1, 5, 7, 8] (L' := [(0, .slice A144 y138.2.2.2.length c145), (1, .func (.func 23) #[] #[.pointer (some ⟨b127, 0, none⟩)]), (5, .int .i64 x8_l6), (7, .int .i64 (y138.2.2.2.length : Int)), (8, .int .i64 x8_l6)]) (w' := w) (by kernel_rfl) ?_
      refine WR.nil ?_
      refine At.go ?_
      refine WC.seq (by kernel_rfl) ?_
      refine WC.reg [0, 1, 2, 3, 4, 5] (by kernel_rfl) (by kernel_rfl) ?_
      refine WR.runk [0, 1, 2] [3, 4, 5] [0, 1, 5, 7, 8, 11, 12, 13] (L' := [(0, .slice A144 y138.2.2.2.length c145), (1, .func (.func 23) #[] #[.pointer (some ⟨b127, 0, none⟩)]), (5, .int .i64 x8_l6), (7, .int .i64 (y138.2.2.2.length : Int)), (8, .int .i64 x8_l6), (11, .func (.func 23) #[] #[.pointer (some ⟨b127, 0, none⟩)]), (12, .slice A144 y138.2.2.2.length c145), (13, .int .i64 x8_l6)]) (w' := w) (by kernel_rfl) ?_
      obtain ⟨v149, e150, H⟩ := bind_ex H
      refine WR.st (St.ofP (PSt.idx (k := .i64) (.tmp 12) (.tmp 13) (by kernel_rfl) (by kernel_rfl) E48 (by kernel_rfl) (by kernel_rfl) (rdS.up R146 (Sat.ghAt 0 hS rfl)) e150 ?_))
      refine WR.runk [] [4, 5] [0, 1, 5, 7, 8, 11, 14] (L' := [(0, .slice A144 y138.2.2.2.length c145), (1, .func (.func 23) #[] #[.pointer (some ⟨b127, 0, none⟩)]), (5, .int .i64 x8_l6), (7, .int .i64 (y138.2.2.2.length : Int)), (8, .int .i64 x8_l6), (11, .func (.func 23) #[] #[.pointer (some ⟨b127, 0, none⟩)]), (14, .pointer (some (adr A144 x8_l6.toNat 2)))]) (w' := w) (by kernel_rfl) ?_
      refine WR.st (St.ofR (RSt.loadFlat (t := 55) (κ := (.pair (.int .i64) .bool)) (.tmp 14) (by kernel_rfl) (by kernel_rfl) (by kernel_rfl) (by kernel_rfl) (by kernel_rfl) (by kernel_rfl) (rdS.up R146 (Sat.ghAt 0 hS rfl)) e150 ?_))
      refine WR.runk [] [5] [0, 1, 5, 7, 8, 11, 15] (L' := [(0, .slice A144 y138.2.2.2.length c145), (1, .func (.func 23) #[] #[.pointer (some ⟨b127, 0, none⟩)]), (5, .int .i64 x8_l6), (7, .int .i64 (y138.2.2.2.length : Int)), (8, .int .i64 x8_l6), (11, .func (.func 23) #[] #[.pointer (some ⟨b127, 0, none⟩)]), (15, .agg #[.int .i64 v149.1, .bool v149.2])]) (w' := w) (by kernel_rfl) ?_
      refine WR.st (St.call (by kernel_rfl) (f := 23) (args := #[.agg #[.int .i64 v149.1, .bool v149.2], .pointer (some ⟨b127, 0, none⟩)]) (by kernel_rfl) (calls_of_WC (vs := [.agg #[.int .i64 v149.1, .bool v149.2], .pointer (some ⟨b127, 0, none⟩)]) Try.func23 (c := C23) (n := 8) (by kernel_rfl) (by kernel_rfl) (by kernel_rfl) ?_) (fun _ _ h => h))
      refine WC.seq (by kernel_rfl) ?_
      refine WC.reg [0, 1] (by kernel_rfl) (by kernel_rfl) ?_
      refine WR.runk [] [0, 1] [0, 1] (L' := [(0, .agg #[.int .i64 v149.1, .bool v149.2]), (1, .pointer (some ⟨b127, 0, none⟩))]) (w' := w) (by kernel_rfl) ?_
      refine WR.st (St.box hS (by kernel_rfl) (.cells #[.int .i64 v149.1, .bool v149.2] 55) (fun b151 => .pointer (some ⟨b151, 0, none⟩)) (fun _ => by kernel_rfl) (fun b151 w152 hS => ?_))
      refine WR.runk [1] [] [1, 2] (L' := [(1, .pointer (some ⟨b127, 0, none⟩)), (2, .pointer (some ⟨b151, 0, none⟩))]) (w' := w152) (by kernel_rfl) ?_
      refine WR.nil ?_
      refine At.go ?_
      refine WC.seq (by kernel_rfl) ?_
      refine WC.reg [0, 1, 2, 3, 4] (by kernel_rfl) (by kernel_rfl) ?_
      refine WR.runk [0] [1, 2, 3, 4] [1, 4] (L' := [(1, .pointer (some ⟨b127, 0, none⟩)), (4, .pointer (some ⟨b151, 0, none⟩))]) (w' := w152) (by kernel_rfl) ?_
      refine WR.st (St.ofR (RSt.loadObj (t := 3) (k := 0) (v := .int .i64 v149.1) (.tmp 4) (by kernel_rfl) (by kernel_rfl) (by kernel_rfl) 0 hS rfl (by kernel_rfl) rfl ?_))
      refine WR.runk [] [2, 3, 4] [1, 5] (L' := [(1, .pointer (some ⟨b127, 0, none⟩)), (5, .int .i64 v149.1)]) (w' := w152) (by kernel_rfl) ?_
      refine WR.st (St.ofR (RSt.loadObj (t := 3) (k := 0) (v := .int .i64 a2) (.tmp 1) (by kernel_rfl) (by kernel_rfl) (by kernel_rfl) 3 hS rfl (by kernel_rfl) rfl ?_))
      refine WR.runk [3, 4] [] [3] (L' := [(3, .bool (v149.1 == a2))]) (w' := w152) (by kernel_rfl) ?_
      refine WR.nil ?_
      refine At.go ?_
      refine WC.ret (by kernel_rfl) ?_
      refine At.bodyK [.bool (v149.1 == a2)] (.bool (v149.1 == a2)) (by kernel_rfl) rfl ?_
      refine WR.runk [] [] [0, 1, 5, 7, 8, 16] (L' := [(0, .slice A144 y138.2.2.2.length c145), (1, .func (.func 23) #[] #[.pointer (some ⟨b127, 0, none⟩)]), (5, .int .i64 x8_l6), (7, .int .i64 (y138.2.2.2.length : Int)), (8, .int .i64 x8_l6), (16, .bool (v149.1 == a2))]) (w' := w152) (by kernel_rfl) ?_
      refine WR.nil ?_
      refine At.go ?_
      refine WC.cond (by kernel_rfl) (v149.1 == a2) (by kernel_rfl) (by kernel_rfl) (fun hb154 => ?_) (fun hb154 => ?_)
      · replace H := ite_t H hb154
        refine WC.seq (by kernel_rfl) ?_
        refine WC.reg [0, 1] (by kernel_rfl) (by kernel_rfl) ?_
        refine WR.runk [0, 1] [] [4] (L' := [(4, .int .i64 x8_l6)]) (w' := w152) (by kernel_rfl) ?_
        refine WR.nil ?_
        refine At.go ?_
        refine WC.ret (by kernel_rfl) ?_
        refine At.blockRet ?_
        refine At.thenRet ?_
        refine At.thenRet ?_
        obtain rfl := Option.some.inj H
        have hS : Sat w152 B [pts b0 (.cells #[.int .i64 p0.1, .slice A59 p0.2.1.length c60, .int .i64 p0.2.2.1, .bool p0.2.2.2.1, .int .i64 p0.2.2.2.2.1, .bool p0.2.2.2.2.2] 46 (0, 0)), gh K117, pts b127 (.cells #[.int .i64 a2] 3 (0, 0))] := hS.sel [2, 1, 3] (by kernel_rfl)
        refine At.weaken [4] (L' := [(4, .int .i64 x8_l6)]) (by kernel_rfl) ?_
        exact hn0 x8_l6 _ rfl hS
      · replace H := ite_f H hb154
        refine WC.skip (by kernel_rfl) ?_
        refine At.blockNormal ?_
        refine At.go ?_
        refine WC.reg [0, 1] (by kernel_rfl) (by kernel_rfl) ?_
        refine WR.runk [0, 1] [] [0, 1, 7, 8] (L' := [(0, .slice A144 y138.2.2.2.length c145), (1, .func (.func 23) #[] #[.pointer (some ⟨b127, 0, none⟩)]), (7, .int .i64 (y138.2.2.2.length : Int)), (8, .int .i64 (wi (x8_l6 + 1)))]) (w' := w152) (by kernel_rfl) ?_
        refine WR.nil ?_
        have hS : Sat w152 B [gh K117, pts b0 (.cells #[.int .i64 p0.1, .slice A59 p0.2.1.length c60, .int .i64 p0.2.2.1, .bool p0.2.2.2.1, .int .i64 p0.2.2.2.2.1, .bool p0.2.2.2.2.2] 46 (0, 0)), pts b127 (.cells #[.int .i64 a2] 3 (0, 0))] := hS.sel [1, 2, 3] (by kernel_rfl)
        refine At.again ?_
        refine WL.weaken [0, 1, 7, 8] (L' := [(0, .slice A144 y138.2.2.2.length c145), (1, .func (.func 23) #[] #[.pointer (some ⟨b127, 0, none⟩)]), (7, .int .i64 (y138.2.2.2.length : Int)), (8, .int .i64 (wi (x8_l6 + 1)))]) (by kernel_rfl) ?_
        exact ih (wi (x8_l6 + 1)) _ hS H
    · replace H := ite_f H hb148
      refine WC.exit (by kernel_rfl) ?_
      refine At.thenExit ?_
      refine At.thenExit ?_
      obtain rfl := Option.some.inj H
      have hS : Sat w B [pts b0 (.cells #[.int .i64 p0.1, .slice A59 p0.2.1.length c60, .int .i64 p0.2.2.1, .bool p0.2.2.2.1, .int .i64 p0.2.2.2.2.1, .bool p0.2.2.2.2.2] 46 (0, 0)), gh K117, pts b127 (.cells #[.int .i64 a2] 3 (0, 0))] := hS.sel [1, 0, 2] (by kernel_rfl)
      refine At.weaken [] (L' := []) (by kernel_rfl) ?_
      exact hn1 () _ rfl hS
theorem fair_Ring_Add.l5_ok {Q} (B : Rf) (b0 : Nat) (p0 : Int × (List (Option (Int × Int × Int × (List (Int × Bool))))) × Int × Bool × Int × Bool) (a2 : Int) (A59 : Option Addr) (c60 : Nat) (K117 : Heap) (css120 : List (List Value)) (b127 : Nat) (R119 : rdS (rd K117 (.ptr 50 (.pair (.int .i64) (.pair (.int .i64) (.pair (.int .i64) (.slice 55 (.pair (.int .i64) .bool))))))) 1 K117 A59 c60 p0.2.1) (hC121 : orc 47 (Ept O50) 1 A59 c60 css120 p0.2.1 K117) (out : Sum (Int × Int) Unit) (hn0 : ∀ (o0 : Int × Int) (u4_q : Value) (w : World), out = (.inl o0) → Sat w B [gh K117, pts b127 (.cells #[.int .i64 a2] 3 (0, 0)), pts b0 (.cells #[.int .i64 p0.1, .slice A59 p0.2.1.length c60, .int .i64 p0.2.2.1, .bool p0.2.2.2.1, .int .i64 p0.2.2.2.2.1, .bool p0.2.2.2.2.2] 46 (0, 0))] → css120[(o0.1).toNat]? = some [u4_q] → At Q .ret 31 [(4, u4_q), (5, .int .i64 o0.2)] w) (hn1 : ∀ (o1 : Unit) (w : World), out = (.inr o1) → Sat w B [pts b127 (.cells #[.int .i64 a2] 3 (0, 0)), pts b0 (.cells #[.int .i64 p0.1, .slice A59 p0.2.1.length c60, .int .i64 p0.2.2.1, .bool p0.2.2.2.1, .int .i64 p0.2.2.2.2.1, .bool p0.2.2.2.2.2] 46 (0, 0)), gh K117] → At Q (.exit 0) 31 [] w) :
    ∀ (k : Nat) (x16_l5 : Int) (w : World), Sat w B [gh K117, pts b127 (.cells #[.int .i64 a2] 3 (0, 0)), pts b0 (.cells #[.int .i64 p0.1, .slice A59 p0.2.1.length c60, .int .i64 p0.2.2.1, .bool p0.2.2.2.1, .int .i64 p0.2.2.2.2.1, .bool p0.2.2.2.2.2] 46 (0, 0))] → fair_Ring_Add.l5 p0 a2 k x16_l5 = some out → WL Try.prog (cbody (cbody (cr (cl (cr (cr C17)))))) Q 31 [(3, .pointer (some ⟨b127, 0, none⟩)), (14, .slice A59 p0.2.1.length c60), (15, .int .i64 (p0.2.1.length : Int)), (16, .int .i64 x16_l5)] w := by
  intro k
  induction k with
  | zero => intro x16_l5 w hS H; exact absurd (show none = some out from H) (by simp)
  | succ k ih =>
    intro x16_l5 w hS H
    unfold fair_Ring_Add.l5 at H
    refine WL.round ?_
    refine WC.seq (by kernel_rfl) ?_
    refine WC.reg [0] (by kernel_rfl) (by kernel_rfl) ?_
    refine WR.runk [0] [] [3, 14, 15, 16, 17] (L' := [(3, .pointer (some ⟨b127, 0, none⟩)), (14, .slice A59 p0.2.1.length c60), (15, .int .i64 (p0.2.1.length : Int)), (16, .int .i64 x16_l5), (17, .bool (decide (x16_l5 < (p0.2.1.length : Int))))]) (w' := w) (by kernel_rfl) ?_
    refine WR.nil ?_
    refine At.go ?_
    refine WC.seq (by kernel_rfl) ?_
    refine WC.cond (by kernel_rfl) (decide (x16_l5 < (p0.2.1.length : Int))) (by kernel_rfl) (by kernel_rfl) (fun hb130 => ?_) (fun hb130 => ?_)
    · replace H := ite_t H hb130
      refine WC.skip (by kernel_rfl) ?_
      refine At.go ?_
      refine WC.seq (by kernel_rfl) ?_
      refine WC.block (by kernel_rfl) ?_
      refine WC.seq (by kernel_rfl) ?_
      refine WC.reg [0, 1, 2] (by kernel_rfl) (by kernel_rfl) ?_
      refine WR.runk [] [0, 1, 2] [3, 14, 15, 16] (L' := [(3, .pointer (some ⟨b127, 0, none⟩)), (14, .slice A59 p0.2.1.length c60), (15, .int .i64 (p0.2.1.length : Int)), (16, .int .i64 x16_l5)]) (w' := w) (by kernel_rfl) ?_
      obtain ⟨v131, e132, H⟩ := bind_ex H
      refine WR.st (St.ofP (PSt.idx (k := .i64) (.tmp 14) (.tmp 16) (by kernel_rfl) (by kernel_rfl) E44 (by kernel_rfl) (by kernel_rfl) (rdS.upd R119 (Sat.ghAt 0 hS rfl)) e132 ?_))
      refine WR.runk [] [1, 2] [3, 14, 15, 16, 18] (L' := [(3, .pointer (some ⟨b127, 0, none⟩)), (14, .slice A59 p0.2.1.length c60), (15, .int .i64 (p0.2.1.length : Int)), (16, .int .i64 x16_l5), (18, .pointer (some (adr A59 x16_l5.toNat 1)))]) (w' := w) (by kernel_rfl) ?_
      refine WR.st (St.ofR (RSt.loadRow (t := 47) (κ := (.ptr 50 (.pair (.int .i64) (.pair (.int .i64) (.pair (.int .i64) (.slice 55 (.pair (.int .i64) .bool))))))) (Ept.rd (t := 50) (κ := (.pair (.int .i64) (.pair (.int .i64) (.pair (.int .i64) (.slice 55 (.pair (.int .i64) .bool)))))) (O := O50) O50.rd) (.tmp 18) (by kernel_rfl) (by kernel_rfl) (by kernel_rfl) (by kernel_rfl) hC121 e132 (Sat.ghAt 0 hS rfl) (fun u133 C134 R135 => ?_)))
      replace R135 : rd K117 (.ptr 50 (.pair (.int .i64) (.pair (.int .i64) (.pair (.int .i64) (.slice 55 (.pair (.int .i64) .bool)))))) [u133] v131 := R135
      replace C134 : css120[x16_l5.toNat]? = some [u133] := C134
      refine WR.runk [2] [] [3, 7, 14, 15, 16] (L' := [(3, .pointer (some ⟨b127, 0, none⟩)), (7, u133), (14, .slice A59 p0.2.1.length c60), (15, .int .i64 (p0.2.1.length : Int)), (16, .int .i64 x16_l5)]) (w' := w) (by kernel_rfl) ?_
      refine WR.nil ?_
      refine At.go ?_
      refine WC.seq (by kernel_rfl) ?_
      refine WC.reg [0, 1, 2, 3, 4, 5, 6] (by kernel_rfl) (by kernel_rfl) ?_
      refine WR.runk [0] [1, 2, 3, 4, 5, 6] [3, 7, 14, 15, 16, 20] (L' := [(3, .pointer (some ⟨b127, 0, none⟩)), (7, u133), (14, .slice A59 p0.2.1.length c60), (15, .int .i64 (p0.2.1.length : Int)), (16, .int .i64 x16_l5), (20, u133)]) (w' := w) (by kernel_rfl) ?_
      obtain ⟨y138, hr136, H⟩ := bind_ex H
      obtain ⟨b139, fr140, A144, c145, hv141, hb142, R146⟩ := P50.open R135 hr136
      have R143 := R135
      rw [hv141, hr136] at R143
      have C147 : css120[x16_l5.toNat]? = some [.pointer (some ⟨b139, 0, none⟩)] := by rw [← hv141]; exact C134
      try subst hv141
      replace R146 : rdS (r0 (.pair (.int .i64) .bool)) 2 K117 A144 c145 y138.2.2.2 := R146
      refine WR.runk [1, 2] [3, 4, 5, 6] [3, 7, 14, 15, 16, 22] (L' := [(3, .pointer (some ⟨b127, 0, none⟩)), (7, .pointer (some ⟨b139, 0, none⟩)), (14, .slice A59 p0.2.1.length c60), (15, .int .i64 (p0.2.1.length : Int)), (16, .int .i64 x16_l5), (22, .pointer (some ⟨b139, 3, none⟩))]) (w' := w) (by kernel_rfl) ?_
      refine WR.st (St.ofR (RSt.loadRo (t := 48) (k := 3) (v := .slice A144 y138.2.2.2.length c145) (.tmp 22) (by kernel_rfl) (by kernel_rfl) (by kernel_rfl) (Sat.ghAt 0 hS rfl) hb142 (by kernel_rfl) rfl ?_))
      refine WR.runk [4] [5, 6] [3, 7, 14, 15, 16, 23, 24] (L' := [(3, .pointer (some ⟨b127, 0, none⟩)), (7, .pointer (some ⟨b139, 0, none⟩)), (14, .slice A59 p0.2.1.length c60), (15, .int .i64 (p0.2.1.length : Int)), (16, .int .i64 x16_l5), (23, .slice A144 y138.2.2.2.length c145), (24, .func (.func 23) #[] #[.pointer (some ⟨b127, 0, none⟩)])]) (w' := w) (by kernel_rfl) ?_
      refine WR.st (St.call (by kernel_rfl) (f := 22) (args := #[.slice A144 y138.2.2.2.length c145, .func (.func 23) #[] #[.pointer (some ⟨b127, 0, none⟩)]]) (by kernel_rfl) (calls_of_WC (vs := [.slice A144 y138.2.2.2.length c145, .func (.func 23) #[] #[.pointer (some ⟨b127, 0, none⟩)]]) Try.func22 (c := C22) (n := 19) (by kernel_rfl) (by kernel_rfl) (by kernel_rfl) ?_) (fun _ _ h => h))
      refine WC.seq (by kernel_rfl) ?_
      refine WC.reg [0] (by kernel_rfl) (by kernel_rfl) ?_
      refine WR.runk [0] [] [0, 1] (L' := [(0, .slice A144 y138.2.2.2.length c145), (1, .func (.func 23) #[] #[.pointer (some ⟨b127, 0, none⟩)])]) (w' := w) (by kernel_rfl) ?_
      refine WR.nil ?_
      refine At.go ?_
      refine WC.seq (by kernel_rfl) ?_
      refine WC.seq (by kernel_rfl) ?_
      refine WC.reg [0, 1, 2] (by kernel_rfl) (by kernel_rfl) ?_
      refine WR.runk [0, 1, 2] [] [0, 1, 7, 8] (L' := [(0, .slice A144 y138.2.2.2.length c145), (1, .func (.func 23) #[] #[.pointer (some ⟨b127, 0, none⟩)]), (7, .int .i64 (y138.2.2.2.length : Int)), (8, .int .i64 0)]) (w' := w) (by kernel_rfl) ?_
      refine WR.nil ?_
      refine At.go ?_
      refine WC.block (by kernel_rfl) ?_
      have hS : Sat w B [gh K117, pts b0 (.cells #[.int .i64 p0.1, .slice A59 p0.2.1.length c60, .int .i64 p0.2.2.1, .bool p0.2.2.2.1, .int .i64 p0.2.2.2.2.1, .bool p0.2.2.2.2.2] 46 (0, 0)), pts b127 (.cells #[.int .i64 a2] 3 (0, 0))] := hS.sel [0, 2, 1] (by kernel_rfl)
      obtain ⟨o155, e156, H⟩ := bind_ex H
      refine WC.loop (by kernel_rfl) ?_
      refine WL.weaken [0, 1, 7, 8] (L' := [(0, .slice A144 y138.2.2.2.length c145), (1, .func (.func 23) #[] #[.pointer (some ⟨b127, 0, none⟩)]), (7, .int .i64 (y138.2.2.2.length : Int)), (8, .int .i64 0)]) (by kernel_rfl) ?_
      refine fair_Ring_Add.l6_ok B b0 p0 a2 A59 c60 K117 b127 y138 A144 c145 R146 o155 (fun o157 w159 ho160 hS => ?_) (fun o162 w164 ho165 hS => ?_) FU 0 _ hS e156
      · subst ho160
        dsimp only at H
        refine At.blockRet ?_
        refine At.thenRet ?_
        refine At.bodyK [.int .i64 o157] (.int .i64 o157) (by kernel_rfl) rfl ?_
        refine WR.runk [6] [] [3, 7, 8, 14, 15, 16] (L' := [(3, .pointer (some ⟨b127, 0, none⟩)), (7, .pointer (some ⟨b139, 0, none⟩)), (8, .int .i64 o157), (14, .slice A59 p0.2.1.length c60), (15, .int .i64 (p0.2.1.length : Int)), (16, .int .i64 x16_l5)]) (w' := w159) (by kernel_rfl) ?_
        refine WR.nil ?_
        refine At.go ?_
        refine WC.seq (by kernel_rfl) ?_
        refine WC.reg [0, 1] (by kernel_rfl) (by kernel_rfl) ?_
        refine WR.runk [0, 1] [] [3, 7, 8, 14, 15, 16, 27] (L' := [(3, .pointer (some ⟨b127, 0, none⟩)), (7, .pointer (some ⟨b139, 0, none⟩)), (8, .int .i64 o157), (14, .slice A59 p0.2.1.length c60), (15, .int .i64 (p0.2.1.length : Int)), (16, .int .i64 x16_l5), (27, .bool (decide (o157 ≥ 0)))]) (w' := w159) (by kernel_rfl) ?_
        refine WR.nil ?_
        refine At.go ?_
        refine WC.cond (by kernel_rfl) (decide (o157 ≥ 0)) (by kernel_rfl) (by kernel_rfl) (fun hb161 => ?_) (fun hb161 => ?_)
        · replace H := ite_t H hb161
          refine WC.seq (by kernel_rfl) ?_
          refine WC.reg [0, 1, 2, 3] (by kernel_rfl) (by kernel_rfl) ?_
          refine WR.runk [0, 1, 2, 3] [] [4, 5] (L' := [(4, .pointer (some ⟨b139, 0, none⟩)), (5, .int .i64 o157)]) (w' := w159) (by kernel_rfl) ?_
          refine WR.nil ?_
          refine At.go ?_
          refine WC.ret (by kernel_rfl) ?_
          refine At.blockRet ?_
          refine At.thenRet ?_
          refine At.thenRet ?_
          obtain rfl := Option.some.inj H
          have hS : Sat w159 B [gh K117, pts b127 (.cells #[.int .i64 a2] 3 (0, 0)), pts b0 (.cells #[.int .i64 p0.1, .slice A59 p0.2.1.length c60, .int .i64 p0.2.2.1, .bool p0.2.2.2.1, .int .i64 p0.2.2.2.2.1, .bool p0.2.2.2.2.2] 46 (0, 0))] := hS.sel [1, 2, 0] (by kernel_rfl)
          refine At.weaken [4, 5] (L' := [(4, .pointer (some ⟨b139, 0, none⟩)), (5, .int .i64 o157)]) (by kernel_rfl) ?_
          exact hn0 (x16_l5, o157) (.pointer (some ⟨b139, 0, none⟩)) _ rfl hS C147
        · replace H := ite_f H hb161
          refine WC.skip (by kernel_rfl) ?_
          refine At.blockNormal ?_
          refine At.go ?_
          refine WC.reg [0, 1] (by kernel_rfl) (by kernel_rfl) ?_
          refine WR.runk [0, 1] [] [3, 14, 15, 16] (L' := [(3, .pointer (some ⟨b127, 0, none⟩)), (14, .slice A59 p0.2.1.length c60), (15, .int .i64 (p0.2.1.length : Int)), (16, .int .i64 (wi (x16_l5 + 1)))]) (w' := w159) (by kernel_rfl) ?_
          refine WR.nil ?_
          have hS : Sat w159 B [gh K117, pts b127 (.cells #[.int .i64 a2] 3 (0, 0)), pts b0 (.cells #[.int .i64 p0.1, .slice A59 p0.2.1.length c60, .int .i64 p0.2.2.1, .bool p0.2.2.2.1, .int .i64 p0.2.2.2.2.1, .bool p0.2.2.2.2.2] 46 (0, 0))] := hS.sel [1, 2, 0] (by kernel_rfl)
          refine At.again ?_
          refine WL.weaken [3, 14, 15, 16] (L' := [(3, .pointer (some ⟨b127, 0, none⟩)), (14, .slice A59 p0.2.1.length c60), (15, .int .i64 (p0.2.1.length : Int)), (16, .int .i64 (wi (x16_l5 + 1)))]) (by kernel_rfl) ?_
          exact ih (wi (x16_l5 + 1)) _ hS H
      · subst ho165
        dsimp only at H
        refine At.hit ?_
        refine At.go ?_
        refine WC.seq (by kernel_rfl) ?_
        refine WC.reg [0] (by kernel_rfl) (by kernel_rfl) ?_
        refine WR.runk [0] [] [4] (L' := [(4, .int .i64 (-1))]) (w' := w164) (by kernel_rfl) ?_
        refine WR.nil ?_
        refine At.go ?_
        refine WC.ret (by kernel_rfl) ?_
        refine At.bodyK [.int .i64 (-1)] (.int .i64 (-1)) (by kernel_rfl) rfl ?_
        refine WR.runk [6] [] [3, 7, 8, 14, 15, 16] (L' := [(3, .pointer (some ⟨b127, 0, none⟩)), (7, .pointer (some ⟨b139, 0, none⟩)), (8, .int .i64 (-1)), (14, .slice A59 p0.2.1.length c60), (15, .int .i64 (p0.2.1.length : Int)), (16, .int .i64 x16_l5)]) (w' := w164) (by kernel_rfl) ?_
        refine WR.nil ?_
        refine At.go ?_
        refine WC.seq (by kernel_rfl) ?_
        refine WC.reg [0, 1] (by kernel_rfl) (by kernel_rfl) ?_
        refine WR.runk [0, 1] [] [3, 7, 8, 14, 15, 16, 27] (L' := [(3, .pointer (some ⟨b127, 0, none⟩)), (7, .pointer (some ⟨b139, 0, none⟩)), (8, .int .i64 (-1)), (14, .slice A59 p0.2.1.length c60), (15, .int .i64 (p0.2.1.length : Int)), (16, .int .i64 x16_l5), (27, .bool (decide ((-1) ≥ 0)))]) (w' := w164) (by kernel_rfl) ?_
        refine WR.nil ?_
        refine At.go ?_
        refine WC.cond (by kernel_rfl) (decide ((-1) ≥ 0)) (by kernel_rfl) (by kernel_rfl) (fun hb166 => ?_) (fun hb166 => ?_)
        · replace H := ite_t H hb166
          refine WC.seq (by kernel_rfl) ?_
          refine WC.reg [0, 1, 2, 3] (by kernel_rfl) (by kernel_rfl) ?_
          refine WR.runk [0, 1, 2, 3] [] [4, 5] (L' := [(4, .pointer (some ⟨b139, 0, none⟩)), (5, .int .i64 (-1))]) (w' := w164) (by kernel_rfl) ?_
          refine WR.nil ?_
          refine At.go ?_
          refine WC.ret (by kernel_rfl) ?_
          refine At.blockRet ?_
          refine At.thenRet ?_
          refine At.thenRet ?_
          obtain rfl := Option.some.inj H
          have hS : Sat w164 B [gh K117, pts b127 (.cells #[.int .i64 a2] 3 (0, 0)), pts b0 (.cells #[.int .i64 p0.1, .slice A59 p0.2.1.length c60, .int .i64 p0.2.2.1, .bool p0.2.2.2.1, .int .i64 p0.2.2.2.2.1, .bool p0.2.2.2.2.2] 46 (0, 0))] := hS.sel [1, 2, 0] (by kernel_rfl)
          refine At.weaken [4, 5] (L' := [(4, .pointer (some ⟨b139, 0, none⟩)), (5, .int .i64 (-1))]) (by kernel_rfl) ?_
          exact hn0 (x16_l5, (-1)) (.pointer (some ⟨b139, 0, none⟩)) _ rfl hS C147
        · replace H := ite_f H hb166
          refine WC.skip (by kernel_rfl) ?_
          refine At.blockNormal ?_
          refine At.go ?_
          refine WC.reg [0, 1] (by kernel_rfl) (by kernel_rfl) ?_
          refine WR.runk [0, 1] [] [3, 14, 15, 16] (L' := [(3, .pointer (some ⟨b127, 0, none⟩)), (14, .slice A59 p0.2.1.length c60), (15, .int .i64 (p0.2.1.length : Int)), (16, .int .i64 (wi (x16_l5 + 1)))]) (w' := w164) (by kernel_rfl) ?_
          refine WR.nil ?_
          have hS : Sat w164 B [gh K117, pts b127 (.cells #[.int .i64 a2] 3 (0, 0)), pts b0 (.cells #[.int .i64 p0.1, .slice A59 p0.2.1.length c60, .int .i64 p0.2.2.1, .bool p0.2.2.2.1, .int .i64 p0.2.2.2.2.1, .bool p0.2.2.2.2.2] 46 (0, 0))] := hS.sel [1, 2, 0] (by kernel_rfl)
          refine At.again ?_
          refine WL.weaken [3, 14, 15, 16] (L' := [(3, .pointer (some ⟨b127, 0, none⟩)), (14, .slice A59 p0.2.1.length c60), (15, .int .i64 (p0.2.1.length : Int)), (16, .int .i64 (wi (x16_l5 + 1)))]) (by kernel_rfl) ?_
          exact ih (wi (x16_l5 + 1)) _ hS H
    · replace H := ite_f H hb130
      refine WC.exit (by kernel_rfl) ?_
      refine At.thenExit ?_
      refine At.thenExit ?_
      obtain rfl := Option.some.inj H
      have hS : Sat w B [pts b127 (.cells #[.int .i64 a2] 3 (0, 0)), pts b0 (.cells #[.int .i64 p0.1, .slice A59 p0.2.1.length c60, .int .i64 p0.2.2.1, .bool p0.2.2.2.1, .int .i64 p0.2.2.2.2.1, .bool p0.2.2.2.2.2] 46 (0, 0)), gh K117] := hS.sel [1, 2, 0] (by kernel_rfl)
      refine At.weaken [] (L' := []) (by kernel_rfl) ?_
      exact hn1 () _ rfl hS
theorem fair_Ring_Add.calls (B : Rf) (w0 : World) (b0 : Nat) (p0 : Int × (List (Option (Int × Int × Int × (List (Int × Bool))))) × Int × Bool × Int × Bool) (hS : Sat w0 B [O46 b0 p0]) (a1 : Int) (a2 : Int) (r : Bool × (Int × (List (Option (Int × Int × Int × (List (Int × Bool))))) × Int × Bool × Int × Bool)) (H : fair_Ring_Add.f p0 a1 a2 = some r) :
    Calls Try.prog 9 #[.pointer (some ⟨b0, 0, none⟩), .int .i64 a1, .int .i64 a2] w0 (fun e w' => ∃ v, e = .returned v ∧ fair_Ring_Add.post B b0 p0 w0 r v w') := by
  unfold fair_Ring_Add.f at H
  refine calls_of_WC (vs := [.pointer (some ⟨b0, 0, none⟩), .int .i64 a1, .int .i64 a2]) Try.func9 (c := C9) (n := 36) (by kernel_rfl) (by kernel_rfl) (by kernel_rfl) ?_
  refine WC.seq (by kernel_rfl) ?_
  refine WC.reg [0] (by kernel_rfl) (by kernel_rfl) ?_
  refine WR.runk [0] [] [0, 1, 2] (L' := [(0, .pointer (some ⟨b0, 0, none⟩)), (1, .int .i64 a1), (2, .int .i64 a2)]) (w' := w0) (by kernel_rfl) ?_
  refine WR.nil ?_
  refine At.go ?_
  refine WC.seq (by kernel_rfl) ?_
  refine WC.reg [0, 1, 2, 3] (by kernel_rfl) (by kernel_rfl) ?_
  refine WR.runk [0, 1] [2, 3] [0, 2, 10, 11] (L' := [(0, .pointer (some ⟨b0, 0, none⟩)), (2, .int .i64 a2), (10, .pointer (some ⟨b0, 0, none⟩)), (11, .int .i64 a1)]) (w' := w0) (by kernel_rfl) ?_
  refine WR.st (St.call (by kernel_rfl) (f := 16) (args := #[.pointer (some ⟨b0, 0, none⟩), .int .i64 a1]) (by kernel_rfl) (calls_of_WC (vs := [.pointer (some ⟨b0, 0, none⟩), .int .i64 a1]) Try.func16 (c := C16) (n := 27) (by kernel_rfl) (by kernel_rfl) (by kernel_rfl) ?_) (fun _ _ h => h))
  refine WC.seq (by kernel_rfl) ?_
  refine WC.reg [0] (by kernel_rfl) (by kernel_rfl) ?_
  refine WR.runk [0] [] [0, 1] (L' := [(0, .pointer (some ⟨b0, 0, none⟩)), (1, .int .i64 a1)]) (w' := w0) (by kernel_rfl) ?_
  refine WR.nil ?_
  refine At.go ?_
  refine WC.seq (by kernel_rfl) ?_
  refine WC.seq (by kernel_rfl) ?_
  refine WC.reg [0, 1, 2, 3, 4, 5, 6, 7, 8, 9, 10, 11, 12, 13, 14] (by kernel_rfl) (by kernel_rfl) ?_
  refine WR.runk [0, 1, 2, 3, 4, 5, 6] [7, 8, 9, 10, 11, 12, 13, 14] [0, 1, 11] (L' := [(0, .pointer (some ⟨b0, 0, none⟩)), (1, .int .i64 a1), (11, .bool (decide (a1 < 0)))]) (w' := w0) (by kernel_rfl) ?_
  refine WR.split 11 (b := decide (a1 < 0)) (by kernel_rfl) (fun hb1 => ?_) (fun hb1 => ?_)
  · replace H := ite_t H hb1
    refine WR.runk [7, 8, 9, 10, 11, 12, 13, 14] [] [0, 1, 19] (L' := [(0, .pointer (some ⟨b0, 0, none⟩)), (1, .int .i64 a1), (19, .bool true)]) (w' := w0) (by kernel_rfl) ?_
    refine WR.nil ?_
    refine At.go ?_
    refine WC.condT (by kernel_rfl) (by kernel_rfl) (by kernel_rfl) ?_
    refine WC.seq (by kernel_rfl) ?_
    refine WC.reg [0] (by kernel_rfl) (by kernel_rfl) ?_
    refine WR.runk [0] [] [4] (L' := [(4, .pointer none)]) (w' := w0) (by kernel_rfl) ?_
    refine WR.nil ?_
    refine At.go ?_
    refine WC.ret (by kernel_rfl) ?_
    refine At.thenRet ?_
    refine At.bodyK [.pointer none] (.pointer none) (by kernel_rfl) rfl ?_
    refine WR.runk [3] [] [0, 2, 7] (L' := [(0, .pointer (some ⟨b0, 0, none⟩)), (2, .int .i64 a2), (7, .pointer none)]) (w' := w0) (by kernel_rfl) ?_
    refine WR.nil ?_
    refine At.go ?_
    refine WC.seq (by kernel_rfl) ?_
    refine WC.seq (by kernel_rfl) ?_
    refine WC.reg [0, 1, 2, 3, 4, 5, 6, 7] (by kernel_rfl) (by kernel_rfl) ?_
    refine WR.runk [0, 1] [2, 3, 4, 5, 6, 7] [2, 7, 14, 15] (L' := [(2, .int .i64 a2), (7, .pointer none), (14, .pointer (some ⟨b0, 0, none⟩)), (15, .int .i64 a2)]) (w' := w0) (by kernel_rfl) ?_
    refine WR.st (St.call (by kernel_rfl) (f := 17) (args := #[.pointer (some ⟨b0, 0, none⟩), .int .i64 a2]) (by kernel_rfl) (calls_of_WC (vs := [.pointer (some ⟨b0, 0, none⟩), .int .i64 a2]) Try.func17 (c := C17) (n := 31) (by kernel_rfl) (by kernel_rfl) (by kernel_rfl) ?_) (fun _ _ h => h))
    refine WC.seq (by kernel_rfl) ?_
    refine WC.reg [0, 1, 2] (by kernel_rfl) (by kernel_rfl) ?_
    refine WR.runk [] [0, 1, 2] [0, 1] (L' := [(0, .pointer (some ⟨b0, 0, none⟩)), (1, .int .i64 a2)]) (w' := w0) (by kernel_rfl) ?_
    refine WR.st (St.box hS (by kernel_rfl) (.cells #[.int .i64 a2] 3) (fun b2 => .pointer (some ⟨b2, 0, none⟩)) (fun _ => by kernel_rfl) (fun b2 w3 hS => ?_))
    refine WR.runk [1, 2] [] [0, 3] (L' := [(0, .pointer (some ⟨b0, 0, none⟩)), (3, .pointer (some ⟨b2, 0, none⟩))]) (w' := w3) (by kernel_rfl) ?_
    refine WR.nil ?_
    refine At.go ?_
    refine WC.seq (by kernel_rfl) ?_
    refine WC.seq (by kernel_rfl) ?_
    refine WC.reg [0, 1] (by kernel_rfl) (by kernel_rfl) ?_
    refine WR.runk [0, 1] [] [0, 3, 10] (L' := [(0, .pointer (some ⟨b0, 0, none⟩)), (3, .pointer (some ⟨b2, 0, none⟩)), (10, .bool false)]) (w' := w3) (by kernel_rfl) ?_
    refine WR.nil ?_
    refine At.go ?_
    refine WC.condF (by kernel_rfl) (by kernel_rfl) (by kernel_rfl) ?_
    refine WC.skip (by kernel_rfl) ?_
    refine At.go ?_
    refine WC.seq (by kernel_rfl) ?_
    refine WC.seq (by kernel_rfl) ?_
    refine WC.reg [0, 1, 2, 3, 4, 5] (by kernel_rfl) (by kernel_rfl) ?_
    refine WR.runk [0, 1, 2] [3, 4, 5] [3, 13] (L' := [(3, .pointer (some ⟨b2, 0, none⟩)), (13, .pointer (some ⟨b0, 1, none⟩))]) (w' := w3) (by kernel_rfl) ?_
    have hS : Sat w3 B [O46 b0 p0, pts b2 (.cells #[.int .i64 a2] 3 (0, 0))] := hS.sel [1, 0] (by kernel_rfl)
    obtain ⟨A5, c6, hS⟩ := O46.open hS
    have hS : Sat w3 B [pts b0 (.cells #[.int .i64 p0.1, .slice A5 p0.2.1.length c6, .int .i64 p0.2.2.1, .bool p0.2.2.2.1, .int .i64 p0.2.2.2.2.1, .bool p0.2.2.2.2.2] 46 (0, 0)), orw 47 (Ept O50) 1 A5 c6 p0.2.1, pts b2 (.cells #[.int .i64 a2] 3 (0, 0))] := hS
    refine WR.st (St.ofR (RSt.loadObj (t := 44) (k := 1) (v := .slice A5 p0.2.1.length c6) (.tmp 13) (by kernel_rfl) (by kernel_rfl) (by kernel_rfl) 0 hS rfl (by kernel_rfl) rfl ?_))
    refine WR.runk [4, 5] [] [3, 14, 15, 16] (L' := [(3, .pointer (some ⟨b2, 0, none⟩)), (14, .slice A5 p0.2.1.length c6), (15, .int .i64 (p0.2.1.length : Int)), (16, .int .i64 0)]) (w' := w3) (by kernel_rfl) ?_
    refine WR.nil ?_
    refine At.go ?_
    refine WC.block (by kernel_rfl) ?_
    have hS : Sat w3 B [orw 47 (Ept O50) 1 A5 c6 p0.2.1, pts b0 (.cells #[.int .i64 p0.1, .slice A5 p0.2.1.length c6, .int .i64 p0.2.2.1, .bool p0.2.2.2.1, .int .i64 p0.2.2.2.2.1, .bool p0.2.2.2.2.2] 46 (0, 0)), pts b2 (.cells #[.int .i64 a2] 3 (0, 0))] := hS.sel [1, 0, 2] (by kernel_rfl)
    obtain ⟨K7, hK8, hS⟩ := Sat.gho hS
    have hS : Sat w3 B [gh K7, pts b0 (.cells #[.int .i64 p0.1, .slice A5 p0.2.1.length c6, .int .i64 p0.2.2.1, .bool p0.2.2.2.1, .int .i64 p0.2.2.2.2.1, .bool p0.2.2.2.2.2] 46 (0, 0)), pts b2 (.cells #[.int .i64 a2] 3 (0, 0))] := hS
    have R9 : rdS (rd K7 (.ptr 50 (.pair (.int .i64) (.pair (.int .i64) (.pair (.int .i64) (.slice 55 (.pair (.int .i64) .bool))))))) 1 K7 A5 c6 p0.2.1 := orw.rdS (κ := (.ptr 50 (.pair (.int .i64) (.pair (.int .i64) (.pair (.int .i64) (.slice 55 (.pair (.int .i64) .bool))))))) (Ept.rd (t := 50) (κ := (.pair (.int .i64) (.pair (.int .i64) (.pair (.int .i64) (.slice 55 (.pair (.int .i64) .bool)))))) (O := O50) O50.rd) hK8
    obtain ⟨css10, hC11⟩ := orw.named hK8
    have hS : Sat w3 B [gh K7, pts b2 (.cells #[.int .i64 a2] 3 (0, 0)), pts b0 (.cells #[.int .i64 p0.1, .slice A5 p0.2.1.length c6, .int .i64 p0.2.2.1, .bool p0.2.2.2.1, .int .i64 p0.2.2.2.2.1, .bool p0.2.2.2.2.2] 46 (0, 0))] := hS.sel [0, 2, 1] (by kernel_rfl)
    obtain ⟨o49, e50, H⟩ := bind_ex H
    refine WC.loop (by kernel_rfl) ?_
    refine WL.weaken [3, 14, 15, 16] (L' := [(3, .pointer (some ⟨b2, 0, none⟩)), (14, .slice A5 p0.2.1.length c6), (15, .int .i64 (p0.2.1.length : Int)), (16, .int .i64 0)]) (by kernel_rfl) ?_
    refine fair_Ring_Add.l1_ok B b0 p0 a2 b2 A5 c6 K7 css10 R9 hC11 o49 (fun o51 u4_q52 w53 ho54 hS C4_q52 => ?_) (fun o55 w57 ho58 hS => ?_) FU 0 _ hS e50
    · subst ho54
      dsimp only at H
      refine At.blockRet ?_
      refine At.thenRet ?_
      refine At.bodyK [u4_q52, .int .i64 o51.2] (.tuple #[u4_q52, .int .i64 o51.2]) (by kernel_rfl) rfl ?_
      refine WR.runk [3, 4, 5, 6, 7] [] [2, 7, 9] (L' := [(2, .int .i64 a2), (7, .pointer none), (9, .int .i64 o51.2)]) (w' := w53) (by kernel_rfl) ?_
      refine WR.nil ?_
      refine At.go ?_
      refine WC.seq (by kernel_rfl) ?_
      refine WC.reg [0, 1, 2, 3, 4, 5] (by kernel_rfl) (by kernel_rfl) ?_
      refine WR.runk [0, 1, 2, 3, 4, 5] [] [2, 7, 24] (L' := [(2, .int .i64 a2), (7, .pointer none), (24, .bool true)]) (w' := w53) (by kernel_rfl) ?_
      refine WR.nil ?_
      refine At.go ?_
      refine WC.condT (by kernel_rfl) (by kernel_rfl) (by kernel_rfl) ?_
      refine WC.seq (by kernel_rfl) ?_
      refine WC.reg [0] (by kernel_rfl) (by kernel_rfl) ?_
      refine WR.runk [0] [] [6] (L' := [(6, .bool false)]) (w' := w53) (by kernel_rfl) ?_
      refine WR.nil ?_
      refine At.go ?_
      refine WC.ret (by kernel_rfl) ?_
      refine At.thenRet ?_
      obtain rfl := Option.some.inj H
      have hS : Sat w53 B [orw 47 (Ept O50) 1 A5 c6 p0.2.1, pts b2 (.cells #[.int .i64 a2] 3 (0, 0)), pts b0 (.cells #[.int .i64 p0.1, .slice A5 p0.2.1.length c6, .int .i64 p0.2.2.1, .bool p0.2.2.2.1, .int .i64 p0.2.2.2.2.1, .bool p0.2.2.2.2.2] 46 (0, 0))] := Sat.ungh hK8 hS
      have hS : Sat w53 B [pts b0 (.cells #[.int .i64 p0.1, .slice A5 p0.2.1.length c6, .int .i64 p0.2.2.1, .bool p0.2.2.2.1, .int .i64 p0.2.2.2.2.1, .bool p0.2.2.2.2.2] 46 (0, 0)), orw 47 (Ept O50) 1 A5 c6 p0.2.1, pts b2 (.cells #[.int .i64 a2] 3 (0, 0))] := hS.sel [2, 0, 1] (by kernel_rfl)
      have hS : Sat w53 B [O46 b0 p0, pts b2 (.cells #[.int .i64 a2] 3 (0, 0))] := O46.close p0 A5 c6 hS
      have hS : Sat w53 B [O46 b0 p0] := hS.sel [0] (by kernel_rfl)
      exact At.body [.bool false] (by kernel_rfl) ⟨_, rfl, rfl, hS⟩
    · subst ho58
      dsimp only at H
      refine At.hit ?_
      refine At.go ?_
      refine WC.seq (by kernel_rfl) ?_
      refine WC.reg [0, 1] (by kernel_rfl) (by kernel_rfl) ?_
      refine WR.runk [0, 1] [] [4, 5] (L' := [(4, .pointer none), (5, .int .i64 (-1))]) (w' := w57) (by kernel_rfl) ?_
      refine WR.nil ?_
      refine At.go ?_
      refine WC.ret (by kernel_rfl) ?_
      refine At.bodyK [.pointer none, .int .i64 (-1)] (.tuple #[.pointer none, .int .i64 (-1)]) (by kernel_rfl) rfl ?_
      refine WR.runk [3, 4, 5, 6, 7] [] [2, 7, 9] (L' := [(2, .int .i64 a2), (7, .pointer none), (9, .int .i64 (-1))]) (w' := w57) (by kernel_rfl) ?_
      refine WR.nil ?_
      refine At.go ?_
      refine WC.seq (by kernel_rfl) ?_
      refine WC.reg [0, 1, 2, 3, 4, 5] (by kernel_rfl) (by kernel_rfl) ?_
      refine WR.runk [0, 1, 2, 3, 4, 5] [] [2, 7, 24] (L' := [(2, .int .i64 a2), (7, .pointer none), (24, .bool true)]) (w' := w57) (by kernel_rfl) ?_
      refine WR.nil ?_
      refine At.go ?_
      refine WC.condT (by kernel_rfl) (by kernel_rfl) (by kernel_rfl) ?_
      refine WC.seq (by kernel_rfl) ?_
      refine WC.reg [0] (by kernel_rfl) (by kernel_rfl) ?_
      refine WR.runk [0] [] [6] (L' := [(6, .bool false)]) (w' := w57) (by kernel_rfl) ?_
      refine WR.nil ?_
      refine At.go ?_
      refine WC.ret (by kernel_rfl) ?_
      refine At.thenRet ?_
      obtain rfl := Option.some.inj H
      have hS : Sat w57 B [gh K7, pts b2 (.cells #[.int .i64 a2] 3 (0, 0)), pts b0 (.cells #[.int .i64 p0.1, .slice A5 p0.2.1.length c6, .int .i64 p0.2.2.1, .bool p0.2.2.2.1, .int .i64 p0.2.2.2.2.1, .bool p0.2.2.2.2.2] 46 (0, 0))] := hS.sel [2, 0, 1] (by kernel_rfl)
      have hS : Sat w57 B [orw 47 (Ept O50) 1 A5 c6 p0.2.1, pts b2 (.cells #[.int .i64 a2] 3 (0, 0)), pts b0 (.cells #[.int .i64 p0.1, .slice A5 p0.2.1.length c6, .int .i64 p0.2.2.1, .bool p0.2.2.2.1, .int .i64 p0.2.2.2.2.1, .bool p0.2.2.2.2.2] 46 (0, 0))] := Sat.ungh hK8 hS
      have hS : Sat w57 B [pts b0 (.cells #[.int .i64 p0.1, .slice A5 p0.2.1.length c6, .int .i64 p0.2.2.1, .bool p0.2.2.2.1, .int .i64 p0.2.2.2.2.1, .bool p0.2.2.2.2.2] 46 (0, 0)), orw 47 (Ept O50) 1 A5 c6 p0.2.1, pts b2 (.cells #[.int .i64 a2] 3 (0, 0))] := hS.sel [2, 0, 1] (by kernel_rfl)
      have hS : Sat w57 B [O46 b0 p0, pts b2 (.cells #[.int .i64 a2] 3 (0, 0))] := O46.close p0 A5 c6 hS
      have hS : Sat w57 B [O46 b0 p0] := hS.sel [0] (by kernel_rfl)
      exact At.body [.bool false] (by kernel_rfl) ⟨_, rfl, rfl, hS⟩
  · replace H := ite_f H hb1
    refine WR.runk [7, 8, 9, 10] [11, 12, 13, 14] [0, 1, 11, 12, 15] (L' := [(0, .pointer (some ⟨b0, 0, none⟩)), (1, .int .i64 a1), (11, .bool false), (12, .int .i64 a1), (15, .pointer (some ⟨b0, 1, none⟩))]) (w' := w0) (by kernel_rfl) ?_
    obtain ⟨A59, c60, hS⟩ := O46.open hS
    have hS : Sat w0 B [pts b0 (.cells #[.int .i64 p0.1, .slice A59 p0.2.1.length c60, .int .i64 p0.2.2.1, .bool p0.2.2.2.1, .int .i64 p0.2.2.2.2.1, .bool p0.2.2.2.2.2] 46 (0, 0)), orw 47 (Ept O50) 1 A59 c60 p0.2.1] := hS
    refine WR.st (St.ofR (RSt.loadObj (t := 44) (k := 1) (v := .slice A59 p0.2.1.length c60) (.tmp 15) (by kernel_rfl) (by kernel_rfl) (by kernel_rfl) 0 hS rfl (by kernel_rfl) rfl ?_))
    refine WR.runk [12, 13, 14] [] [0, 1, 19] (L' := [(0, .pointer (some ⟨b0, 0, none⟩)), (1, .int .i64 a1), (19, .bool (decide (a1 ≥ (p0.2.1.length : Int))))]) (w' := w0) (by kernel_rfl) ?_
    refine WR.nil ?_
    refine At.go ?_
    refine WC.cond (by kernel_rfl) (decide (a1 ≥ (p0.2.1.length : Int))) (by kernel_rfl) (by kernel_rfl) (fun hb61 => ?_) (fun hb61 => ?_)
    · replace H := ite_t H hb61
      refine WC.seq (by kernel_rfl) ?_
      refine WC.reg [0] (by kernel_rfl) (by kernel_rfl) ?_
      refine WR.runk [0] [] [4] (L' := [(4, .pointer none)]) (w' := w0) (by kernel_rfl) ?_
      refine WR.nil ?_
      refine At.go ?_
      refine WC.ret (by kernel_rfl) ?_
      refine At.thenRet ?_
      refine At.bodyK [.pointer none] (.pointer none) (by kernel_rfl) rfl ?_
      refine WR.runk [3] [] [0, 2, 7] (L' := [(0, .pointer (some ⟨b0, 0, none⟩)), (2, .int .i64 a2), (7, .pointer none)]) (w' := w0) (by kernel_rfl) ?_
      refine WR.nil ?_
      refine At.go ?_
      refine WC.seq (by kernel_rfl) ?_
      refine WC.seq (by kernel_rfl) ?_
      refine WC.reg [0, 1, 2, 3, 4, 5, 6, 7] (by kernel_rfl) (by kernel_rfl) ?_
      refine WR.runk [0, 1] [2, 3, 4, 5, 6, 7] [2, 7, 14, 15] (L' := [(2, .int .i64 a2), (7, .pointer none), (14, .pointer (some ⟨b0, 0, none⟩)), (15, .int .i64 a2)]) (w' := w0) (by kernel_rfl) ?_
      refine WR.st (St.call (by kernel_rfl) (f := 17) (args := #[.pointer (some ⟨b0, 0, none⟩), .int .i64 a2]) (by kernel_rfl) (calls_of_WC (vs := [.pointer (some ⟨b0, 0, none⟩), .int .i64 a2]) Try.func17 (c := C17) (n := 31) (by kernel_rfl) (by kernel_rfl) (by kernel_rfl) ?_) (fun _ _ h => h))
      refine WC.seq (by kernel_rfl) ?_
      refine WC.reg [0, 1, 2] (by kernel_rfl) (by kernel_rfl) ?_
      refine WR.runk [] [0, 1, 2] [0, 1] (L' := [(0, .pointer (some ⟨b0, 0, none⟩)), (1, .int .i64 a2)]) (w' := w0) (by kernel_rfl) ?_
      refine WR.st (St.box hS (by kernel_rfl) (.cells #[.int .i64 a2] 3) (fun b62 => .pointer (some ⟨b62, 0, none⟩)) (fun _ => by kernel_rfl) (fun b62 w63 hS => ?_))
      refine WR.runk [1, 2] [] [0, 3] (L' := [(0, .pointer (some ⟨b0, 0, none⟩)), (3, .pointer (some ⟨b62, 0, none⟩))]) (w' := w63) (by kernel_rfl) ?_
      refine WR.nil ?_
      refine At.go ?_
      refine WC.seq (by kernel_rfl) ?_
      refine WC.seq (by kernel_rfl) ?_
      refine WC.reg [0, 1] (by kernel_rfl) (by kernel_rfl) ?_
      refine WR.runk [0, 1] [] [0, 3, 10] (L' := [(0, .pointer (some ⟨b0, 0, none⟩)), (3, .pointer (some ⟨b62, 0, none⟩)), (10, .bool false)]) (w' := w63) (by kernel_rfl) ?_
      refine WR.nil ?_
      refine At.go ?_
      refine WC.condF (by kernel_rfl) (by kernel_rfl) (by kernel_rfl) ?_
      refine WC.skip (by kernel_rfl) ?_
      refine At.go ?_
      refine WC.seq (by kernel_rfl) ?_
      refine WC.seq (by kernel_rfl) ?_
      refine WC.reg [0, 1, 2, 3, 4, 5] (by kernel_rfl) (by kernel_rfl) ?_
      refine WR.runk [0, 1, 2] [3, 4, 5] [3, 13] (L' := [(3, .pointer (some ⟨b62, 0, none⟩)), (13, .pointer (some ⟨b0, 1, none⟩))]) (w' := w63) (by kernel_rfl) ?_
      refine WR.st (St.ofR (RSt.loadObj (t := 44) (k := 1) (v := .slice A59 p0.2.1.length c60) (.tmp 13) (by kernel_rfl) (by kernel_rfl) (by kernel_rfl) 1 hS rfl (by kernel_rfl) rfl ?_))
      refine WR.runk [4, 5] [] [3, 14, 15, 16] (L' := [(3, .pointer (some ⟨b62, 0, none⟩)), (14, .slice A59 p0.2.1.length c60), (15, .int .i64 (p0.2.1.length : Int)), (16, .int .i64 0)]) (w' := w63) (by kernel_rfl) ?_
      refine WR.nil ?_
      refine At.go ?_
      refine WC.block (by kernel_rfl) ?_
      have hS : Sat w63 B [orw 47 (Ept O50) 1 A59 c60 p0.2.1, pts b62 (.cells #[.int .i64 a2] 3 (0, 0)), pts b0 (.cells #[.int .i64 p0.1, .slice A59 p0.2.1.length c60, .int .i64 p0.2.2.1, .bool p0.2.2.2.1, .int .i64 p0.2.2.2.2.1, .bool p0.2.2.2.2.2] 46 (0, 0))] := hS.sel [2, 0, 1] (by kernel_rfl)
      obtain ⟨K65, hK66, hS⟩ := Sat.gho hS
      have hS : Sat w63 B [gh K65, pts b62 (.cells #[.int .i64 a2] 3 (0, 0)), pts b0 (.cells #[.int .i64 p0.1, .slice A59 p0.2.1.length c60, .int .i64 p0.2.2.1, .bool p0.2.2.2.1, .int .i64 p0.2.2.2.2.1, .bool p0.2.2.2.2.2] 46 (0, 0))] := hS
      have R67 : rdS (rd K65 (.ptr 50 (.pair (.int .i64) (.pair (.int .i64) (.pair (.int .i64) (.slice 55 (.pair (.int .i64) .bool))))))) 1 K65 A59 c60 p0.2.1 := orw.rdS (κ := (.ptr 50 (.pair (.int .i64) (.pair (.int .i64) (.pair (.int .i64) (.slice 55 (.pair (.int .i64) .bool))))))) (Ept.rd (t := 50) (κ := (.pair (.int .i64) (.pair (.int .i64) (.pair (.int .i64) (.slice 55 (.pair (.int .i64) .bool)))))) (O := O50) O50.rd) hK66
      obtain ⟨css68, hC69⟩ := orw.named hK66
      have hS : Sat w63 B [gh K65, pts b62 (.cells #[.int .i64 a2] 3 (0, 0)), pts b0 (.cells #[.int .i64 p0.1, .slice A59 p0.2.1.length c60, .int .i64 p0.2.2.1, .bool p0.2.2.2.1, .int .i64 p0.2.2.2.2.1, .bool p0.2.2.2.2.2] 46 (0, 0))] := hS.sel [0, 1, 2] (by kernel_rfl)
      obtain ⟨o107, e108, H⟩ := bind_ex H
      refine WC.loop (by kernel_rfl) ?_
      refine WL.weaken [3, 14, 15, 16] (L' := [(3, .pointer (some ⟨b62, 0, none⟩)), (14, .slice A59 p0.2.1.length c60), (15, .int .i64 (p0.2.1.length : Int)), (16, .int .i64 0)]) (by kernel_rfl) ?_
      refine fair_Ring_Add.l3_ok B b0 p0 a2 A59 c60 b62 K65 css68 R67 hC69 o107 (fun o109 u4_q110 w111 ho112 hS C4_q110 => ?_) (fun o113 w115 ho116 hS => ?_) FU 0 _ hS e108
      · subst ho112
        dsimp only at H
        refine At.blockRet ?_
        refine At.thenRet ?_
        refine At.bodyK [u4_q110, .int .i64 o109.2] (.tuple #[u4_q110, .int .i64 o109.2]) (by kernel_rfl) rfl ?_
        refine WR.runk [3, 4, 5, 6, 7] [] [2, 7, 9] (L' := [(2, .int .i64 a2), (7, .pointer none), (9, .int .i64 o109.2)]) (w' := w111) (by kernel_rfl) ?_
        refine WR.nil ?_
        refine At.go ?_
        refine WC.seq (by kernel_rfl) ?_
        refine WC.reg [0, 1, 2, 3, 4, 5] (by kernel_rfl) (by kernel_rfl) ?_
        refine WR.runk [0, 1, 2, 3, 4, 5] [] [2, 7, 24] (L' := [(2, .int .i64 a2), (7, .pointer none), (24, .bool true)]) (w' := w111) (by kernel_rfl) ?_
        refine WR.nil ?_
        refine At.go ?_
        refine WC.condT (by kernel_rfl) (by kernel_rfl) (by kernel_rfl) ?_
        refine WC.seq (by kernel_rfl) ?_
        refine WC.reg [0] (by kernel_rfl) (by kernel_rfl) ?_
        refine WR.runk [0] [] [6] (L' := [(6, .bool false)]) (w' := w111) (by kernel_rfl) ?_
        refine WR.nil ?_
        refine At.go ?_
        refine WC.ret (by kernel_rfl) ?_
        refine At.thenRet ?_
        obtain rfl := Option.some.inj H
        have hS : Sat w111 B [orw 47 (Ept O50) 1 A59 c60 p0.2.1, pts b62 (.cells #[.int .i64 a2] 3 (0, 0)), pts b0 (.cells #[.int .i64 p0.1, .slice A59 p0.2.1.length c60, .int .i64 p0.2.2.1, .bool p0.2.2.2.1, .int .i64 p0.2.2.2.2.1, .bool p0.2.2.2.2.2] 46 (0, 0))] := Sat.ungh hK66 hS
        have hS : Sat w111 B [pts b0 (.cells #[.int .i64 p0.1, .slice A59 p0.2.1.length c60, .int .i64 p0.2.2.1, .bool p0.2.2.2.1, .int .i64 p0.2.2.2.2.1, .bool p0.2.2.2.2.2] 46 (0, 0)), orw 47 (Ept O50) 1 A59 c60 p0.2.1, pts b62 (.cells #[.int .i64 a2] 3 (0, 0))] := hS.sel [2, 0, 1] (by kernel_rfl)
        have hS : Sat w111 B [O46 b0 p0, pts b62 (.cells #[.int .i64 a2] 3 (0, 0))] := O46.close p0 A59 c60 hS
        have hS : Sat w111 B [O46 b0 p0] := hS.sel [0] (by kernel_rfl)
        exact At.body [.bool false] (by kernel_rfl) ⟨_, rfl, rfl, hS⟩
      · subst ho116
        dsimp only at H
        refine At.hit ?_
        refine At.go ?_
        refine WC.seq (by kernel_rfl) ?_
        refine WC.reg [0, 1] (by kernel_rfl) (by kernel_rfl) ?_
        refine WR.runk [0, 1] [] [4, 5] (L' := [(4, .pointer none), (5, .int .i64 (-1))]) (w' := w115) (by kernel_rfl) ?_
        refine WR.nil ?_
        refine At.go ?_
        refine WC.ret (by kernel_rfl) ?_
        refine At.bodyK [.pointer none, .int .i64 (-1)] (.tuple #[.pointer none, .int .i64 (-1)]) (by kernel_rfl) rfl ?_
        refine WR.runk [3, 4, 5, 6, 7] [] [2, 7, 9] (L' := [(2, .int .i64 a2), (7, .pointer none), (9, .int .i64 (-1))]) (w' := w115) (by kernel_rfl) ?_
        refine WR.nil ?_
        refine At.go ?_
        refine WC.seq (by kernel_rfl) ?_
        refine WC.reg [0, 1, 2, 3, 4, 5] (by kernel_rfl) (by kernel_rfl) ?_
        refine WR.runk [0, 1, 2, 3, 4, 5] [] [2, 7, 24] (L' := [(2, .int .i64 a2), (7, .pointer none), (24, .bool true)]) (w' := w115) (by kernel_rfl) ?_
        refine WR.nil ?_
        refine At.go ?_
        refine WC.condT (by kernel_rfl) (by kernel_rfl) (by kernel_rfl) ?_
        refine WC.seq (by kernel_rfl) ?_
        refine WC.reg [0] (by kernel_rfl) (by kernel_rfl) ?_
        refine WR.runk [0] [] [6] (L' := [(6, .bool false)]) (w' := w115) (by kernel_rfl) ?_
        refine WR.nil ?_
        refine At.go ?_
        refine WC.ret (by kernel_rfl) ?_
        refine At.thenRet ?_
        obtain rfl := Option.some.inj H
        have hS : Sat w115 B [gh K65, pts b62 (.cells #[.int .i64 a2] 3 (0, 0)), pts b0 (.cells #[.int .i64 p0.1, .slice A59 p0.2.1.length c60, .int .i64 p0.2.2.1, .bool p0.2.2.2.1, .int .i64 p0.2.2.2.2.1, .bool p0.2.2.2.2.2] 46 (0, 0))] := hS.sel [2, 0, 1] (by kernel_rfl)
        have hS : Sat w115 B [orw 47 (Ept O50) 1 A59 c60 p0.2.1, pts b62 (.cells #[.int .i64 a2] 3 (0, 0)), pts b0 (.cells #[.int .i64 p0.1, .slice A59 p0.2.1.length c60, .int .i64 p0.2.2.1, .bool p0.2.2.2.1, .int .i64 p0.2.2.2.2.1, .bool p0.2.2.2.2.2] 46 (0, 0))] := Sat.ungh hK66 hS
        have hS : Sat w115 B [pts b0 (.cells #[.int .i64 p0.1, .slice A59 p0.2.1.length c60, .int .i64 p0.2.2.1, .bool p0.2.2.2.1, .int .i64 p0.2.2.2.2.1, .bool p0.2.2.2.2.2] 46 (0, 0)), orw 47 (Ept O50) 1 A59 c60 p0.2.1, pts b62 (.cells #[.int .i64 a2] 3 (0, 0))] := hS.sel [2, 0, 1] (by kernel_rfl)
        have hS : Sat w115 B [O46 b0 p0, pts b62 (.cells #[.int .i64 a2] 3 (0, 0))] := O46.close p0 A59 c60 hS
        have hS : Sat w115 B [O46 b0 p0] := hS.sel [0] (by kernel_rfl)
        exact At.body [.bool false] (by kernel_rfl) ⟨_, rfl, rfl, hS⟩
    · replace H := ite_f H hb61
      refine WC.skip (by kernel_rfl) ?_
      refine At.go ?_
      refine WC.seq (by kernel_rfl) ?_
      refine WC.reg [0, 1, 2, 3, 4, 5, 6, 7] (by kernel_rfl) (by kernel_rfl) ?_
      refine WR.runk [0, 1, 2] [3, 4, 5, 6, 7] [1, 22] (L' := [(1, .int .i64 a1), (22, .pointer (some ⟨b0, 1, none⟩))]) (w' := w0) (by kernel_rfl) ?_
      refine WR.st (St.ofR (RSt.loadObj (t := 44) (k := 1) (v := .slice A59 p0.2.1.length c60) (.tmp 22) (by kernel_rfl) (by kernel_rfl) (by kernel_rfl) 0 hS rfl (by kernel_rfl) rfl ?_))
      refine WR.runk [4] [5, 6, 7] [23, 24] (L' := [(23, .slice A59 p0.2.1.length c60), (24, .int .i64 a1)]) (w' := w0) (by kernel_rfl) ?_
      have hS : Sat w0 B [orw 47 (Ept O50) 1 A59 c60 p0.2.1, pts b0 (.cells #[.int .i64 p0.1, .slice A59 p0.2.1.length c60, .int .i64 p0.2.2.1, .bool p0.2.2.2.1, .int .i64 p0.2.2.2.2.1, .bool p0.2.2.2.2.2] 46 (0, 0))] := hS.sel [1, 0] (by kernel_rfl)
      obtain ⟨K117, hK118, hS⟩ := Sat.gho hS
      have hS : Sat w0 B [gh K117, pts b0 (.cells #[.int .i64 p0.1, .slice A59 p0.2.1.length c60, .int .i64 p0.2.2.1, .bool p0.2.2.2.1, .int .i64 p0.2.2.2.2.1, .bool p0.2.2.2.2.2] 46 (0, 0))] := hS
      have R119 : rdS (rd K117 (.ptr 50 (.pair (.int .i64) (.pair (.int .i64) (.pair (.int .i64) (.slice 55 (.pair (.int .i64) .bool))))))) 1 K117 A59 c60 p0.2.1 := orw.rdS (κ := (.ptr 50 (.pair (.int .i64) (.pair (.int .i64) (.pair (.int .i64) (.slice 55 (.pair (.int .i64) .bool))))))) (Ept.rd (t := 50) (κ := (.pair (.int .i64) (.pair (.int .i64) (.pair (.int .i64) (.slice 55 (.pair (.int .i64) .bool)))))) (O := O50) O50.rd) hK118
      obtain ⟨css120, hC121⟩ := orw.named hK118
      obtain ⟨v122, e123, H⟩ := bind_ex H
      refine WR.st (St.ofP (PSt.idx (k := .i64) (.tmp 23) (.tmp 24) (by kernel_rfl) (by kernel_rfl) E44 (by kernel_rfl) (by kernel_rfl) (rdS.upd R119 (Sat.ghAt 0 hS rfl)) e123 ?_))
      refine WR.runk [] [6, 7] [25] (L' := [(25, .pointer (some (adr A59 a1.toNat 1)))]) (w' := w0) (by kernel_rfl) ?_
      refine WR.st (St.ofR (RSt.loadRow (t := 47) (κ := (.ptr 50 (.pair (.int .i64) (.pair (.int .i64) (.pair (.int .i64) (.slice 55 (.pair (.int .i64) .bool))))))) (Ept.rd (t := 50) (κ := (.pair (.int .i64) (.pair (.int .i64) (.pair (.int .i64) (.slice 55 (.pair (.int .i64) .bool)))))) (O := O50) O50.rd) (.tmp 25) (by kernel_rfl) (by kernel_rfl) (by kernel_rfl) (by kernel_rfl) hC121 e123 (Sat.ghAt 0 hS rfl) (fun u124 C125 R126 => ?_)))
      replace R126 : rd K117 (.ptr 50 (.pair (.int .i64) (.pair (.int .i64) (.pair (.int .i64) (.slice 55 (.pair (.int .i64) .bool)))))) [u124] v122 := R126
      replace C125 : css120[a1.toNat]? = some [u124] := C125
      refine WR.runk [7] [] [4] (L' := [(4, u124)]) (w' := w0) (by kernel_rfl) ?_
      refine WR.nil ?_
      refine At.go ?_
      refine WC.ret (by kernel_rfl) ?_
      refine At.bodyK [u124] (u124) (by kernel_rfl) rfl ?_
      refine WR.runk [3] [] [0, 2, 7] (L' := [(0, .pointer (some ⟨b0, 0, none⟩)), (2, .int .i64 a2), (7, u124)]) (w' := w0) (by kernel_rfl) ?_
      refine WR.nil ?_
      refine At.go ?_
      refine WC.seq (by kernel_rfl) ?_
      refine WC.seq (by kernel_rfl) ?_
      refine WC.reg [0, 1, 2, 3, 4, 5, 6, 7] (by kernel_rfl) (by kernel_rfl) ?_
      refine WR.runk [0, 1] [2, 3, 4, 5, 6, 7] [2, 7, 14, 15] (L' := [(2, .int .i64 a2), (7, u124), (14, .pointer (some ⟨b0, 0, none⟩)), (15, .int .i64 a2)]) (w' := w0) (by kernel_rfl) ?_
      refine WR.st (St.call (by kernel_rfl) (f := 17) (args := #[.pointer (some ⟨b0, 0, none⟩), .int .i64 a2]) (by kernel_rfl) (calls_of_WC (vs := [.pointer (some ⟨b0, 0, none⟩), .int .i64 a2]) Try.func17 (c := C17) (n := 31) (by kernel_rfl) (by kernel_rfl) (by kernel_rfl) ?_) (fun _ _ h => h))
      refine WC.seq (by kernel_rfl) ?_
      refine WC.reg [0, 1, 2] (by kernel_rfl) (by kernel_rfl) ?_
      refine WR.runk [] [0, 1, 2] [0, 1] (L' := [(0, .pointer (some ⟨b0, 0, none⟩)), (1, .int .i64 a2)]) (w' := w0) (by kernel_rfl) ?_
      refine WR.st (St.box hS (by kernel_rfl) (.cells #[.int .i64 a2] 3) (fun b127 => .pointer (some ⟨b127, 0, none⟩)) (fun _ => by kernel_rfl) (fun b127 w128 hS => ?_))
      refine WR.runk [1, 2] [] [0, 3] (L' := [(0, .pointer (some ⟨b0, 0, none⟩)), (3, .pointer (some ⟨b127, 0, none⟩))]) (w' := w128) (by kernel_rfl) ?_
      refine WR.nil ?_
      refine At.go ?_
      refine WC.seq (by kernel_rfl) ?_
      refine WC.seq (by kernel_rfl) ?_
      refine WC.reg [0, 1] (by kernel_rfl) (by kernel_rfl) ?_
      refine WR.runk [0, 1] [] [0, 3, 10] (L' := [(0, .pointer (some ⟨b0, 0, none⟩)), (3, .pointer (some ⟨b127, 0, none⟩)), (10, .bool false)]) (w' := w128) (by kernel_rfl) ?_
      refine WR.nil ?_
      refine At.go ?_
      refine WC.condF (by kernel_rfl) (by kernel_rfl) (by kernel_rfl) ?_
      refine WC.skip (by kernel_rfl) ?_
      refine At.go ?_
      refine WC.seq (by kernel_rfl) ?_
      refine WC.seq (by kernel_rfl) ?_
      refine WC.reg [0, 1, 2, 3, 4, 5] (by kernel_rfl) (by kernel_rfl) ?_
      refine WR.runk [0, 1, 2] [3, 4, 5] [3, 13] (L' := [(3, .pointer (some ⟨b127, 0, none⟩)), (13, .pointer (some ⟨b0, 1, none⟩))]) (w' := w128) (by kernel_rfl) ?_
      refine WR.st (St.ofR (RSt.loadObj (t := 44) (k := 1) (v := .slice A59 p0.2.1.length c60) (.tmp 13) (by kernel_rfl) (by kernel_rfl) (by kernel_rfl) 2 hS rfl (by kernel_rfl) rfl ?_))
      refine WR.runk [4, 5] [] [3, 14, 15, 16] (L' := [(3, .pointer (some ⟨b127, 0, none⟩)), (14, .slice A59 p0.2.1.length c60), (15, .int .i64 (p0.2.1.length : Int)), (16, .int .i64 0)]) (w' := w128) (by kernel_rfl) ?_
      refine WR.nil ?_
      refine At.go ?_
      refine WC.block (by kernel_rfl) ?_
      have hS : Sat w128 B [gh K117, pts b127 (.cells #[.int .i64 a2] 3 (0, 0)), pts b0 (.cells #[.int .i64 p0.1, .slice A59 p0.2.1.length c60, .int .i64 p0.2.2.1, .bool p0.2.2.2.1, .int .i64 p0.2.2.2.2.1, .bool p0.2.2.2.2.2] 46 (0, 0))] := hS.sel [1, 0, 2] (by kernel_rfl)
      obtain ⟨o167, e168, H⟩ := bind_ex H
      refine WC.loop (by kernel_rfl) ?_
      refine WL.weaken [3, 14, 15, 16] (L' := [(3, .pointer (some ⟨b127, 0, none⟩)), (14, .slice A59 p0.2.1.length c60), (15, .int .i64 (p0.2.1.length : Int)), (16, .int .i64 0)]) (by kernel_rfl) ?_
      refine fair_Ring_Add.l5_ok B b0 p0 a2 A59 c60 K117 css120 b127 R119 hC121 o167 (fun o169 u4_q170 w171 ho172 hS C4_q170 => ?_) (fun o199 w201 ho202 hS => ?_) FU 0 _ hS e168
      · subst ho172
        dsimp only at H
        refine At.blockRet ?_
        refine At.thenRet ?_
        refine At.bodyK [u4_q170, .int .i64 o169.2] (.tuple #[u4_q170, .int .i64 o169.2]) (by kernel_rfl) rfl ?_
        refine WR.runk [3, 4, 5, 6, 7] [] [2, 7, 9] (L' := [(2, .int .i64 a2), (7, u124), (9, .int .i64 o169.2)]) (w' := w171) (by kernel_rfl) ?_
        refine WR.nil ?_
        refine At.go ?_
        refine WC.seq (by kernel_rfl) ?_
        refine WC.reg [0, 1, 2, 3, 4, 5] (by kernel_rfl) (by kernel_rfl) ?_
        refine WR.runk [0] [1, 2, 3, 4, 5] [2, 7, 9, 19] (L' := [(2, .int .i64 a2), (7, u124), (9, .int .i64 o169.2), (19, u124)]) (w' := w171) (by kernel_rfl) ?_
        rcases opt_cases v122 with hr173 | ⟨y175, hr173⟩
        · rw [hr173] at H
          dsimp only at H
          have hx174 := rd_ptr_none R126 hr173
          try subst hx174
          refine WR.runk [1, 2, 3, 4, 5] [] [2, 7, 24] (L' := [(2, .int .i64 a2), (7, .pointer none), (24, .bool true)]) (w' := w171) (by kernel_rfl) ?_
          refine WR.nil ?_
          refine At.go ?_
          refine WC.condT (by kernel_rfl) (by kernel_rfl) (by kernel_rfl) ?_
          refine WC.seq (by kernel_rfl) ?_
          refine WC.reg [0] (by kernel_rfl) (by kernel_rfl) ?_
          refine WR.runk [0] [] [6] (L' := [(6, .bool false)]) (w' := w171) (by kernel_rfl) ?_
          refine WR.nil ?_
          refine At.go ?_
          refine WC.ret (by kernel_rfl) ?_
          refine At.thenRet ?_
          obtain rfl := Option.some.inj H
          have hS : Sat w171 B [orw 47 (Ept O50) 1 A59 c60 p0.2.1, pts b127 (.cells #[.int .i64 a2] 3 (0, 0)), pts b0 (.cells #[.int .i64 p0.1, .slice A59 p0.2.1.length c60, .int .i64 p0.2.2.1, .bool p0.2.2.2.1, .int .i64 p0.2.2.2.2.1, .bool p0.2.2.2.2.2] 46 (0, 0))] := Sat.ungh hK118 hS
          have hS : Sat w171 B [pts b0 (.cells #[.int .i64 p0.1, .slice A59 p0.2.1.length c60, .int .i64 p0.2.2.1, .bool p0.2.2.2.1, .int .i64 p0.2.2.2.2.1, .bool p0.2.2.2.2.2] 46 (0, 0)), orw 47 (Ept O50) 1 A59 c60 p0.2.1, pts b127 (.cells #[.int .i64 a2] 3 (0, 0))] := hS.sel [2, 0, 1] (by kernel_rfl)
          have hS : Sat w171 B [O46 b0 p0, pts b127 (.cells #[.int .i64 a2] 3 (0, 0))] := O46.close p0 A59 c60 hS
          have hS : Sat w171 B [O46 b0 p0] := hS.sel [0] (by kernel_rfl)
          exact At.body [.bool false] (by kernel_rfl) ⟨_, rfl, rfl, hS⟩
        · rw [hr173] at H
          dsimp only at H
          obtain ⟨b176, fr177, A181, c182, hv178, hb179, R183⟩ := P50.open R126 hr173
          have R180 := R126
          rw [hv178, hr173] at R180
          have C184 : css120[a1.toNat]? = some [.pointer (some ⟨b176, 0, none⟩)] := by rw [← hv178]; exact C125
          try subst hv178
          replace R183 : rdS (r0 (.pair (.int .i64) .bool)) 2 K117 A181 c182 y175.2.2.2 := R183
          refine WR.runk [1, 2, 3, 4, 5] [] [2, 7, 24] (L' := [(2, .int .i64 a2), (7, .pointer (some ⟨b176, 0, none⟩)), (24, .bool (decide (o169.2 ≥ 0)))]) (w' := w171) (by kernel_rfl) ?_
          refine WR.nil ?_
          refine At.go ?_
          refine WC.cond (by kernel_rfl) (decide (o169.2 ≥ 0)) (by kernel_rfl) (by kernel_rfl) (fun hb185 => ?_) (fun hb185 => ?_)
          · replace H := ite_t H hb185
            refine WC.seq (by kernel_rfl) ?_
            refine WC.reg [0] (by kernel_rfl) (by kernel_rfl) ?_
            refine WR.runk [0] [] [6] (L' := [(6, .bool false)]) (w' := w171) (by kernel_rfl) ?_
            refine WR.nil ?_
            refine At.go ?_
            refine WC.ret (by kernel_rfl) ?_
            refine At.thenRet ?_
            obtain rfl := Option.some.inj H
            have hS : Sat w171 B [orw 47 (Ept O50) 1 A59 c60 p0.2.1, pts b127 (.cells #[.int .i64 a2] 3 (0, 0)), pts b0 (.cells #[.int .i64 p0.1, .slice A59 p0.2.1.length c60, .int .i64 p0.2.2.1, .bool p0.2.2.2.1, .int .i64 p0.2.2.2.2.1, .bool p0.2.2.2.2.2] 46 (0, 0))] := Sat.ungh hK118 hS
            have hS : Sat w171 B [pts b0 (.cells #[.int .i64 p0.1, .slice A59 p0.2.1.length c60, .int .i64 p0.2.2.1, .bool p0.2.2.2.1, .int .i64 p0.2.2.2.2.1, .bool p0.2.2.2.2.2] 46 (0, 0)), orw 47 (Ept O50) 1 A59 c60 p0.2.1, pts b127 (.cells #[.int .i64 a2] 3 (0, 0))] := hS.sel [2, 0, 1] (by kernel_rfl)
            have hS : Sat w171 B [O46 b0 p0, pts b127 (.cells #[.int .i64 a2] 3 (0, 0))] := O46.close p0 A59 c60 hS
            have hS : Sat w171 B [O46 b0 p0] := hS.sel [0] (by kernel_rfl)
            exact At.body [.bool false] (by kernel_rfl) ⟨_, rfl, rfl, hS⟩
          · replace H := ite_f H hb185
            refine WC.skip (by kernel_rfl) ?_
            refine At.go ?_
            refine WC.seq (by kernel_rfl) ?_
            refine WC.reg [0, 1, 2, 3, 4, 5, 6, 7, 8, 9, 10, 11] (by kernel_rfl) (by kernel_rfl) ?_
            refine WR.runk [0, 1, 2, 3] [4, 5, 6, 7, 8, 9, 10, 11] [2, 25, 28] (L' := [(2, .int .i64 a2), (25, .pointer (some ⟨b176, 0, none⟩)), (28, .pointer (some ⟨b176, 3, none⟩))]) (w' := w171) (by kernel_rfl) ?_
            have hS : Sat w171 B [orh 47 (Ept O50) 1 A59 c60 css120 a1.toNat p0.2.1, O50 b176 y175, pts b127 (.cells #[.int .i64 a2] 3 (0, 0)), pts b0 (.cells #[.int .i64 p0.1, .slice A59 p0.2.1.length c60, .int .i64 p0.2.2.1, .bool p0.2.2.2.1, .int .i64 p0.2.2.2.2.1, .bool p0.2.2.2.2.2] 46 (0, 0))] := Sat.focusP hC121 hS C184 ((at?_idx e123).trans (by rw [hr173]))
            have hS : Sat w171 B [O50 b176 y175, orh 47 (Ept O50) 1 A59 c60 css120 a1.toNat p0.2.1, pts b127 (.cells #[.int .i64 a2] 3 (0, 0)), pts b0 (.cells #[.int .i64 p0.1, .slice A59 p0.2.1.length c60, .int .i64 p0.2.2.1, .bool p0.2.2.2.1, .int .i64 p0.2.2.2.2.1, .bool p0.2.2.2.2.2] 46 (0, 0))] := hS.sel [1, 0, 2, 3] (by kernel_rfl)
            obtain ⟨A187, c188, hS⟩ := O50.open hS
            have hS : Sat w171 B [pts b176 (.cells #[.int .i64 y175.1, .int .i64 y175.2.1, .int .i64 y175.2.2.1, .slice A187 y175.2.2.2.length c188] 50 (0, 0)), osl 55 (r0 (.pair (.int .i64) .bool)) 2 A187 c188 y175.2.2.2, orh 47 (Ept O50) 1 A59 c60 css120 a1.toNat p0.2.1, pts b127 (.cells #[.int .i64 a2] 3 (0, 0)), pts b0 (.cells #[.int .i64 p0.1, .slice A59 p0.2.1.length c60, .int .i64 p0.2.2.1, .bool p0.2.2.2.1, .int .i64 p0.2.2.2.2.1, .bool p0.2.2.2.2.2] 46 (0, 0))] := hS
            refine WR.st (St.ofR (RSt.loadObj (t := 48) (k := 3) (v := .slice A187 y175.2.2.2.length c188) (.tmp 28) (by kernel_rfl) (by kernel_rfl) (by kernel_rfl) 0 hS rfl (by kernel_rfl) rfl ?_))
            refine WR.runk [5, 6] [7, 8, 9, 10, 11] [25, 29, 31] (L' := [(25, .pointer (some ⟨b176, 0, none⟩)), (29, .slice A187 y175.2.2.2.length c188), (31, .agg #[.int .i64 a2, .bool false])]) (w' := w171) (by kernel_rfl) ?_
            refine WR.st (St.box hS (by kernel_rfl) (.cells #[.int .i64 a2, .bool false] 55) (fun b189 => .slice (some ⟨b189, 0, none⟩) 1 1) (fun _ => by kernel_rfl) (fun b189 w190 hS => ?_))
            refine WR.runk [] [8, 9, 10, 11] [25, 29, 32] (L' := [(25, .pointer (some ⟨b176, 0, none⟩)), (29, .slice A187 y175.2.2.2.length c188), (32, .slice (some ⟨b189, 0, none⟩) 1 1)]) (w' := w190) (by kernel_rfl) ?_
            have hS : Sat w190 B [osl 55 (r0 (.pair (.int .i64) .bool)) 2 A187 c188 y175.2.2.2, pts b189 (.cells #[.int .i64 a2, .bool false] 55 (0, 0)), pts b176 (.cells #[.int .i64 y175.1, .int .i64 y175.2.1, .int .i64 y175.2.2.1, .slice A187 y175.2.2.2.length c188] 50 (0, 0)), orh 47 (Ept O50) 1 A59 c60 css120 a1.toNat p0.2.1, pts b127 (.cells #[.int .i64 a2] 3 (0, 0)), pts b0 (.cells #[.int .i64 p0.1, .slice A59 p0.2.1.length c60, .int .i64 p0.2.2.1, .bool p0.2.2.2.1, .int .i64 p0.2.2.2.2.1, .bool p0.2.2.2.2.2] 46 (0, 0))] := hS.sel [2, 0, 1, 3, 4, 5] (by kernel_rfl)
            obtain ⟨y192, e191, H⟩ := bind_ex H
            refine WR.st (St.append' (.tmp 29) (.tmp 32) (by kernel_rfl) (by kernel_rfl) E48 (r0_one _) hS (by kernel_rfl) (by kernel_rfl) (Sat.ptsAt 1 (r0 (.pair (.int .i64) .bool)) 2 ([(a2, false)] : List (Int × Bool)) hS rfl rfl (rdL.consN [.int .i64 a2, .bool false] rfl ⟨[.int .i64 a2], [.bool false], rfl, rfl, rfl, rfl⟩ (rdL.nil _ _))) 8796093022208 (by kernel_rfl) (by kernel_rfl) e191 (fun A193 c194 w195 hS => ?_))
            refine WR.runk [9, 10] [11] [33, 35] (L' := [(33, .slice A193 y192.length c194), (35, .pointer (some ⟨b176, 3, none⟩))]) (w' := w195) (by kernel_rfl) ?_
            have hS : Sat w195 B [pts b176 (.cells #[.int .i64 y175.1, .int .i64 y175.2.1, .int .i64 y175.2.2.1, .slice A187 y175.2.2.2.length c188] 50 (0, 0)), osl 55 (r0 (.pair (.int .i64) .bool)) 2 A193 c194 y192, pts b189 (.cells #[.int .i64 a2, .bool false] 55 (0, 0)), orh 47 (Ept O50) 1 A59 c60 css120 a1.toNat p0.2.1, pts b127 (.cells #[.int .i64 a2] 3 (0, 0)), pts b0 (.cells #[.int .i64 p0.1, .slice A59 p0.2.1.length c60, .int .i64 p0.2.2.1, .bool p0.2.2.2.1, .int .i64 p0.2.2.2.2.1, .bool p0.2.2.2.2.2] 46 (0, 0))] := hS.sel [2, 0, 1, 3, 4, 5] (by kernel_rfl)
            refine WR.st (St.storeObj (t := 48) (k := 3) (cur' := #[.int .i64 y175.1, .int .i64 y175.2.1, .int .i64 y175.2.2.1, .slice A193 y192.length c194]) (.tmp 35) (.tmp 33) (by kernel_rfl) (by kernel_rfl) (by kernel_rfl) hS (by kernel_rfl) (by kernel_rfl) (by kernel_rfl) rfl rfl (fun w196 hS => ?_))
            refine WR.runk [] [] [] (L' := []) (w' := w196) (by kernel_rfl) ?_
            refine WR.nil ?_
            refine At.go ?_
            refine WC.seq (by kernel_rfl) ?_
            refine WC.reg [0] (by kernel_rfl) (by kernel_rfl) ?_
            refine WR.runk [0] [] [6] (L' := [(6, .bool true)]) (w' := w196) (by kernel_rfl) ?_
            refine WR.nil ?_
            refine At.go ?_
            refine WC.ret (by kernel_rfl) ?_
            obtain rfl := Option.some.inj H
            have hS : Sat w196 B [pts b176 (.cells #[.int .i64 y175.1, .int .i64 y175.2.1, .int .i64 y175.2.2.1, .slice A193 y192.length c194] 50 (0, 0)), osl 55 (r0 (.pair (.int .i64) .bool)) 2 A193 c194 y192, pts b189 (.cells #[.int .i64 a2, .bool false] 55 (0, 0)), orh 47 (Ept O50) 1 A59 c60 css120 a1.toNat p0.2.1, pts b127 (.cells #[.int .i64 a2] 3 (0, 0)), pts b0 (.cells #[.int .i64 p0.1, .slice A59 p0.2.1.length c60, .int .i64 p0.2.2.1, .bool p0.2.2.2.1, .int .i64 p0.2.2.2.2.1, .bool p0.2.2.2.2.2] 46 (0, 0))] := hS.sel [0, 1, 2, 3, 4, 5] (by kernel_rfl)
            have hS : Sat w196 B [O50 b176 (y175.1, y175.2.1, y175.2.2.1, y192), pts b189 (.cells #[.int .i64 a2, .bool false] 55 (0, 0)), orh 47 (Ept O50) 1 A59 c60 css120 a1.toNat p0.2.1, pts b127 (.cells #[.int .i64 a2] 3 (0, 0)), pts b0 (.cells #[.int .i64 p0.1, .slice A59 p0.2.1.length c60, .int .i64 p0.2.2.1, .bool p0.2.2.2.1, .int .i64 p0.2.2.2.2.1, .bool p0.2.2.2.2.2] 46 (0, 0))] := O50.close (y175.1, y175.2.1, y175.2.2.1, y192) A193 c194 hS
            have hS : Sat w196 B [orh 47 (Ept O50) 1 A59 c60 css120 a1.toNat p0.2.1, O50 b176 (y175.1, y175.2.1, y175.2.2.1, y192), pts b189 (.cells #[.int .i64 a2, .bool false] 55 (0, 0)), pts b127 (.cells #[.int .i64 a2] 3 (0, 0)), pts b0 (.cells #[.int .i64 p0.1, .slice A59 p0.2.1.length c60, .int .i64 p0.2.2.1, .bool p0.2.2.2.1, .int .i64 p0.2.2.2.2.1, .bool p0.2.2.2.2.2] 46 (0, 0))] := hS.sel [2, 0, 1, 3, 4] (by kernel_rfl)
            have hS : Sat w196 B [orw 47 (Ept O50) 1 A59 c60 (List.set p0.2.1 a1.toNat (some (y175.1, y175.2.1, y175.2.2.1, y192))), pts b189 (.cells #[.int .i64 a2, .bool false] 55 (0, 0)), pts b127 (.cells #[.int .i64 a2] 3 (0, 0)), pts b0 (.cells #[.int .i64 p0.1, .slice A59 p0.2.1.length c60, .int .i64 p0.2.2.1, .bool p0.2.2.2.1, .int .i64 p0.2.2.2.2.1, .bool p0.2.2.2.2.2] 46 (0, 0))] := Sat.fillP hS C184
            have hl198 : List.length (List.set p0.2.1 a1.toNat (some (y175.1, y175.2.1, y175.2.2.1, y192))) = List.length p0.2.1 := List.length_set
            have hS : Sat w196 B [orw 47 (Ept O50) 1 A59 c60 (List.set p0.2.1 a1.toNat (some (y175.1, y175.2.1, y175.2.2.1, y192))), pts b189 (.cells #[.int .i64 a2, .bool false] 55 (0, 0)), pts b127 (.cells #[.int .i64 a2] 3 (0, 0)), pts b0 (.cells #[.int .i64 p0.1, .slice A59 (List.set p0.2.1 a1.toNat (some (y175.1, y175.2.1, y175.2.2.1, y192))).length c60, .int .i64 p0.2.2.1, .bool p0.2.2.2.1, .int .i64 p0.2.2.2.2.1, .bool p0.2.2.2.2.2] 46 (0, 0))] := by simpa only [hl198] using hS
            have hS : Sat w196 B [pts b0 (.cells #[.int .i64 p0.1, .slice A59 (List.set p0.2.1 a1.toNat (some (y175.1, y175.2.1, y175.2.2.1, y192))).length c60, .int .i64 p0.2.2.1, .bool p0.2.2.2.1, .int .i64 p0.2.2.2.2.1, .bool p0.2.2.2.2.2] 46 (0, 0)), orw 47 (Ept O50) 1 A59 c60 (List.set p0.2.1 a1.toNat (some (y175.1, y175.2.1, y175.2.2.1, y192))), pts b189 (.cells #[.int .i64 a2, .bool false] 55 (0, 0)), pts b127 (.cells #[.int .i64 a2] 3 (0, 0))] := hS.sel [3, 0, 1, 2] (by kernel_rfl)
            have hS : Sat w196 B [O46 b0 (p0.1, (List.set p0.2.1 a1.toNat (some (y175.1, y175.2.1, y175.2.2.1, y192))), p0.2.2.1, p0.2.2.2.1, p0.2.2.2.2.1, p0.2.2.2.2.2), pts b189 (.cells #[.int .i64 a2, .bool false] 55 (0, 0)), pts b127 (.cells #[.int .i64 a2] 3 (0, 0))] := O46.close (p0.1, (List.set p0.2.1 a1.toNat (some (y175.1, y175.2.1, y175.2.2.1, y192))), p0.2.2.1, p0.2.2.2.1, p0.2.2.2.2.1, p0.2.2.2.2.2) A59 c60 hS
            have hS : Sat w196 B [O46 b0 (p0.1, (List.set p0.2.1 a1.toNat (some (y175.1, y175.2.1, y175.2.2.1, y192))), p0.2.2.1, p0.2.2.2.1, p0.2.2.2.2.1, p0.2.2.2.2.2)] := hS.sel [0] (by kernel_rfl)
            exact At.body [.bool true] (by kernel_rfl) ⟨_, rfl, rfl, hS⟩
      · subst ho202
        dsimp only at H
        refine At.hit ?_
        refine At.go ?_
        refine WC.seq (by kernel_rfl) ?_
        refine WC.reg [0, 1] (by kernel_rfl) (by kernel_rfl) ?_
        refine WR.runk [0, 1] [] [4, 5] (L' := [(4, .pointer none), (5, .int .i64 (-1))]) (w' := w201) (by kernel_rfl) ?_
        refine WR.nil ?_
        refine At.go ?_
        refine WC.ret (by kernel_rfl) ?_
        refine At.bodyK [.pointer none, .int .i64 (-1)] (.tuple #[.pointer none, .int .i64 (-1)]) (by kernel_rfl) rfl ?_
        refine WR.runk [3, 4, 5, 6, 7] [] [2, 7, 9] (L' := [(2, .int .i64 a2), (7, u124), (9, .int .i64 (-1))]) (w' := w201) (by kernel_rfl) ?_
        refine WR.nil ?_
        refine At.go ?_
        refine WC.seq (by kernel_rfl) ?_
        refine WC.reg [0, 1, 2, 3, 4, 5] (by kernel_rfl) (by kernel_rfl) ?_
        refine WR.runk [0] [1, 2, 3, 4, 5] [2, 7, 9, 19] (L' := [(2, .int .i64 a2), (7, u124), (9, .int .i64 (-1)), (19, u124)]) (w' := w201) (by kernel_rfl) ?_
        rcases opt_cases v122 with hr203 | ⟨y205, hr203⟩
        · rw [hr203] at H
          dsimp only at H
          have hx204 := rd_ptr_none R126 hr203
          try subst hx204
          refine WR.runk [1, 2, 3, 4, 5] [] [2, 7, 24] (L' := [(2, .int .i64 a2), (7, .pointer none), (24, .bool true)]) (w' := w201) (by kernel_rfl) ?_
          refine WR.nil ?_
          refine At.go ?_
          refine WC.condT (by kernel_rfl) (by kernel_rfl) (by kernel_rfl) ?_
          refine WC.seq (by kernel_rfl) ?_
          refine WC.reg [0] (by kernel_rfl) (by kernel_rfl) ?_
          refine WR.runk [0] [] [6] (L' := [(6, .bool false)]) (w' := w201) (by kernel_rfl) ?_
          refine WR.nil ?_
          refine At.go ?_
          refine WC.ret (by kernel_rfl) ?_
          refine At.thenRet ?_
          obtain rfl := Option.some.inj H
          have hS : Sat w201 B [gh K117, pts b127 (.cells #[.int .i64 a2] 3 (0, 0)), pts b0 (.cells #[.int .i64 p0.1, .slice A59 p0.2.1.length c60, .int .i64 p0.2.2.1, .bool p0.2.2.2.1, .int .i64 p0.2.2.2.2.1, .bool p0.2.2.2.2.2] 46 (0, 0))] := hS.sel [2, 0, 1] (by kernel_rfl)
          have hS : Sat w201 B [orw 47 (Ept O50) 1 A59 c60 p0.2.1, pts b127 (.cells #[.int .i64 a2] 3 (0, 0)), pts b0 (.cells #[.int .i64 p0.1, .slice A59 p0.2.1.length c60, .int .i64 p0.2.2.1, .bool p0.2.2.2.1, .int .i64 p0.2.2.2.2.1, .bool p0.2.2.2.2.2] 46 (0, 0))] := Sat.ungh hK118 hS
          have hS : Sat w201 B [pts b0 (.cells #[.int .i64 p0.1, .slice A59 p0.2.1.length c60, .int .i64 p0.2.2.1, .bool p0.2.2.2.1, .int .i64 p0.2.2.2.2.1, .bool p0.2.2.2.2.2] 46 (0, 0)), orw 47 (Ept O50) 1 A59 c60 p0.2.1, pts b127 (.cells #[.int .i64 a2] 3 (0, 0))] := hS.sel [2, 0, 1] (by kernel_rfl)
          have hS : Sat w201 B [O46 b0 p0, pts b127 (.cells #[.int .i64 a2] 3 (0, 0))] := O46.close p0 A59 c60 hS
          have hS : Sat w201 B [O46 b0 p0] := hS.sel [0] (by kernel_rfl)
          exact At.body [.bool false] (by kernel_rfl) ⟨_, rfl, rfl, hS⟩
        · rw [hr203] at H
          dsimp only at H
          obtain ⟨b206, fr207, A211, c212, hv208, hb209, R213⟩ := P50.open R126 hr203
          have R210 := R126
          rw [hv208, hr203] at R210
          have C214 : css120[a1.toNat]? = some [.pointer (some ⟨b206, 0, none⟩)] := by rw [← hv208]; exact C125
          try subst hv208
          replace R213 : rdS (r0 (.pair (.int .i64) .bool)) 2 K117 A211 c212 y205.2.2.2 := R213
          refine WR.runk [1, 2, 3, 4, 5] [] [2, 7, 24] (L' := [(2, .int .i64 a2), (7, .pointer (some ⟨b206, 0, none⟩)), (24, .bool (decide ((-1) ≥ 0)))]) (w' := w201) (by kernel_rfl) ?_
          refine WR.nil ?_
          refine At.go ?_
          refine WC.cond (by kernel_rfl) (decide ((-1) ≥ 0)) (by kernel_rfl) (by kernel_rfl) (fun hb215 => ?_) (fun hb215 => ?_)
          · replace H := ite_t H hb215
            refine WC.seq (by kernel_rfl) ?_
            refine WC.reg [0] (by kernel_rfl) (by kernel_rfl) ?_
            refine WR.runk [0] [] [6] (L' := [(6, .bool false)]) (w' := w201) (by kernel_rfl) ?_
            refine WR.nil ?_
            refine At.go ?_
            refine WC.ret (by kernel_rfl) ?_
            refine At.thenRet ?_
            obtain rfl := Option.some.inj H
            have hS : Sat w201 B [gh K117, pts b127 (.cells #[.int .i64 a2] 3 (0, 0)), pts b0 (.cells #[.int .i64 p0.1, .slice A59 p0.2.1.length c60, .int .i64 p0.2.2.1, .bool p0.2.2.2.1, .int .i64 p0.2.2.2.2.1, .bool p0.2.2.2.2.2] 46 (0, 0))] := hS.sel [2, 0, 1] (by kernel_rfl)
            have hS : Sat w201 B [orw 47 (Ept O50) 1 A59 c60 p0.2.1, pts b127 (.cells #[.int .i64 a2] 3 (0, 0)), pts b0 (.cells #[.int .i64 p0.1, .slice A59 p0.2.1.length c60, .int .i64 p0.2.2.1, .bool p0.2.2.2.1, .int .i64 p0.2.2.2.2.1, .bool p0.2.2.2.2.2] 46 (0, 0))] := Sat.ungh hK118 hS
            have hS : Sat w201 B [pts b0 (.cells #[.int .i64 p0.1, .slice A59 p0.2.1.length c60, .int .i64 p0.2.2.1, .bool p0.2.2.2.1, .int .i64 p0.2.2.2.2.1, .bool p0.2.2.2.2.2] 46 (0, 0)), orw 47 (Ept O50) 1 A59 c60 p0.2.1, pts b127 (.cells #[.int .i64 a2] 3 (0, 0))] := hS.sel [2, 0, 1] (by kernel_rfl)
            have hS : Sat w201 B [O46 b0 p0, pts b127 (.cells #[.int .i64 a2] 3 (0, 0))] := O46.close p0 A59 c60 hS
            have hS : Sat w201 B [O46 b0 p0] := hS.sel [0] (by kernel_rfl)
            exact At.body [.bool false] (by kernel_rfl) ⟨_, rfl, rfl, hS⟩
          · replace H := ite_f H hb215
            refine WC.skip (by kernel_rfl) ?_
            refine At.go ?_
            refine WC.seq (by kernel_rfl) ?_
            refine WC.reg [0, 1, 2, 3, 4, 5, 6, 7, 8, 9, 10, 11] (by kernel_rfl) (by kernel_rfl) ?_
            refine WR.runk [0, 1, 2, 3] [4, 5, 6, 7, 8, 9, 10, 11] [2, 25, 28] (L' := [(2, .int .i64 a2), (25, .pointer (some ⟨b206, 0, none⟩)), (28, .pointer (some ⟨b206, 3, none⟩))]) (w' := w201) (by kernel_rfl) ?_
            have hS : Sat w201 B [gh K117, pts b127 (.cells #[.int .i64 a2] 3 (0, 0)), pts b0 (.cells #[.int .i64 p0.1, .slice A59 p0.2.1.length c60, .int .i64 p0.2.2.1, .bool p0.2.2.2.1, .int .i64 p0.2.2.2.2.1, .bool p0.2.2.2.2.2] 46 (0, 0))] := hS.sel [2, 0, 1] (by kernel_rfl)
            have hS : Sat w201 B [orh 47 (Ept O50) 1 A59 c60 css120 a1.toNat p0.2.1, O50 b206 y205, pts b127 (.cells #[.int .i64 a2] 3 (0, 0)), pts b0 (.cells #[.int .i64 p0.1, .slice A59 p0.2.1.length c60, .int .i64 p0.2.2.1, .bool p0.2.2.2.1, .int .i64 p0.2.2.2.2.1, .bool p0.2.2.2.2.2] 46 (0, 0))] := Sat.focusP hC121 hS C214 ((at?_idx e123).trans (by rw [hr203]))
            have hS : Sat w201 B [O50 b206 y205, orh 47 (Ept O50) 1 A59 c60 css120 a1.toNat p0.2.1, pts b127 (.cells #[.int .i64 a2] 3 (0, 0)), pts b0 (.cells #[.int .i64 p0.1, .slice A59 p0.2.1.length c60, .int .i64 p0.2.2.1, .bool p0.2.2.2.1, .int .i64 p0.2.2.2.2.1, .bool p0.2.2.2.2.2] 46 (0, 0))] := hS.sel [1, 0, 2, 3] (by kernel_rfl)
            obtain ⟨A217, c218, hS⟩ := O50.open hS
            have hS : Sat w201 B [pts b206 (.cells #[.int .i64 y205.1, .int .i64 y205.2.1, .int .i64 y205.2.2.1, .slice A217 y205.2.2.2.length c218] 50 (0, 0)), osl 55 (r0 (.pair (.int .i64) .bool)) 2 A217 c218 y205.2.2.2, orh 47 (Ept O50) 1 A59 c60 css120 a1.toNat p0.2.1, pts b127 (.cells #[.int .i64 a2] 3 (0, 0)), pts b0 (.cells #[.int .i64 p0.1, .slice A59 p0.2.1.length c60, .int .i64 p0.2.2.1, .bool p0.2.2.2.1, .int .i64 p0.2.2.2.2.1, .bool p0.2.2.2.2.2] 46 (0, 0))] := hS
            refine WR.st (St.ofR (RSt.loadObj (t := 48) (k := 3) (v := .slice A217 y205.2.2.2.length c218) (.tmp 28) (by kernel_rfl) (by kernel_rfl) (by kernel_rfl) 0 hS rfl (by kernel_rfl) rfl ?_))
            refine WR.runk [5, 6] [7, 8, 9, 10, 11] [25, 29, 31] (L' := [(25, .pointer (some ⟨b206, 0, none⟩)), (29, .slice A217 y205.2.2.2.length c218), (31, .agg #[.int .i64 a2, .bool false])]) (w' := w201) (by kernel_rfl) ?_
            refine WR.st (St.box hS (by kernel_rfl) (.cells #[.int .i64 a2, .bool false] 55) (fun b219 => .slice (some ⟨b219, 0, none⟩) 1 1) (fun _ => by kernel_rfl) (fun b219 w220 hS => ?_))
            refine WR.runk [] [8, 9, 10, 11] [25, 29, 32] (L' := [(25, .pointer (some ⟨b206, 0, none⟩)), (29, .slice A217 y205.2.2.2.length c218), (32, .slice (some ⟨b219, 0, none⟩) 1 1)]) (w' := w220) (by kernel_rfl) ?_
            have hS : Sat w220 B [osl 55 (r0 (.pair (.int .i64) .bool)) 2 A217 c218 y205.2.2.2, pts b219 (.cells #[.int .i64 a2, .bool false] 55 (0, 0)), pts b206 (.cells #[.int .i64 y205.1, .int .i64 y205.2.1, .int .i64 y205.2.2.1, .slice A217 y205.2.2.2.length c218] 50 (0, 0)), orh 47 (Ept O50) 1 A59 c60 css120 a1.toNat p0.2.1, pts b127 (.cells #[.int .i64 a2] 3 (0, 0)), pts b0 (.cells #[.int .i64 p0.1, .slice A59 p0.2.1.length c60, .int .i64 p0.2.2.1, .bool p0.2.2.2.1, .int .i64 p0.2.2.2.2.1, .bool p0.2.2.2.2.2] 46 (0, 0))] := hS.sel [2, 0, 1, 3, 4, 5] (by kernel_rfl)
            obtain ⟨y222, e221, H⟩ := bind_ex H
            refine WR.st (St.append' (.tmp 29) (.tmp 32) (by kernel_rfl) (by kernel_rfl) E48 (r0_one _) hS (by kernel_rfl) (by kernel_rfl) (Sat.ptsAt 1 (r0 (.pair (.int .i64) .bool)) 2 ([(a2, false)] : List (Int × Bool)) hS rfl rfl (rdL.consN [.int .i64 a2, .bool false] rfl ⟨[.int .i64 a2], [.bool false], rfl, rfl, rfl, rfl⟩ (rdL.nil _ _))) 8796093022208 (by kernel_rfl) (by kernel_rfl) e221 (fun A223 c224 w225 hS => ?_))
            refine WR.runk [9, 10] [11] [33, 35] (L' := [(33, .slice A223 y222.length c224), (35, .pointer (some ⟨b206, 3, none⟩))]) (w' := w225) (by kernel_rfl) ?_
            have hS : Sat w225 B [pts b206 (.cells #[.int .i64 y205.1, .int .i64 y205.2.1, .int .i64 y205.2.2.1, .slice A217 y205.2.2.2.length c218] 50 (0, 0)), osl 55 (r0 (.pair (.int .i64) .bool)) 2 A223 c224 y222, pts b219 (.cells #[.int .i64 a2, .bool false] 55 (0, 0)), orh 47 (Ept O50) 1 A59 c60 css120 a1.toNat p0.2.1, pts b127 (.cells #[.int .i64 a2] 3 (0, 0)), pts b0 (.cells #[.int .i64 p0.1, .slice A59 p0.2.1.length c60, .int .i64 p0.2.2.1, .bool p0.2.2.2.1, .int .i64 p0.2.2.2.2.1, .bool p0.2.2.2.2.2] 46 (0, 0))] := hS.sel [2, 0, 1, 3, 4, 5] (by kernel_rfl)
            refine WR.st (St.storeObj (t := 48) (k := 3) (cur' := #[.int .i64 y205.1, .int .i64 y205.2.1, .int .i64 y205.2.2.1, .slice A223 y222.length c224]) (.tmp 35) (.tmp 33) (by kernel_rfl) (by kernel_rfl) (by kernel_rfl) hS (by kernel_rfl) (by kernel_rfl) (by kernel_rfl) rfl rfl (fun w226 hS => ?_))
            refine WR.runk [] [] [] (L' := []) (w' := w226) (by kernel_rfl) ?_
            refine WR.nil ?_
            refine At.go ?_
            refine WC.seq (by kernel_rfl) ?_
            refine WC.reg [0] (by kernel_rfl) (by kernel_rfl) ?_
            refine WR.runk [0] [] [6] (L' := [(6, .bool true)]) (w' := w226) (by kernel_rfl) ?_
            refine WR.nil ?_
            refine At.go ?_
            refine WC.ret (by kernel_rfl) ?_
            obtain rfl := Option.some.inj H
            have hS : Sat w226 B [pts b206 (.cells #[.int .i64 y205.1, .int .i64 y205.2.1, .int .i64 y205.2.2.1, .slice A223 y222.length c224] 50 (0, 0)), osl 55 (r0 (.pair (.int .i64) .bool)) 2 A223 c224 y222, pts b219 (.cells #[.int .i64 a2, .bool false] 55 (0, 0)), orh 47 (Ept O50) 1 A59 c60 css120 a1.toNat p0.2.1, pts b127 (.cells #[.int .i64 a2] 3 (0, 0)), pts b0 (.cells #[.int .i64 p0.1, .slice A59 p0.2.1.length c60, .int .i64 p0.2.2.1, .bool p0.2.2.2.1, .int .i64 p0.2.2.2.2.1, .bool p0.2.2.2.2.2] 46 (0, 0))] := hS.sel [0, 1, 2, 3, 4, 5] (by kernel_rfl)
            have hS : Sat w226 B [O50 b206 (y205.1, y205.2.1, y205.2.2.1, y222), pts b219 (.cells #[.int .i64 a2, .bool false] 55 (0, 0)), orh 47 (Ept O50) 1 A59 c60 css120 a1.toNat p0.2.1, pts b127 (.cells #[.int .i64 a2] 3 (0, 0)), pts b0 (.cells #[.int .i64 p0.1, .slice A59 p0.2.1.length c60, .int .i64 p0.2.2.1, .bool p0.2.2.2.1, .int .i64 p0.2.2.2.2.1, .bool p0.2.2.2.2.2] 46 (0, 0))] := O50.close (y205.1, y205.2.1, y205.2.2.1, y222) A223 c224 hS
            have hS : Sat w226 B [orh 47 (Ept O50) 1 A59 c60 css120 a1.toNat p0.2.1, O50 b206 (y205.1, y205.2.1, y205.2.2.1, y222), pts b219 (.cells #[.int .i64 a2, .bool false] 55 (0, 0)), pts b127 (.cells #[.int .i64 a2] 3 (0, 0)), pts b0 (.cells #[.int .i64 p0.1, .slice A59 p0.2.1.length c60, .int .i64 p0.2.2.1, .bool p0.2.2.2.1, .int .i64 p0.2.2.2.2.1, .bool p0.2.2.2.2.2] 46 (0, 0))] := hS.sel [2, 0, 1, 3, 4] (by kernel_rfl)
            have hS : Sat w226 B [orw 47 (Ept O50) 1 A59 c60 (List.set p0.2.1 a1.toNat (some (y205.1, y205.2.1, y205.2.2.1, y222))), pts b219 (.cells #[.int .i64 a2, .bool false] 55 (0, 0)), pts b127 (.cells #[.int .i64 a2] 3 (0, 0)), pts b0 (.cells #[.int .i64 p0.1, .slice A59 p0.2.1.length c60, .int .i64 p0.2.2.1, .bool p0.2.2.2.1, .int .i64 p0.2.2.2.2.1, .bool p0.2.2.2.2.2] 46 (0, 0))] := Sat.fillP hS C214
            have hl228 : List.length (List.set p0.2.1 a1.toNat (some (y205.1, y205.2.1, y205.2.2.1, y222))) = List.length p0.2.1 := List.length_set
            have hS : Sat w226 B [orw 47 (Ept O50) 1 A59 c60 (List.set p0.2.1 a1.toNat (some (y205.1, y205.2.1, y205.2.2.1, y222))), pts b219 (.cells #[.int .i64 a2, .bool false] 55 (0, 0)), pts b127 (.cells #[.int .i64 a2] 3 (0, 0)), pts b0 (.cells #[.int .i64 p0.1, .slice A59 (List.set p0.2.1 a1.toNat (some (y205.1, y205.2.1, y205.2.2.1, y222))).length c60, .int .i64 p0.2.2.1, .bool p0.2.2.2.1, .int .i64 p0.2.2.2.2.1, .bool p0.2.2.2.2.2] 46 (0, 0))] := by simpa only [hl228] using hS
            have hS : Sat w226 B [pts b0 (.cells #[.int .i64 p0.1, .slice A59 (List.set p0.2.1 a1.toNat (some (y205.1, y205.2.1, y205.2.2.1, y222))).length c60, .int .i64 p0.2.2.1, .bool p0.2.2.2.1, .int .i64 p0.2.2.2.2.1, .bool p0.2.2.2.2.2] 46 (0, 0)), orw 47 (Ept O50) 1 A59 c60 (List.set p0.2.1 a1.toNat (some (y205.1, y205.2.1, y205.2.2.1, y222))), pts b219 (.cells #[.int .i64 a2, .bool false] 55 (0, 0)), pts b127 (.cells #[.int .i64 a2] 3 (0, 0))] := hS.sel [3, 0, 1, 2] (by kernel_rfl)
            have hS : Sat w226 B [O46 b0 (p0.1, (List.set p0.2.1 a1.toNat (some (y205.1, y205.2.1, y205.2.2.1, y222))), p0.2.2.1, p0.2.2.2.1, p0.2.2.2.2.1, p0.2.2.2.2.2), pts b219 (.cells #[.int .i64 a2, .bool false] 55 (0, 0)), pts b127 (.cells #[.int .i64 a2] 3 (0, 0))] := O46.close (p0.1, (List.set p0.2.1 a1.toNat (some (y205.1, y205.2.1, y205.2.2.1, y222))), p0.2.2.1, p0.2.2.2.1, p0.2.2.2.2.1, p0.2.2.2.2.2) A59 c60 hS
            have hS : Sat w226 B [O46 b0 (p0.1, (List.set p0.2.1 a1.toNat (some (y205.1, y205.2.1, y205.2.2.1, y222))), p0.2.2.1, p0.2.2.2.1, p0.2.2.2.2.1, p0.2.2.2.2.2)] := hS.sel [0] (by kernel_rfl)
            exact At.body [.bool true] (by kernel_rfl) ⟨_, rfl, rfl, hS⟩
/-! ### 25 (*colophon/fair.line).ready$1 -/
def fair_line_ready_1.f (a0 : Int × Bool) : Option Bool := some (!a0.2)
def fair_line_ready_1.post (w : World) (r : Bool) (v : Value) (w' : World) : Prop := v = (.bool r : Value) ∧ Sat w' (rf w) []
theorem fair_line_ready_1.calls (w0 : World) (a0 : Int × Bool) (r : Bool) (H : fair_line_ready_1.f a0 = some r) :
    Calls Try.prog 25 #[.agg #[.int .i64 a0.1, .bool a0.2]] w0 (fun e w' => ∃ v, e = .returned v ∧ fair_line_ready_1.post w0 r v w') := by
  have hS : Sat w0 (rf w0) [] := Sat.start w0
  unfold fair_line_ready_1.f at H
  refine calls_of_WC (vs := [.agg #[.int .i64 a0.1, .bool a0.2]]) Try.func25 (c := C25) (n := 6) (by kernel_rfl) (by kernel_rfl) (by kernel_rfl) ?_
  refine WC.seq (by kernel_rfl) ?_
  refine WC.reg [0, 1] (by kernel_rfl) (by kernel_rfl) ?_
  refine WR.runk [] [0, 1] [0] (L' := [(0, .agg #[.int .i64 a0.1, .bool a0.2])]) (w' := w0) (by kernel_rfl) ?_
  refine WR.st (St.box hS (by kernel_rfl) (.cells #[.int .i64 a0.1, .bool a0.2] 55) (fun b1 => .pointer (some ⟨b1, 0, none⟩)) (fun _ => by kernel_rfl) (fun b1 w2 hS => ?_))
  refine WR.runk [1] [] [1] (L' := [(1, .pointer (some ⟨b1, 0, none⟩))]) (w' := w2) (by kernel_rfl) ?_
  refine WR.nil ?_
  refine At.go ?_
  refine WC.seq (by kernel_rfl) ?_
  refine WC.reg [0, 1, 2, 3] (by kernel_rfl) (by kernel_rfl) ?_
  refine WR.runk [0] [1, 2, 3] [3] (L' := [(3, .pointer (some ⟨b1, 1, none⟩))]) (w' := w2) (by kernel_rfl) ?_
  refine WR.st (St.ofR (RSt.loadObj (t := 4) (k := 1) (v := .bool a0.2) (.tmp 3) (by kernel_rfl) (by kernel_rfl) (by kernel_rfl) 0 hS rfl (by kernel_rfl) rfl ?_))
  refine WR.runk [2, 3] [] [2] (L' := [(2, .bool (!a0.2))]) (w' := w2) (by kernel_rfl) ?_
  refine WR.nil ?_
  refine At.go ?_
  refine WC.ret (by kernel_rfl) ?_
  obtain rfl := Option.some.inj H
  have hS : Sat w2 (rf w0) [] := hS.sel [] (by kernel_rfl)
  exact At.body [.bool (!a0.2)] (by kernel_rfl) ⟨_, rfl, rfl, hS⟩
/-! ### 20 (*colophon/fair.line).ready -/
def fair_line_ready.l1 (y3 : Int × Int × Int × (List (Int × Bool))) : Nat → Int → Option (Sum Int Unit)
  | 0, _ => none
  | k + 1, x8_l1 => (if decide (x8_l1 < (y3.2.2.2.length : Int)) then ((at? y3.2.2.2 x8_l1).bind fun v13 => ((fair_line_ready_1.f (v13.1, v13.2)).bind fun r15 => (if r15 then some (.inl x8_l1) else fair_line_ready.l1 y3 k (wi (x8_l1 + 1))))) else some (.inr ()))
def fair_line_ready.f (p0 : Option (Int × Int × Int × (List (Int × Bool)))) : Option Int := (p0.bind fun y3 => ((fair_line_ready.l1 y3 FU 0).bind fun o25 => (match o25 with | .inl o27 => some o27 | .inr o31 => some (-1))))
def fair_line_ready.post (w : World) (r : Int) (v : Value) (w' : World) : Prop := v = (.int .i64 r : Value) ∧ Sat w' (rf w) []
theorem fair_line_ready.l1_ok {Q} (w0 : World) (y3 : Int × Int × Int × (List (Int × Bool))) (A9 : Option Addr) (c10 : Nat) (R11 : rdS (r0 (.pair (.int .i64) .bool)) 2 (hp w0) A9 c10 y3.2.2.2) (out : Sum Int Unit) (hn0 : ∀ (o0 : Int) (w : World), out = (.inl o0) → Sat w (rf w0) [] → At Q .ret 19 [(4, .int .i64 o0)] w) (hn1 : ∀ (o1 : Unit) (w : World), out = (.inr o1) → Sat w (rf w0) [] → At Q (.exit 0) 19 [] w) :
    ∀ (k : Nat) (x8_l1 : Int) (w : World), Sat w (rf w0) [] → fair_line_ready.l1 y3 k x8_l1 = some out → WL Try.prog (cbody (cbody (cr (cl (cr C22))))) Q 19 [(0, .slice A9 y3.2.2.2.length c10), (1, .func (.func 25) #[] #[]), (7, .int .i64 (y3.2.2.2.length : Int)), (8, .int .i64 x8_l1)] w := by
  intro k
  induction k with
  | zero => intro x8_l1 w hS H; exact absurd (show none = some out from H) (by simp)
  | succ k ih =>
    intro x8_l1 w hS H
    unfold fair_line_ready.l1 at H
    refine WL.round ?_
    refine WC.seq (by kernel_rfl) ?_
    refine WC.reg [0] (by kernel_rfl) (by kernel_rfl) ?_
    refine WR.runk [0] [] [0, 1, 7, 8, 9] (L' := [(0, .slice A9 y3.2.2.2.length c10), (1, .func (.func 25) #[] #[]), (7, .int .i64 (y3.2.2.2.length : Int)), (8, .int .i64 x8_l1), (9, .bool (decide (x8_l1 < (y3.2.2.2.length : Int))))]) (w' := w) (by kernel_rfl) ?_
    refine WR.nil ?_
    refine At.go ?_
    refine WC.seq (by kernel_rfl) ?_
    refine WC.cond (by kernel_rfl) (decide (x8_l1 < (y3.2.2.2.length : Int))) (by kernel_rfl) (by kernel_rfl) (fun hb12 => ?_) (fun hb12 => ?_)
    · replace H := ite_t H hb12
      refine WC.skip (by kernel_rfl) ?_
      refine At.go ?_
      refine WC.seq (by kernel_rfl) ?_
      refine WC.block (by kernel_rfl) ?_
      refine WC.seq (by kernel_rfl) ?_
      refine WC.reg [0, 1] (by kernel_rfl) (by kernel_rfl) ?_
      refine WR.runk [0, 1] [] [0, 1, 5, 7, 8] (L' := [(0, .slice A9 y3.2.2.2.length c10), (1, .func (.func 25) #[] #[]), (5, .int .i64 x8_l1), (7, .int .i64 (y3.2.2.2.length : Int)), (8, .int .i64 x8_l1)]) (w' := w) (by kernel_rfl) ?_
      refine WR.nil ?_
      refine At.go ?_
      refine WC.seq (by kernel_rfl) ?_
      refine WC.reg [0, 1, 2, 3, 4, 5] (by kernel_rfl) (by kernel_rfl) ?_
      refine WR.runk [0, 1, 2] [3, 4, 5] [0, 1, 5, 7, 8, 11, 12, 13] (L' := [(0, .slice A9 y3.2.2.2.length c10), (1, .func (.func 25) #[] #[]), (5, .int .i64 x8_l1), (7, .int .i64 (y3.2.2.2.length : Int)), (8, .int .i64 x8_l1), (11, .func (.func 25) #[] #[]), (12, .slice A9 y3.2.2.2.length c10), (13, .int .i64 x8_l1)]) (w' := w) (by kernel_rfl) ?_
      obtain ⟨v13, e14, H⟩ := bind_ex H
      refine WR.st (St.ofP (PSt.idx (k := .i64) (.tmp 12) (.tmp 13) (by kernel_rfl) (by kernel_rfl) E48 (by kernel_rfl) (by kernel_rfl) (rdS.up R11 hS.sub0) e14 ?_))
      refine WR.runk [] [4, 5] [0, 1, 5, 7, 8, 11, 14] (L' := [(0, .slice A9 y3.2.2.2.length c10), (1, .func (.func 25) #[] #[]), (5, .int .i64 x8_l1), (7, .int .i64 (y3.2.2.2.length : Int)), (8, .int .i64 x8_l1), (11, .func (.func 25) #[] #[]), (14, .pointer (some (adr A9 x8_l1.toNat 2)))]) (w' := w) (by kernel_rfl) ?_
      refine WR.st (St.ofR (RSt.loadFlat (t := 55) (κ := (.pair (.int .i64) .bool)) (.tmp 14) (by kernel_rfl) (by kernel_rfl) (by kernel_rfl) (by kernel_rfl) (by kernel_rfl) (by kernel_rfl) (rdS.up R11 hS.sub0) e14 ?_))
      refine WR.runk [] [5] [0, 1, 5, 7, 8, 11, 15] (L' := [(0, .slice A9 y3.2.2.2.length c10), (1, .func (.func 25) #[] #[]), (5, .int .i64 x8_l1), (7, .int .i64 (y3.2.2.2.length : Int)), (8, .int .i64 x8_l1), (11, .func (.func 25) #[] #[]), (15, .agg #[.int .i64 v13.1, .bool v13.2])]) (w' := w) (by kernel_rfl) ?_
      obtain ⟨r15, e16, H⟩ := bind_ex H
      refine WR.st (St.call (by kernel_rfl) (f := 25) (args := #[.agg #[.int .i64 v13.1, .bool v13.2]]) (by kernel_rfl) (fair_line_ready_1.calls w (v13.1, v13.2) r15 e16) ?_)
      rintro _ w22 ⟨rfl, hS23⟩
      have hS : Sat w22 (rf w0) [] := hS.ext hS23
      refine WR.runk [] [] [0, 1, 5, 7, 8, 16] (L' := [(0, .slice A9 y3.2.2.2.length c10), (1, .func (.func 25) #[] #[]), (5, .int .i64 x8_l1), (7, .int .i64 (y3.2.2.2.length : Int)), (8, .int .i64 x8_l1), (16, .bool r15)]) (w' := w22) (by kernel_rfl) ?_
      refine WR.nil ?_
      refine At.go ?_
      refine WC.cond (by kernel_rfl) r15 (by kernel_rfl) (by kernel_rfl) (fun hb24 => ?_) (fun hb24 => ?_)
      · replace H := ite_t H hb24
        refine WC.seq (by kernel_rfl) ?_
        refine WC.reg [0, 1] (by kernel_rfl) (by kernel_rfl) ?_
        refine WR.runk [0, 1] [] [4] (L' := [(4, .int .i64 x8_l1)]) (w' := w22) (by kernel_rfl) ?_
        refine WR.nil ?_
        refine At.go ?_
        refine WC.ret (by kernel_rfl) ?_
        refine At.blockRet ?_
        refine At.thenRet ?_
        refine At.thenRet ?_
        obtain rfl := Option.some.inj H
        have hS : Sat w22 (rf w0) [] := hS.sel [] (by kernel_rfl)
        refine At.weaken [4] (L' := [(4, .int .i64 x8_l1)]) (by kernel_rfl) ?_
        exact hn0 x8_l1 _ rfl hS
      · replace H := ite_f H hb24
        refine WC.skip (by kernel_rfl) ?_
        refine At.blockNormal ?_
        refine At.go ?_
        refine WC.reg [0, 1] (by kernel_rfl) (by kernel_rfl) ?_
        refine WR.runk [0, 1] [] [0, 1, 7, 8] (L' := [(0, .slice A9 y3.2.2.2.length c10), (1, .func (.func 25) #[] #[]), (7, .int .i64 (y3.2.2.2.length : Int)), (8, .int .i64 (wi (x8_l1 + 1)))]) (w' := w22) (by kernel_rfl) ?_
        refine WR.nil ?_
        have hS : Sat w22 (rf w0) [] := hS.sel [] (by kernel_rfl)
        refine At.again ?_
        refine WL.weaken [0, 1, 7, 8] (L' := [(0, .slice A9 y3.2.2.2.length c10), (1, .func (.func 25) #[] #[]), (7, .int .i64 (y3.2.2.2.length : Int)), (8, .int .i64 (wi (x8_l1 + 1)))]) (by kernel_rfl) ?_
        exact ih (wi (x8_l1 + 1)) _ hS H
    · replace H := ite_f H hb12
      refine WC.exit (by kernel_rfl) ?_
      refine At.thenExit ?_
      refine At.thenExit ?_
      obtain rfl := Option.some.inj H
      have hS : Sat w (rf w0) [] := hS.sel [] (by kernel_rfl)
      refine At.weaken [] (L' := []) (by kernel_rfl) ?_
      exact hn1 () _ rfl hS
theorem fair_line_ready.calls (w0 : World) (v0 : Value) (p0 : Option (Int × Int × Int × (List (Int × Bool)))) (R0 : rd (hp w0) (.ptr 50 (.pair (.int .i64) (.pair (.int .i64) (.pair (.int .i64) (.slice 55 (.pair (.int .i64) .bool)))))) [v0] p0) (r : Int) (H : fair_line_ready.f p0 = some r) :
    Calls Try.prog 20 #[v0] w0 (fun e w' => ∃ v, e = .returned v ∧ fair_line_ready.post w0 r v w') := by
  have hS : Sat w0 (rf w0) [] := Sat.start w0
  unfold fair_line_ready.f at H
  refine calls_of_WC (vs := [v0]) Try.func20 (c := C20) (n := 8) (by kernel_rfl) (by kernel_rfl) (by kernel_rfl) ?_
  refine WC.seq (by kernel_rfl) ?_
  refine WC.reg [0] (by kernel_rfl) (by kernel_rfl) ?_
  refine WR.runk [0] [] [0] (L' := [(0, v0)]) (w' := w0) (by kernel_rfl) ?_
  refine WR.nil ?_
  refine At.go ?_
  refine WC.seq (by kernel_rfl) ?_
  refine WC.reg [0, 1, 2, 3, 4, 5] (by kernel_rfl) (by kernel_rfl) ?_
  refine WR.runk [0] [1, 2, 3, 4, 5] [3] (L' := [(3, v0)]) (w' := w0) (by kernel_rfl) ?_
  obtain ⟨y3, hr1, H⟩ := bind_ex H
  obtain ⟨b4, fr5, A9, c10, hv6, hb7, R11⟩ := P50.open R0 hr1
  have R8 := R0
  rw [hv6, hr1] at R8
  try subst hv6
  replace R11 : rdS (r0 (.pair (.int .i64) .bool)) 2 (hp w0) A9 c10 y3.2.2.2 := R11
  refine WR.runk [1, 2] [3, 4, 5] [5] (L' := [(5, .pointer (some ⟨b4, 3, none⟩))]) (w' := w0) (by kernel_rfl) ?_
  refine WR.st (St.ofR (RSt.loadRo (t := 48) (k := 3) (v := .slice A9 y3.2.2.2.length c10) (.tmp 5) (by kernel_rfl) (by kernel_rfl) (by kernel_rfl) hS.sub0 hb7 (by kernel_rfl) rfl ?_))
  refine WR.runk [] [4, 5] [6] (L' := [(6, .slice A9 y3.2.2.2.length c10)]) (w' := w0) (by kernel_rfl) ?_
  refine WR.st (St.call (by kernel_rfl) (f := 22) (args := #[.slice A9 y3.2.2.2.length c10, .func (.func 25) #[] #[]]) (by kernel_rfl) (calls_of_WC (vs := [.slice A9 y3.2.2.2.length c10, .func (.func 25) #[] #[]]) Try.func22 (c := C22) (n := 19) (by kernel_rfl) (by kernel_rfl) (by kernel_rfl) ?_) (fun _ _ h => h))
  refine WC.seq (by kernel_rfl) ?_
  refine WC.reg [0] (by kernel_rfl) (by kernel_rfl) ?_
  refine WR.runk [0] [] [0, 1] (L' := [(0, .slice A9 y3.2.2.2.length c10), (1, .func (.func 25) #[] #[])]) (w' := w0) (by kernel_rfl) ?_
  refine WR.nil ?_
  refine At.go ?_
  refine WC.seq (by kernel_rfl) ?_
  refine WC.seq (by kernel_rfl) ?_
  refine WC.reg [0, 1, 2] (by kernel_rfl) (by kernel_rfl) ?_
  refine WR.runk [0, 1, 2] [] [0, 1, 7, 8] (L' := [(0, .slice A9 y3.2.2.2.length c10), (1, .func (.func 25) #[] #[]), (7, .int .i64 (y3.2.2.2.length : Int)), (8, .int .i64 0)]) (w' := w0) (by kernel_rfl) ?_
  refine WR.nil ?_
  refine At.go ?_
  refine WC.block (by kernel_rfl) ?_
  have hS : Sat w0 (rf w0) [] := hS.sel [] (by kernel_rfl)
  obtain ⟨o25, e26, H⟩ := bind_ex H
  refine WC.loop (by kernel_rfl) ?_
  refine WL.weaken [0, 1, 7, 8] (L' := [(0, .slice A9 y3.2.2.2.length c10), (1, .func (.func 25) #[] #[]), (7, .int .i64 (y3.2.2.2.length : Int)), (8, .int .i64 0)]) (by kernel_rfl) ?_
  refine fair_line_ready.l1_ok w0 y3 A9 c10 R11 o25 (fun o27 w29 ho30 hS => ?_) (fun o31 w33 ho34 hS => ?_) FU 0 _ hS e26
  · subst ho30
    dsimp only at H
    refine At.blockRet ?_
    refine At.thenRet ?_
    refine At.bodyK [.int .i64 o27] (.int .i64 o27) (by kernel_rfl) rfl ?_
    refine WR.runk [5] [] [2] (L' := [(2, .int .i64 o27)]) (w' := w29) (by kernel_rfl) ?_
    refine WR.nil ?_
    refine At.go ?_
    refine WC.ret (by kernel_rfl) ?_
    obtain rfl := Option.some.inj H
    have hS : Sat w29 (rf w0) [] := hS.sel [] (by kernel_rfl)
    exact At.body [.int .i64 o27] (by kernel_rfl) ⟨_, rfl, rfl, hS⟩
  · subst ho34
    dsimp only at H
    refine At.hit ?_
    refine At.go ?_
    refine WC.seq (by kernel_rfl) ?_
    refine WC.reg [0] (by kernel_rfl) (by kernel_rfl) ?_
    refine WR.runk [0] [] [4] (L' := [(4, .int .i64 (-1))]) (w' := w33) (by kernel_rfl) ?_
    refine WR.nil ?_
    refine At.go ?_
    refine WC.ret (by kernel_rfl) ?_
    refine At.bodyK [.int .i64 (-1)] (.int .i64 (-1)) (by kernel_rfl) rfl ?_
    refine WR.runk [5] [] [2] (L' := [(2, .int .i64 (-1))]) (w' := w33) (by kernel_rfl) ?_
    refine WR.nil ?_
    refine At.go ?_
    refine WC.ret (by kernel_rfl) ?_
    obtain rfl := Option.some.inj H
    have hS : Sat w33 (rf w0) [] := hS.sel [] (by kernel_rfl)
    exact At.body [.int .i64 (-1)] (by kernel_rfl) ⟨_, rfl, rfl, hS⟩
/-! ### 19 (*colophon/fair.Ring).Next$1 -/
def fair_Ring_Next_1.f (p0 : Option (Int × Int × Int × (List (Int × Bool)))) : Option Bool := ((fair_line_ready.f p0).bind fun r1 => some (decide (r1 ≥ 0)))
def fair_Ring_Next_1.post (w : World) (r : Bool) (v : Value) (w' : World) : Prop := v = (.bool r : Value) ∧ Sat w' (rf w) []
theorem fair_Ring_Next_1.calls (w0 : World) (v0 : Value) (p0 : Option (Int × Int × Int × (List (Int × Bool)))) (R0 : rd (hp w0) (.ptr 50 (.pair (.int .i64) (.pair (.int .i64) (.pair (.int .i64) (.slice 55 (.pair (.int .i64) .bool)))))) [v0] p0) (r : Bool) (H : fair_Ring_Next_1.f p0 = some r) :
    Calls Try.prog 19 #[v0] w0 (fun e w' => ∃ v, e = .returned v ∧ fair_Ring_Next_1.post w0 r v w') := by
  have hS : Sat w0 (rf w0) [] := Sat.start w0
  unfold fair_Ring_Next_1.f at H
  refine calls_of_WC (vs := [v0]) Try.func19 (c := C19) (n := 6) (by kernel_rfl) (by kernel_rfl) (by kernel_rfl) ?_
  refine WC.seq (by kernel_rfl) ?_
  refine WC.reg [0] (by kernel_rfl) (by kernel_rfl) ?_
  refine WR.runk [0] [] [0] (L' := [(0, v0)]) (w' := w0) (by kernel_rfl) ?_
  refine WR.nil ?_
  refine At.go ?_
  refine WC.seq (by kernel_rfl) ?_
  refine WC.reg [0, 1, 2, 3] (by kernel_rfl) (by kernel_rfl) ?_
  refine WR.runk [0] [1, 2, 3] [3] (L' := [(3, v0)]) (w' := w0) (by kernel_rfl) ?_
  obtain ⟨r1, e2, H⟩ := bind_ex H
  refine WR.st (St.call (by kernel_rfl) (f := 20) (args := #[v0]) (by kernel_rfl) (fair_line_ready.calls w0 (v0) p0 (rd.mono hS.sub0 _ _ _ R0) r1 e2) ?_)
  rintro _ w8 ⟨rfl, hS9⟩
  have hS : Sat w8 (rf w0) [] := hS.ext hS9
  refine WR.runk [2, 3] [] [2] (L' := [(2, .bool (decide (r1 ≥ 0)))]) (w' := w8) (by kernel_rfl) ?_
  refine WR.nil ?_
  refine At.go ?_
  refine WC.ret (by kernel_rfl) ?_
  obtain rfl := Option.some.inj H
  have hS : Sat w8 (rf w0) [] := hS.sel [] (by kernel_rfl)
  exact At.body [.bool (decide (r1 ≥ 0))] (by kernel_rfl) ⟨_, rfl, rfl, hS⟩
end Go.Proofs.Ytnffhpnlehcoiaa
