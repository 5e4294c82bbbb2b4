/-
  Printed by gen.py (my own tool): for each Go function a plain Lean function and the proof that a call of it does what that function says.
-/
import Derived.Test.YthlbebgmphnniaaProg
import Derived.Test.YthlbebgmphnniaaGS
import Derived.Test.YthlbebgmphnniaaGQ
set_option linter.unusedVariables false
set_option linter.unusedSimpArgs false
set_option maxRecDepth 100000
namespace Go.Proofs.Ythlbebgmphnniaa
open Go Go.Gol
theorem E25 : ElemInfo Try.prog 25 27 2 16 := ElemInfo.mk' (.agg #[.int .i64 0, .int .i64 0]) (by kernel_rfl) (by kernel_rfl) rfl
theorem E22 : ElemInfo Try.prog 22 5 1 1 := ElemInfo.mk' (.int .u8 0) (by kernel_rfl) (by kernel_rfl) rfl
theorem E23 : ElemInfo Try.prog 23 3 1 8 := ElemInfo.mk' (.int .i64 0) (by kernel_rfl) (by kernel_rfl) rfl
theorem E38 : ElemInfo Try.prog 38 44 2 16 := ElemInfo.mk' (.agg #[.int .i64 0, .int .i64 0]) (by kernel_rfl) (by kernel_rfl) rfl
noncomputable abbrev C16 : Code := Try.f16.body.getD .skip
noncomputable abbrev C8 : Code := Try.f8.body.getD .skip
noncomputable abbrev C19 : Code := Try.f19.body.getD .skip
noncomputable abbrev C21 : Code := Try.f21.body.getD .skip
noncomputable abbrev C20 : Code := Try.f20.body.getD .skip
noncomputable abbrev C12 : Code := Try.f12.body.getD .skip
noncomputable abbrev C17 : Code := Try.f17.body.getD .skip
noncomputable abbrev C6 : Code := Try.f6.body.getD .skip
noncomputable abbrev C18 : Code := Try.f18.body.getD .skip
noncomputable abbrev C7 : Code := Try.f7.body.getD .skip
noncomputable abbrev C9 : Code := Try.f9.body.getD .skip
noncomputable abbrev C10 : Code := Try.f10.body.getD .skip
noncomputable abbrev C5 : Code := Try.f5.body.getD .skip
noncomputable abbrev C3 : Code := Try.f3.body.getD .skip
noncomputable abbrev C11 : Code := Try.f11.body.getD .skip
noncomputable abbrev C15 : Code := Try.f15.body.getD .skip
noncomputable abbrev C13 : Code := Try.f13.body.getD .skip
noncomputable abbrev C14 : Code := Try.f14.body.getD .skip
noncomputable abbrev C4 : Code := Try.f4.body.getD .skip
def O49 (b : Nat) (x : Int × (List (Int × Int)) × (List (Int × Int))) : HP := fun H => ∃ a : (Option Addr × Nat) × Nat, SepL [pts b (.cells #[.int .i64 x.1, .slice a.1.1 x.2.1.length a.1.2, .map (some a.2)] 49 (0, 0)), osl 27 (r0 (.pair (.int .i64) (.int .i64))) 2 a.1.1 a.1.2 x.2.1, omp .i64 .i64 a.2 x.2.2] H
theorem O49.open {w : World} {B : Rf} {cs : List HP} {b : Nat} {x : Int × (List (Int × Int)) × (List (Int × Int))} (h : Sat w B (O49 b x :: cs)) : ∃ (A0 : Option Addr) (c0 : Nat) (m1 : Nat), Sat w B ([pts b (.cells #[.int .i64 x.1, .slice A0 x.2.1.length c0, .map (some m1)] 49 (0, 0)), osl 27 (r0 (.pair (.int .i64) (.int .i64))) 2 A0 c0 x.2.1, omp .i64 .i64 m1 x.2.2] ++ cs) := by
  obtain ⟨a, h⟩ := Sat.ex h
  exact ⟨a.1.1, a.1.2, a.2, Sat.op h⟩
theorem O49.close {w : World} {B : Rf} {cs : List HP} {b : Nat} (x : Int × (List (Int × Int)) × (List (Int × Int))) (A0 : Option Addr) (c0 : Nat) (m1 : Nat) (h : Sat w B ([pts b (.cells #[.int .i64 x.1, .slice A0 x.2.1.length c0, .map (some m1)] 49 (0, 0)), osl 27 (r0 (.pair (.int .i64) (.int .i64))) 2 A0 c0 x.2.1, omp .i64 .i64 m1 x.2.2] ++ cs)) : Sat w B (O49 b x :: cs) := Sat.mono1 (c := SepL [pts b (.cells #[.int .i64 x.1, .slice A0 x.2.1.length c0, .map (some m1)] 49 (0, 0)), osl 27 (r0 (.pair (.int .i64) (.int .i64))) 2 A0 c0 x.2.1, omp .i64 .i64 m1 x.2.2]) (fun H h => ⟨((A0, c0), m1), h⟩) (Sat.cl _ h)
def O27 (b : Nat) (x : Int × Int) : HP := fun H => SepL [pts b (.cells #[.int .i64 x.1, .int .i64 x.2] 27 (0, 0))] H
theorem O27.open {w : World} {B : Rf} {cs : List HP} {b : Nat} {x : Int × Int} (h : Sat w B (O27 b x :: cs)) : Sat w B ([pts b (.cells #[.int .i64 x.1, .int .i64 x.2] 27 (0, 0))] ++ cs) := Sat.op h
theorem O27.close {w : World} {B : Rf} {cs : List HP} {b : Nat} (x : Int × Int) (h : Sat w B ([pts b (.cells #[.int .i64 x.1, .int .i64 x.2] 27 (0, 0))] ++ cs)) : Sat w B (O27 b x :: cs) := Sat.mono1 (c := SepL [pts b (.cells #[.int .i64 x.1, .int .i64 x.2] 27 (0, 0))]) (fun H h => h) (Sat.cl _ h)
theorem P27.open {H : Heap} {v : Value} {o : Option (Int × Int)} (h : Gol.rd H (.ptr 27 (.pair (.int .i64) (.int .i64))) [v] o) {y : Int × Int} (e : o = some y) : ∃ (b : Nat) (fr : Nat × Nat), v = .pointer (some ⟨b, 0, none⟩) ∧ H b = some (.cells #[.int .i64 y.1, .int .i64 y.2] 27 fr) := by
  obtain ⟨b, cells, fr, hv, hb, hr⟩ := rd_ptr_some h e
  obtain ⟨_, _, e0, g0, z0, z1⟩ := hr
  have z0' := z0; replace z0' : _ = ([.int .i64 y.1] : List Value) := z0'
  have z1' := z1; replace z1' : _ = ([.int .i64 y.2] : List Value) := z1'
  have hc : cells = #[.int .i64 y.1, .int .i64 y.2] := by apply Array.ext'; rw [e0, z0', z1']; rfl
  subst hc
  exact ⟨b, fr, hv, hb⟩
theorem P27.mk {H : Heap} {b : Nat} {fr : Nat × Nat} {y : Int × Int} (hb : H b = some (.cells #[.int .i64 y.1, .int .i64 y.2] 27 fr)) : Gol.rd H (.ptr 27 (.pair (.int .i64) (.int .i64))) [.pointer (some ⟨b, 0, none⟩)] (some y) := ⟨b, _, fr, rfl, hb, ⟨[.int .i64 y.1], [.int .i64 y.2], rfl, rfl, rfl, rfl⟩⟩
theorem O27.rd (b : Nat) (x : Int × Int) (H : Heap) (h : O27 b x H) : Gol.rd H (.ptr 27 (.pair (.int .i64) (.int .i64))) [.pointer (some ⟨b, 0, none⟩)] (some x) := by
  exact P27.mk (SepL.blockAt 0 h rfl)
def O42 (b : Nat) (x : Int × (List (Int × Int)) × (List Int)) : HP := fun H => ∃ a : (Option Addr × Nat) × (Option Addr × Nat), SepL [pts b (.cells #[.int .i64 x.1, .slice a.1.1 x.2.1.length a.1.2, .slice a.2.1 x.2.2.length a.2.2] 42 (0, 0)), osl 27 (r0 (.pair (.int .i64) (.int .i64))) 2 a.1.1 a.1.2 x.2.1, osl 3 (r0 (.int .i64)) 1 a.2.1 a.2.2 x.2.2] H
theorem O42.open {w : World} {B : Rf} {cs : List HP} {b : Nat} {x : Int × (List (Int × Int)) × (List Int)} (h : Sat w B (O42 b x :: cs)) : ∃ (A0 : Option Addr) (c0 : Nat) (A1 : Option Addr) (c1 : Nat), Sat w B ([pts b (.cells #[.int .i64 x.1, .slice A0 x.2.1.length c0, .slice A1 x.2.2.length c1] 42 (0, 0)), osl 27 (r0 (.pair (.int .i64) (.int .i64))) 2 A0 c0 x.2.1, osl 3 (r0 (.int .i64)) 1 A1 c1 x.2.2] ++ cs) := by
  obtain ⟨a, h⟩ := Sat.ex h
  exact ⟨a.1.1, a.1.2, a.2.1, a.2.2, Sat.op h⟩
theorem O42.close {w : World} {B : Rf} {cs : List HP} {b : Nat} (x : Int × (List (Int × Int)) × (List Int)) (A0 : Option Addr) (c0 : Nat) (A1 : Option Addr) (c1 : Nat) (h : Sat w B ([pts b (.cells #[.int .i64 x.1, .slice A0 x.2.1.length c0, .slice A1 x.2.2.length c1] 42 (0, 0)), osl 27 (r0 (.pair (.int .i64) (.int .i64))) 2 A0 c0 x.2.1, osl 3 (r0 (.int .i64)) 1 A1 c1 x.2.2] ++ cs)) : Sat w B (O42 b x :: cs) := Sat.mono1 (c := SepL [pts b (.cells #[.int .i64 x.1, .slice A0 x.2.1.length c0, .slice A1 x.2.2.length c1] 42 (0, 0)), osl 27 (r0 (.pair (.int .i64) (.int .i64))) 2 A0 c0 x.2.1, osl 3 (r0 (.int .i64)) 1 A1 c1 x.2.2]) (fun H h => ⟨((A0, c0), (A1, c1)), h⟩) (Sat.cl _ h)
theorem P42.open {H : Heap} {v : Value} {o : Option (Int × (List (Int × Int)) × (List Int))} (h : Gol.rd H (.ptr 42 (.pair (.int .i64) (.pair (.slice 27 (.pair (.int .i64) (.int .i64))) (.slice 3 (.int .i64))))) [v] o) {y : Int × (List (Int × Int)) × (List Int)} (e : o = some y) : ∃ (b : Nat) (fr : Nat × Nat) (A0 : Option Addr) (c0 : Nat) (A1 : Option Addr) (c1 : Nat), v = .pointer (some ⟨b, 0, none⟩) ∧ H b = some (.cells #[.int .i64 y.1, .slice A0 y.2.1.length c0, .slice A1 y.2.2.length c1] 42 fr) ∧ rdS (r0 (.pair (.int .i64) (.int .i64))) 2 H A0 c0 y.2.1 ∧ rdS (r0 (.int .i64)) 1 H A1 c1 y.2.2 := by
  obtain ⟨b, cells, fr, hv, hb, hr⟩ := rd_ptr_some h e
  obtain ⟨_, _, e0, g0, z0, ⟨_, _, e1, g1, ⟨A0, c0, z1, R0⟩, ⟨A1, c1, z2, R1⟩⟩⟩ := hr
  have z0' := z0; replace z0' : _ = ([.int .i64 y.1] : List Value) := z0'
  have z1' := z1; replace z1' : _ = ([.slice A0 y.2.1.length c0] : List Value) := z1'
  have z2' := z2; replace z2' : _ = ([.slice A1 y.2.2.length c1] : List Value) := z2'
  have hc : cells = #[.int .i64 y.1, .slice A0 y.2.1.length c0, .slice A1 y.2.2.length c1] := by apply Array.ext'; rw [e0, z0', e1, z1', z2']; rfl
  subst hc
  exact ⟨b, fr, A0, c0, A1, c1, hv, hb, R0, R1⟩
theorem P42.mk {H : Heap} {b : Nat} {fr : Nat × Nat} {y : Int × (List (Int × Int)) × (List Int)} {A0 : Option Addr} {c0 : Nat} {A1 : Option Addr} {c1 : Nat} (hb : H b = some (.cells #[.int .i64 y.1, .slice A0 y.2.1.length c0, .slice A1 y.2.2.length c1] 42 fr)) (R0 : rdS (r0 (.pair (.int .i64) (.int .i64))) 2 H A0 c0 y.2.1) (R1 : rdS (r0 (.int .i64)) 1 H A1 c1 y.2.2) : Gol.rd H (.ptr 42 (.pair (.int .i64) (.pair (.slice 27 (.pair (.int .i64) (.int .i64))) (.slice 3 (.int .i64))))) [.pointer (some ⟨b, 0, none⟩)] (some y) := ⟨b, _, fr, rfl, hb, ⟨[.int .i64 y.1], [.slice A0 y.2.1.length c0, .slice A1 y.2.2.length c1], rfl, rfl, rfl, ⟨[.slice A0 y.2.1.length c0], [.slice A1 y.2.2.length c1], rfl, rfl, ⟨A0, c0, rfl, (rdS.r0up R0)⟩, ⟨A1, c1, rfl, (rdS.r0up R1)⟩⟩⟩⟩
theorem O42.rd (b : Nat) (x : Int × (List (Int × Int)) × (List Int)) (H : Heap) (h : O42 b x H) : Gol.rd H (.ptr 42 (.pair (.int .i64) (.pair (.slice 27 (.pair (.int .i64) (.int .i64))) (.slice 3 (.int .i64))))) [.pointer (some ⟨b, 0, none⟩)] (some x) := by
  obtain ⟨a, h⟩ := h
  exact P42.mk (SepL.blockAt 0 h rfl) (SepL.rdAt 1 h rfl) (SepL.rdAt 2 h rfl)
def O42r1 (HR : Heap) (b : Nat) (x : Int × (List (Int × Int)) × (List Int)) : HP := fun H => ∃ a : (Option Addr × Nat) × (Option Addr × Nat), (rdS (r0 (.pair (.int .i64) (.int .i64))) 2 HR a.1.1 a.1.2 x.2.1) ∧ SepL [pts b (.cells #[.int .i64 x.1, .slice a.1.1 x.2.1.length a.1.2, .slice a.2.1 x.2.2.length a.2.2] 42 (0, 0)), osl 3 (r0 (.int .i64)) 1 a.2.1 a.2.2 x.2.2] H
theorem O42r1.open {HR : Heap} {w : World} {B : Rf} {cs : List HP} {b : Nat} {x : Int × (List (Int × Int)) × (List Int)} (h : Sat w B (O42r1 HR b x :: cs)) : ∃ (A0 : Option Addr) (c0 : Nat) (A1 : Option Addr) (c1 : Nat), rdS (r0 (.pair (.int .i64) (.int .i64))) 2 HR A0 c0 x.2.1 ∧ Sat w B ([pts b (.cells #[.int .i64 x.1, .slice A0 x.2.1.length c0, .slice A1 x.2.2.length c1] 42 (0, 0)), osl 3 (r0 (.int .i64)) 1 A1 c1 x.2.2] ++ cs) := by
  obtain ⟨a, h⟩ := Sat.ex h
  have hp_ := Sat.pure1 (fun _ h => h.1) h
  exact ⟨a.1.1, a.1.2, a.2.1, a.2.2, hp_, Sat.op (Sat.mono1 (fun _ h => h.2) h)⟩
theorem O42r1.close {w : World} {B : Rf} {cs : List HP} {b : Nat} (HR : Heap) (x : Int × (List (Int × Int)) × (List Int)) (A0 : Option Addr) (c0 : Nat) (A1 : Option Addr) (c1 : Nat) (q0 : rdS (r0 (.pair (.int .i64) (.int .i64))) 2 HR A0 c0 x.2.1) (h : Sat w B ([pts b (.cells #[.int .i64 x.1, .slice A0 x.2.1.length c0, .slice A1 x.2.2.length c1] 42 (0, 0)), osl 3 (r0 (.int .i64)) 1 A1 c1 x.2.2] ++ cs)) : Sat w B (O42r1 HR b x :: cs) := Sat.mono1 (c := SepL [pts b (.cells #[.int .i64 x.1, .slice A0 x.2.1.length c0, .slice A1 x.2.2.length c1] 42 (0, 0)), osl 3 (r0 (.int .i64)) 1 A1 c1 x.2.2]) (fun H h => ⟨((A0, c0), (A1, c1)), q0, h⟩) (Sat.cl _ h)
def O44 (b : Nat) (x : Int × Int) : HP := fun H => SepL [pts b (.cells #[.int .i64 x.1, .int .i64 x.2] 44 (0, 0))] H
theorem O44.open {w : World} {B : Rf} {cs : List HP} {b : Nat} {x : Int × Int} (h : Sat w B (O44 b x :: cs)) : Sat w B ([pts b (.cells #[.int .i64 x.1, .int .i64 x.2] 44 (0, 0))] ++ cs) := Sat.op h
theorem O44.close {w : World} {B : Rf} {cs : List HP} {b : Nat} (x : Int × Int) (h : Sat w B ([pts b (.cells #[.int .i64 x.1, .int .i64 x.2] 44 (0, 0))] ++ cs)) : Sat w B (O44 b x :: cs) := Sat.mono1 (c := SepL [pts b (.cells #[.int .i64 x.1, .int .i64 x.2] 44 (0, 0))]) (fun H h => h) (Sat.cl _ h)
theorem P44.open {H : Heap} {v : Value} {o : Option (Int × Int)} (h : Gol.rd H (.ptr 44 (.pair (.int .i64) (.int .i64))) [v] o) {y : Int × Int} (e : o = some y) : ∃ (b : Nat) (fr : Nat × Nat), v = .pointer (some ⟨b, 0, none⟩) ∧ H b = some (.cells #[.int .i64 y.1, .int .i64 y.2] 44 fr) := by
  obtain ⟨b, cells, fr, hv, hb, hr⟩ := rd_ptr_some h e
  obtain ⟨_, _, e0, g0, z0, z1⟩ := hr
  have z0' := z0; replace z0' : _ = ([.int .i64 y.1] : List Value) := z0'
  have z1' := z1; replace z1' : _ = ([.int .i64 y.2] : List Value) := z1'
  have hc : cells = #[.int .i64 y.1, .int .i64 y.2] := by apply Array.ext'; rw [e0, z0', z1']; rfl
  subst hc
  exact ⟨b, fr, hv, hb⟩
theorem P44.mk {H : Heap} {b : Nat} {fr : Nat × Nat} {y : Int × Int} (hb : H b = some (.cells #[.int .i64 y.1, .int .i64 y.2] 44 fr)) : Gol.rd H (.ptr 44 (.pair (.int .i64) (.int .i64))) [.pointer (some ⟨b, 0, none⟩)] (some y) := ⟨b, _, fr, rfl, hb, ⟨[.int .i64 y.1], [.int .i64 y.2], rfl, rfl, rfl, rfl⟩⟩
theorem O44.rd (b : Nat) (x : Int × Int) (H : Heap) (h : O44 b x H) : Gol.rd H (.ptr 44 (.pair (.int .i64) (.int .i64))) [.pointer (some ⟨b, 0, none⟩)] (some x) := by
  exact P44.mk (SepL.blockAt 0 h rfl)
/-! ### 16 (*colophon/quota.Gate).Tenants -/
def quota_Gate_Tenants.f (p0 : Int × (List (Int × Int)) × (List (Int × Int))) : Option Int := some (p0.2.1.length : Int)
def quota_Gate_Tenants.post (B : Rf) (b0 : Nat) (p0 : Int × (List (Int × Int)) × (List (Int × Int))) (w : World) (r : Int) (v : Value) (w' : World) : Prop := v = (.int .i64 r : Value) ∧ Sat w' B [O49 b0 p0]
theorem quota_Gate_Tenants.calls (B : Rf) (w0 : World) (b0 : Nat) (p0 : Int × (List (Int × Int)) × (List (Int × Int))) (hS : Sat w0 B [O49 b0 p0]) (r : Int) (H : quota_Gate_Tenants.f p0 = some r) :
    Calls Try.prog 16 #[.pointer (some ⟨b0, 0, none⟩)] w0 (fun e w' => ∃ v, e = .returned v ∧ quota_Gate_Tenants.post B b0 p0 w0 r v w') := by
  unfold quota_Gate_Tenants.f at H
  refine calls_of_WC (vs := [.pointer (some ⟨b0, 0, none⟩)]) Try.func16 (c := C16) (n := 10) (by kernel_rfl) (by kernel_rfl) (by kernel_rfl) ?_
  refine WC.seq (by kernel_rfl) ?_
  refine WC.reg [0] (by kernel_rfl) (by kernel_rfl) ?_
  refine WR.runk [0] [] [0] (L' := [(0, .pointer (some ⟨b0, 0, none⟩))]) (w' := w0) (by kernel_rfl) ?_
  refine WR.nil ?_
  refine At.go ?_
  refine WC.seq (by kernel_rfl) ?_
  refine WC.seq (by kernel_rfl) ?_
  refine WC.reg [0, 1] (by kernel_rfl) (by kernel_rfl) ?_
  refine WR.runk [0, 1] [] [0, 4] (L' := [(0, .pointer (some ⟨b0, 0, none⟩)), (4, .bool false)]) (w' := w0) (by kernel_rfl) ?_
  refine WR.nil ?_
  refine At.go ?_
  refine WC.condF (by kernel_rfl) (by kernel_rfl) (by kernel_rfl) ?_
  refine WC.skip (by kernel_rfl) ?_
  refine At.go ?_
  refine WC.seq (by kernel_rfl) ?_
  refine WC.reg [0, 1, 2, 3, 4, 5] (by kernel_rfl) (by kernel_rfl) ?_
  refine WR.runk [0, 1, 2] [3, 4, 5] [7] (L' := [(7, .pointer (some ⟨b0, 1, none⟩))]) (w' := w0) (by kernel_rfl) ?_
  obtain ⟨A1, c2, mb3, hS⟩ := O49.open hS
  have hS : Sat w0 B [pts b0 (.cells #[.int .i64 p0.1, .slice A1 p0.2.1.length c2, .map (some mb3)] 49 (0, 0)), osl 27 (r0 (.pair (.int .i64) (.int .i64))) 2 A1 c2 p0.2.1, omp .i64 .i64 mb3 p0.2.2] := hS
  refine WR.st (St.ofR (RSt.loadObj (t := 25) (k := 1) (v := .slice A1 p0.2.1.length c2) (.tmp 7) (by kernel_rfl) (by kernel_rfl) (by kernel_rfl) 0 hS rfl (by kernel_rfl) rfl ?_))
  refine WR.runk [4, 5] [] [2] (L' := [(2, .int .i64 (p0.2.1.length : Int))]) (w' := w0) (by kernel_rfl) ?_
  refine WR.nil ?_
  refine At.go ?_
  refine WC.ret (by kernel_rfl) ?_
  obtain rfl := Option.some.inj H
  have hS : Sat w0 B [pts b0 (.cells #[.int .i64 p0.1, .slice A1 p0.2.1.length c2, .map (some mb3)] 49 (0, 0)), osl 27 (r0 (.pair (.int .i64) (.int .i64))) 2 A1 c2 p0.2.1, omp .i64 .i64 mb3 p0.2.2] := hS.sel [0, 1, 2] (by kernel_rfl)
  have hS : Sat w0 B [O49 b0 p0] := O49.close p0 A1 c2 mb3 hS
  have hS : Sat w0 B [O49 b0 p0] := hS.sel [0] (by kernel_rfl)
  exact At.body [.int .i64 (p0.2.1.length : Int)] (by kernel_rfl) ⟨_, rfl, rfl, hS⟩
/-! ### 8 (*colophon/quota.Gate).All (by hand: a range over a map) -/
def quota_Gate_All.f (p0 : Int × (List (Int × Int)) × (List (Int × Int))) : Option Int := some (wi (p0.2.2.map (·.2)).sum)
def quota_Gate_All.post (B : Rf) (b0 : Nat) (p0 : Int × (List (Int × Int)) × (List (Int × Int))) (w : World) (r : Int) (v : Value) (w' : World) : Prop := v = (.int .i64 r : Value) ∧ Sat w' B [O49 b0 p0]
theorem quota_Gate_All.wi_add (a b : Int) : wi (wi a + b) = wi (a + b) := by
  simp only [wi, IntKind.wrap, IntKind.bits, IntKind.signed]
  simp
  (repeat' split) <;> omega
theorem quota_Gate_All.l1_ok {Q} {B : Rf} {cs : List HP} (r b : Nat) (es : Array MapEntry) (clock : Nat) (hs : MapKept.Stamped es clock) (hv : ∀ e ∈ es.toList, ∃ v, e.val = .int .i64 v) (T : Int)
    (hn0 : ∀ (w : World) (seen : Array Nat), Sat w B (pts r (.mapIter (some b) clock seen clock) :: pts b (.map es clock) :: cs) → At Q (.exit 0) 21 [(3, .int .i64 (wi T))] w) :
    ∀ (k : Nat) (seen : Array Nat) (acc : Int) (w : World), (leftOf es seen).size = k → wi (acc + tot (leftOf es seen).toList) = wi T → wi acc = acc → Sat w B (pts r (.mapIter (some b) clock seen clock) :: pts b (.map es clock) :: cs) →
      WL Try.prog (cbody (cbody (cr (cl (cr (cr (cr C8))))))) Q 21 [(3, .int .i64 acc), (12, .pointer (some ⟨r, 0, none⟩))] w := by
  intro k
  induction k with
  | zero =>
    intro seen acc w hk hT ha hS
    refine WL.round ?_
    refine WC.seq (by kernel_rfl) ?_
    refine WC.reg [0, 1] (by kernel_rfl) (by kernel_rfl) ?_
    refine WR.st (St.next (.tmp 12) (by kernel_rfl) (by kernel_rfl) hs hS (by kernel_rfl) (fun _ => ?_) (fun e he w' hS => ?_))
    · refine WR.runk [1] [] [3, 12, 14] (L' := [(3, .int .i64 acc), (12, .pointer (some ⟨r, 0, none⟩)), (14, .bool false)]) (w' := w) (by kernel_rfl) ?_
      refine WR.nil ?_
      refine At.go ?_
      refine WC.seq (by kernel_rfl) ?_
      refine WC.condF (by kernel_rfl) (by kernel_rfl) (by kernel_rfl) ?_
      refine WC.exit (by kernel_rfl) ?_
      refine At.thenExit ?_
      refine At.weaken [3] (L' := [(3, .int .i64 acc)]) (by kernel_rfl) ?_
      have h0 : (leftOf es seen).toList = [] := List.eq_nil_of_length_eq_zero (by simpa using hk)
      rw [h0, show tot [] = 0 from rfl, Int.add_zero, ha] at hT
      rw [hT]
      exact hn0 _ seen hS
    · have : 0 < (leftOf es seen).toList.length := List.length_pos_of_mem he
      exact absurd (by simpa using hk) (by omega : ¬ (leftOf es seen).toList.length = 0)
  | succ k ih =>
    intro seen acc w hk hT ha hS
    refine WL.round ?_
    refine WC.seq (by kernel_rfl) ?_
    refine WC.reg [0, 1] (by kernel_rfl) (by kernel_rfl) ?_
    refine WR.st (St.next (.tmp 12) (by kernel_rfl) (by kernel_rfl) hs hS (by kernel_rfl) (fun h0 => ?_) (fun e he w' hS => ?_))
    · omega
    · refine WR.runk [1] [] [3, 12, 14] (L' := [(3, .int .i64 acc), (12, .pointer (some ⟨r, 0, none⟩)), (14, .bool true)]) (w' := w') (by kernel_rfl) ?_
      refine WR.nil ?_
      refine At.go ?_
      refine WC.seq (by kernel_rfl) ?_
      refine WC.condT (by kernel_rfl) (by kernel_rfl) (by kernel_rfl) ?_
      refine WC.skip (by kernel_rfl) ?_
      refine At.go ?_
      refine WC.block (by kernel_rfl) ?_
      refine WC.seq (by kernel_rfl) ?_
      refine WC.reg [0, 1, 2] (by kernel_rfl) (by kernel_rfl) ?_
      have hes : e ∈ es.toList := by
        have he' := he
        unfold leftOf at he'
        rw [Array.toList_filter] at he'
        exact (List.mem_filter.1 he').1
      obtain ⟨v, hev⟩ := hv e hes
      obtain ⟨h1, h2⟩ := tot_out _ e (left_nodup hs seen) he
      rw [← left_push] at h1 h2
      refine WR.st (St.entry (.tmp 12) (by kernel_rfl) (by kernel_rfl) hs hes hS (by kernel_rfl) ?_)
      rw [hev]
      refine WR.runk [1, 2] [] [3, 5, 12] (L' := [(3, .int .i64 acc), (5, .int .i64 v), (12, .pointer (some ⟨r, 0, none⟩))]) (w' := w') (by kernel_rfl) ?_
      refine WR.nil ?_
      refine At.go ?_
      refine WC.reg [0, 1, 2, 3] (by kernel_rfl) (by kernel_rfl) ?_
      refine WR.runk [0, 1, 2, 3] [] [3, 12] (L' := [(3, .int .i64 (wi (acc + v))), (12, .pointer (some ⟨r, 0, none⟩))]) (w' := w') (by kernel_rfl) ?_
      refine WR.nil ?_
      refine At.blockNormal ?_
      refine At.again ?_
      refine ih (seen.push e.born) (wi (acc + v)) w' ?_ ?_ ?_ hS
      · have e1 : (leftOf es (seen.push e.born)).toList.length = (leftOf es (seen.push e.born)).size := by simp
        have e2 : (leftOf es seen).toList.length = (leftOf es seen).size := by simp
        omega
      · rw [hev] at h1
        rw [quota_Gate_All.wi_add, ← hT]
        congr 1
        have h1' : tot (leftOf es (seen.push e.born)).toList + v = tot (leftOf es seen).toList := h1
        omega
      · have := quota_Gate_All.wi_add (acc + v) 0
        rw [Int.add_zero, Int.add_zero] at this; exact this
theorem quota_Gate_All.vals {es : Array MapEntry} {m : List (Int × Int)} (h : ekv es = kv .i64 .i64 m) : (∀ e ∈ es.toList, ∃ v, e.val = .int .i64 v) ∧ tot es.toList = (m.map (·.2)).sum := by
  have key : ∀ (l : List MapEntry) (m : List (Int × Int)), l.map (fun e => (e.key, e.val)) = m.map (fun p => (Value.int .i64 p.1, Value.int .i64 p.2)) → (∀ e ∈ l, ∃ v, e.val = .int .i64 v) ∧ tot l = (m.map (·.2)).sum := by
    intro l
    induction l with
    | nil => intro m h; cases m with
      | nil => exact ⟨fun e h => (by cases h), rfl⟩
      | cons a m => simp at h
    | cons a l ih => intro m h; cases m with
      | nil => simp at h
      | cons p m =>
        simp only [List.map_cons, List.cons.injEq, Prod.mk.injEq] at h
        obtain ⟨h1, h2⟩ := ih m h.2
        refine ⟨fun e he => ?_, ?_⟩
        · rcases List.mem_cons.1 he with rfl | he
          · exact ⟨p.2, h.1.2⟩
          · exact h1 e he
        · simp only [tot, List.map_cons, List.sum_cons] at h2 ⊢
          rw [h2, h.1.2]; rfl
  exact key es.toList m h
theorem quota_Gate_All.calls (B : Rf) (w0 : World) (b0 : Nat) (p0 : Int × (List (Int × Int)) × (List (Int × Int))) (hS : Sat w0 B [O49 b0 p0]) (r : Int) (H : quota_Gate_All.f p0 = some r) :
    Calls Try.prog 8 #[.pointer (some ⟨b0, 0, none⟩)] w0 (fun e w' => ∃ v, e = .returned v ∧ quota_Gate_All.post B b0 p0 w0 r v w') := by
  unfold quota_Gate_All.f at H
  refine calls_of_WC (vs := [.pointer (some ⟨b0, 0, none⟩)]) Try.func8 (c := C8) (n := 21) (by kernel_rfl) (by kernel_rfl) (by kernel_rfl) ?_
  refine WC.seq (by kernel_rfl) ?_
  refine WC.reg [0] (by kernel_rfl) (by kernel_rfl) ?_
  refine WR.runk [0] [] [0] (L' := [(0, .pointer (some ⟨b0, 0, none⟩))]) (w' := w0) (by kernel_rfl) ?_
  refine WR.nil ?_
  refine At.go ?_
  refine WC.seq (by kernel_rfl) ?_
  refine WC.seq (by kernel_rfl) ?_
  refine WC.reg [0, 1] (by kernel_rfl) (by kernel_rfl) ?_
  refine WR.runk [0, 1] [] [0, 7] (L' := [(0, .pointer (some ⟨b0, 0, none⟩)), (7, .bool false)]) (w' := w0) (by kernel_rfl) ?_
  refine WR.nil ?_
  refine At.go ?_
  refine WC.condF (by kernel_rfl) (by kernel_rfl) (by kernel_rfl) ?_
  refine WC.skip (by kernel_rfl) ?_
  refine At.go ?_
  refine WC.seq (by kernel_rfl) ?_
  refine WC.reg [0] (by kernel_rfl) (by kernel_rfl) ?_
  refine WR.runk [0] [] [0, 3] (L' := [(0, .pointer (some ⟨b0, 0, none⟩)), (3, .int .i64 0)]) (w' := w0) (by kernel_rfl) ?_
  refine WR.nil ?_
  refine At.go ?_
  refine WC.seq (by kernel_rfl) ?_
  refine WC.seq (by kernel_rfl) ?_
  refine WC.reg [0, 1, 2, 3, 4] (by kernel_rfl) (by kernel_rfl) ?_
  refine WR.runk [0, 1, 2] [3, 4] [3, 10] (L' := [(3, .int .i64 0), (10, .pointer (some ⟨b0, 2, none⟩))]) (w' := w0) (by kernel_rfl) ?_
  obtain ⟨A1, c2, mb3, hS⟩ := O49.open hS
  have hS : Sat w0 B [pts b0 (.cells #[.int .i64 p0.1, .slice A1 p0.2.1.length c2, .map (some mb3)] 49 (0, 0)), osl 27 (r0 (.pair (.int .i64) (.int .i64))) 2 A1 c2 p0.2.1, omp .i64 .i64 mb3 p0.2.2] := hS
  refine WR.st (St.ofR (RSt.loadObj (t := 47) (k := 2) (v := .map (some mb3)) (.tmp 10) (by kernel_rfl) (by kernel_rfl) (by kernel_rfl) 0 hS rfl (by kernel_rfl) rfl ?_))
  have hS : Sat w0 B [omp .i64 .i64 mb3 p0.2.2, pts b0 (.cells #[.int .i64 p0.1, .slice A1 p0.2.1.length c2, .map (some mb3)] 49 (0, 0)), osl 27 (r0 (.pair (.int .i64) (.int .i64))) 2 A1 c2 p0.2.1] := hS.sel [2, 0, 1] (by kernel_rfl)
  obtain ⟨es, clock, hs, he, hS⟩ := omp.op hS
  obtain ⟨hv, htot⟩ := quota_Gate_All.vals he
  refine WR.st (St.range (t := 47) (k := 3) (e := 3) (.tmp 11) (by kernel_rfl) (by kernel_rfl) (by kernel_rfl) hS (by kernel_rfl) (fun q w1 hS => ?_))
  refine WR.runk [] [] [3, 12] (L' := [(3, .int .i64 0), (12, .pointer (some ⟨q, 0, none⟩))]) (w' := w1) (by kernel_rfl) ?_
  refine WR.nil ?_
  refine At.go ?_
  refine WC.block (by kernel_rfl) ?_
  refine WC.loop (by kernel_rfl) ?_
  have hall : (leftOf es #[]).toList = es.toList := by unfold leftOf; simp
  refine quota_Gate_All.l1_ok q mb3 es clock hs hv ((p0.2.2.map (·.2)).sum) (fun w2 seen hS => ?_) (leftOf es #[]).size #[] 0 w1 rfl (by rw [hall, htot, Int.zero_add]) (by decide) hS
  refine At.hit ?_
  refine At.go ?_
  refine WC.seq (by kernel_rfl) ?_
  refine WC.reg [0, 1] (by kernel_rfl) (by kernel_rfl) ?_
  refine WR.runk [0, 1] [] [2] (L' := [(2, .int .i64 (wi (p0.2.2.map (·.2)).sum))]) (w' := w2) (by kernel_rfl) ?_
  refine WR.nil ?_
  refine At.go ?_
  refine WC.ret (by kernel_rfl) ?_
  obtain rfl := Option.some.inj H
  have hS : Sat w2 B [pts mb3 (.map es clock), pts b0 (.cells #[.int .i64 p0.1, .slice A1 p0.2.1.length c2, .map (some mb3)] 49 (0, 0)), osl 27 (r0 (.pair (.int .i64) (.int .i64))) 2 A1 c2 p0.2.1] := hS.sel [1, 2, 3] (by kernel_rfl)
  have hS := omp.cl hs he hS
  have hS : Sat w2 B [pts b0 (.cells #[.int .i64 p0.1, .slice A1 p0.2.1.length c2, .map (some mb3)] 49 (0, 0)), osl 27 (r0 (.pair (.int .i64) (.int .i64))) 2 A1 c2 p0.2.1, omp .i64 .i64 mb3 p0.2.2] := hS.sel [1, 2, 0] (by kernel_rfl)
  have hS : Sat w2 B [O49 b0 p0] := O49.close p0 A1 c2 mb3 hS
  exact At.body [.int .i64 (wi (p0.2.2.map (·.2)).sum)] (by kernel_rfl) ⟨_, rfl, rfl, hS⟩

/-! ### 20 colophon/quota.Right$1 -/
def quota_Right_1.f (a0 : Int × Int) : Option Bool := (if decide (a0.1 < 1) then some true else (if decide (a0.1 > 16) then some true else (if decide (a0.2 < 0) then some true else some (decide (a0.2 > 64)))))
def quota_Right_1.post (w : World) (r : Bool) (v : Value) (w' : World) : Prop := v = (.bool r : Value) ∧ Sat w' (rf w) []
theorem quota_Right_1.calls (w0 : World) (a0 : Int × Int) (r : Bool) (H : quota_Right_1.f a0 = some r) :
    Calls Try.prog 20 #[.agg #[.int .i64 a0.1, .int .i64 a0.2]] w0 (fun e w' => ∃ v, e = .returned v ∧ quota_Right_1.post w0 r v w') := by
  have hS : Sat w0 (rf w0) [] := Sat.start w0
  unfold quota_Right_1.f at H
  refine calls_of_WC (vs := [.agg #[.int .i64 a0.1, .int .i64 a0.2]]) Try.func20 (c := C20) (n := 21) (by kernel_rfl) (by kernel_rfl) (by kernel_rfl) ?_
  refine WC.seq (by kernel_rfl) ?_
  refine WC.reg [0, 1] (by kernel_rfl) (by kernel_rfl) ?_
  refine WR.runk [] [0, 1] [0] (L' := [(0, .agg #[.int .i64 a0.1, .int .i64 a0.2])]) (w' := w0) (by kernel_rfl) ?_
  refine WR.st (St.box hS (by kernel_rfl) (.cells #[.int .i64 a0.1, .int .i64 a0.2] 27) (fun b1 => .pointer (some ⟨b1, 0, none⟩)) (fun _ => by kernel_rfl) (fun b1 w2 hS => ?_))
  refine WR.runk [1] [] [1] (L' := [(1, .pointer (some ⟨b1, 0, none⟩))]) (w' := w2) (by kernel_rfl) ?_
  refine WR.nil ?_
  refine At.go ?_
  refine WC.seq (by kernel_rfl) ?_
  refine WC.reg [0, 1, 2, 3, 4, 5, 6, 7, 8, 9, 10, 11, 12, 13, 14, 15, 16, 17, 18] (by kernel_rfl) (by kernel_rfl) ?_
  refine WR.runk [0] [1, 2, 3, 4, 5, 6, 7, 8, 9, 10, 11, 12, 13, 14, 15, 16, 17, 18] [1, 3] (L' := [(1, .pointer (some ⟨b1, 0, none⟩)), (3, .pointer (some ⟨b1, 0, none⟩))]) (w' := w2) (by kernel_rfl) ?_
  refine WR.st (St.ofR (RSt.loadObj (t := 3) (k := 0) (v := .int .i64 a0.1) (.tmp 3) (by kernel_rfl) (by kernel_rfl) (by kernel_rfl) 0 hS rfl (by kernel_rfl) rfl ?_))
  refine WR.runk [2, 3] [4, 5, 6, 7, 8, 9, 10, 11, 12, 13, 14, 15, 16, 17, 18] [1, 6] (L' := [(1, .pointer (some ⟨b1, 0, none⟩)), (6, .bool (decide (a0.1 < 1)))]) (w' := w2) (by kernel_rfl) ?_
  refine WR.split 6 (b := decide (a0.1 < 1)) (by kernel_rfl) (fun hb4 => ?_) (fun hb4 => ?_)
  · replace H := ite_t H hb4
    refine WR.runk [4, 5, 6, 7, 8, 9, 10, 11, 12, 13, 14, 15, 16, 17, 18] [] [2] (L' := [(2, .bool true)]) (w' := w2) (by kernel_rfl) ?_
    refine WR.nil ?_
    refine At.go ?_
    refine WC.ret (by kernel_rfl) ?_
    obtain rfl := Option.some.inj H
    have hS : Sat w2 (rf w0) [] := hS.sel [] (by kernel_rfl)
    exact At.body [.bool true] (by kernel_rfl) ⟨_, rfl, rfl, hS⟩
  · replace H := ite_f H hb4
    refine WR.runk [4] [5, 6, 7, 8, 9, 10, 11, 12, 13, 14, 15, 16, 17, 18] [1, 6, 7] (L' := [(1, .pointer (some ⟨b1, 0, none⟩)), (6, .bool false), (7, .pointer (some ⟨b1, 0, none⟩))]) (w' := w2) (by kernel_rfl) ?_
    refine WR.st (St.ofR (RSt.loadObj (t := 3) (k := 0) (v := .int .i64 a0.1) (.tmp 7) (by kernel_rfl) (by kernel_rfl) (by kernel_rfl) 0 hS rfl (by kernel_rfl) rfl ?_))
    refine WR.runk [6, 7, 8] [9, 10, 11, 12, 13, 14, 15, 16, 17, 18] [1, 11] (L' := [(1, .pointer (some ⟨b1, 0, none⟩)), (11, .bool (decide (a0.1 > 16)))]) (w' := w2) (by kernel_rfl) ?_
    refine WR.split 11 (b := decide (a0.1 > 16)) (by kernel_rfl) (fun hb5 => ?_) (fun hb5 => ?_)
    · replace H := ite_t H hb5
      refine WR.runk [9, 10, 11, 12, 13, 14, 15, 16, 17, 18] [] [2] (L' := [(2, .bool true)]) (w' := w2) (by kernel_rfl) ?_
      refine WR.nil ?_
      refine At.go ?_
      refine WC.ret (by kernel_rfl) ?_
      obtain rfl := Option.some.inj H
      have hS : Sat w2 (rf w0) [] := hS.sel [] (by kernel_rfl)
      exact At.body [.bool true] (by kernel_rfl) ⟨_, rfl, rfl, hS⟩
    · replace H := ite_f H hb5
      refine WR.runk [9] [10, 11, 12, 13, 14, 15, 16, 17, 18] [1, 11, 12] (L' := [(1, .pointer (some ⟨b1, 0, none⟩)), (11, .bool false), (12, .pointer (some ⟨b1, 1, none⟩))]) (w' := w2) (by kernel_rfl) ?_
      refine WR.st (St.ofR (RSt.loadObj (t := 3) (k := 1) (v := .int .i64 a0.2) (.tmp 12) (by kernel_rfl) (by kernel_rfl) (by kernel_rfl) 0 hS rfl (by kernel_rfl) rfl ?_))
      refine WR.runk [11, 12, 13] [14, 15, 16, 17, 18] [1, 16] (L' := [(1, .pointer (some ⟨b1, 0, none⟩)), (16, .bool (decide (a0.2 < 0)))]) (w' := w2) (by kernel_rfl) ?_
      refine WR.split 16 (b := decide (a0.2 < 0)) (by kernel_rfl) (fun hb6 => ?_) (fun hb6 => ?_)
      · replace H := ite_t H hb6
        refine WR.runk [14, 15, 16, 17, 18] [] [2] (L' := [(2, .bool true)]) (w' := w2) (by kernel_rfl) ?_
        refine WR.nil ?_
        refine At.go ?_
        refine WC.ret (by kernel_rfl) ?_
        obtain rfl := Option.some.inj H
        have hS : Sat w2 (rf w0) [] := hS.sel [] (by kernel_rfl)
        exact At.body [.bool true] (by kernel_rfl) ⟨_, rfl, rfl, hS⟩
      · replace H := ite_f H hb6
        refine WR.runk [14] [15, 16, 17, 18] [16, 17] (L' := [(16, .bool false), (17, .pointer (some ⟨b1, 1, none⟩))]) (w' := w2) (by kernel_rfl) ?_
        refine WR.st (St.ofR (RSt.loadObj (t := 3) (k := 1) (v := .int .i64 a0.2) (.tmp 17) (by kernel_rfl) (by kernel_rfl) (by kernel_rfl) 0 hS rfl (by kernel_rfl) rfl ?_))
        refine WR.runk [16, 17, 18] [] [2] (L' := [(2, .bool (decide (a0.2 > 64)))]) (w' := w2) (by kernel_rfl) ?_
        refine WR.nil ?_
        refine At.go ?_
        refine WC.ret (by kernel_rfl) ?_
        obtain rfl := Option.some.inj H
        have hS : Sat w2 (rf w0) [] := hS.sel [] (by kernel_rfl)
        exact At.body [.bool (decide (a0.2 > 64))] (by kernel_rfl) ⟨_, rfl, rfl, hS⟩
/-! ### 12 colophon/quota.Right -/
def quota_Right.l1 (l0 : List (Int × Int)) : Nat → Int → Option (Sum Int Unit)
  | 0, _ => none
  | k + 1, x8_l1 => (if decide (x8_l1 < (l0.length : Int)) then ((at? l0 x8_l1).bind fun v4 => ((quota_Right_1.f (v4.1, v4.2)).bind fun r6 => (if r6 then some (.inl x8_l1) else quota_Right.l1 l0 k (wi (x8_l1 + 1))))) else some (.inr ()))
def quota_Right.f (l0 : List (Int × Int)) : Option Bool := (if decide ((l0.length : Int) < 1) then some false else (if decide ((l0.length : Int) > 16) then some false else ((quota_Right.l1 l0 FU 0).bind fun o16 => (match o16 with | .inl o18 => some (!(decide (o18 ≥ 0))) | .inr o22 => some (!(decide ((-1) ≥ 0)))))))
def quota_Right.post (w : World) (r : Bool) (v : Value) (w' : World) : Prop := v = (.bool r : Value) ∧ Sat w' (rf w) []
theorem quota_Right.l1_ok {Q} (w0 : World) (A0 : Option Addr) (c0 : Nat) (l0 : List (Int × Int)) (R0 : rdS (r0 (.pair (.int .i64) (.int .i64))) 2 (hp w0) A0 c0 l0) (out : Sum Int Unit) (hn0 : ∀ (o0 : Int) (w : World), out = (.inl o0) → Sat w (rf w0) [] → At Q .ret 19 [(4, .int .i64 o0)] w) (hn1 : ∀ (o1 : Unit) (w : World), out = (.inr o1) → Sat w (rf w0) [] → At Q (.exit 0) 19 [] w) :
    ∀ (k : Nat) (x8_l1 : Int) (w : World), Sat w (rf w0) [] → quota_Right.l1 l0 k x8_l1 = some out → WL Try.prog (cbody (cbody (cr (cl (cr C21))))) Q 19 [(0, .slice A0 l0.length c0), (1, .func (.func 20) #[] #[]), (7, .int .i64 (l0.length : Int)), (8, .int .i64 x8_l1)] w := by
  intro k
  induction k with
  | zero => intro x8_l1 w hS H; exact absurd (show none = some out from H) (by simp)
  | succ k ih =>
    intro x8_l1 w hS H
    unfold quota_Right.l1 at H
    refine WL.round ?_
    refine WC.seq (by kernel_rfl) ?_
    refine WC.reg [0] (by kernel_rfl) (by kernel_rfl) ?_
    refine WR.runk [0] [] [0, 1, 7, 8, 9] (L' := [(0, .slice A0 l0.length c0), (1, .func (.func 20) #[] #[]), (7, .int .i64 (l0.length : Int)), (8, .int .i64 x8_l1), (9, .bool (decide (x8_l1 < (l0.length : Int))))]) (w' := w) (by kernel_rfl) ?_
    refine WR.nil ?_
    refine At.go ?_
    refine WC.seq (by kernel_rfl) ?_
    refine WC.cond (by kernel_rfl) (decide (x8_l1 < (l0.length : Int))) (by kernel_rfl) (by kernel_rfl) (fun hb3 => ?_) (fun hb3 => ?_)
    · replace H := ite_t H hb3
      refine WC.skip (by kernel_rfl) ?_
      refine At.go ?_
      refine WC.seq (by kernel_rfl) ?_
      refine WC.block (by kernel_rfl) ?_
      refine WC.seq (by kernel_rfl) ?_
      refine WC.reg [0, 1] (by kernel_rfl) (by kernel_rfl) ?_
      refine WR.runk [0, 1] [] [0, 1, 5, 7, 8] (L' := [(0, .slice A0 l0.length c0), (1, .func (.func 20) #[] #[]), (5, .int .i64 x8_l1), (7, .int .i64 (l0.length : Int)), (8, .int .i64 x8_l1)]) (w' := w) (by kernel_rfl) ?_
      refine WR.nil ?_
      refine At.go ?_
      refine WC.seq (by kernel_rfl) ?_
      refine WC.reg [0, 1, 2, 3, 4, 5] (by kernel_rfl) (by kernel_rfl) ?_
      refine WR.runk [0, 1, 2] [3, 4, 5] [0, 1, 5, 7, 8, 11, 12, 13] (L' := [(0, .slice A0 l0.length c0), (1, .func (.func 20) #[] #[]), (5, .int .i64 x8_l1), (7, .int .i64 (l0.length : Int)), (8, .int .i64 x8_l1), (11, .func (.func 20) #[] #[]), (12, .slice A0 l0.length c0), (13, .int .i64 x8_l1)]) (w' := w) (by kernel_rfl) ?_
      obtain ⟨v4, e5, H⟩ := bind_ex H
      refine WR.st (St.ofP (PSt.idx (k := .i64) (.tmp 12) (.tmp 13) (by kernel_rfl) (by kernel_rfl) E25 (by kernel_rfl) (by kernel_rfl) (rdS.up R0 hS.sub0) e5 ?_))
      refine WR.runk [] [4, 5] [0, 1, 5, 7, 8, 11, 14] (L' := [(0, .slice A0 l0.length c0), (1, .func (.func 20) #[] #[]), (5, .int .i64 x8_l1), (7, .int .i64 (l0.length : Int)), (8, .int .i64 x8_l1), (11, .func (.func 20) #[] #[]), (14, .pointer (some (adr A0 x8_l1.toNat 2)))]) (w' := w) (by kernel_rfl) ?_
      refine WR.st (St.ofR (RSt.loadFlat (t := 27) (κ := (.pair (.int .i64) (.int .i64))) (.tmp 14) (by kernel_rfl) (by kernel_rfl) (by kernel_rfl) (by kernel_rfl) (by kernel_rfl) (by kernel_rfl) (rdS.up R0 hS.sub0) e5 ?_))
      refine WR.runk [] [5] [0, 1, 5, 7, 8, 11, 15] (L' := [(0, .slice A0 l0.length c0), (1, .func (.func 20) #[] #[]), (5, .int .i64 x8_l1), (7, .int .i64 (l0.length : Int)), (8, .int .i64 x8_l1), (11, .func (.func 20) #[] #[]), (15, .agg #[.int .i64 v4.1, .int .i64 v4.2])]) (w' := w) (by kernel_rfl) ?_
      obtain ⟨r6, e7, H⟩ := bind_ex H
      refine WR.st (St.call (by kernel_rfl) (f := 20) (args := #[.agg #[.int .i64 v4.1, .int .i64 v4.2]]) (by kernel_rfl) (quota_Right_1.calls w (v4.1, v4.2) r6 e7) ?_)
      rintro _ w13 ⟨rfl, hS14⟩
      have hS : Sat w13 (rf w0) [] := hS.ext hS14
      refine WR.runk [] [] [0, 1, 5, 7, 8, 16] (L' := [(0, .slice A0 l0.length c0), (1, .func (.func 20) #[] #[]), (5, .int .i64 x8_l1), (7, .int .i64 (l0.length : Int)), (8, .int .i64 x8_l1), (16, .bool r6)]) (w' := w13) (by kernel_rfl) ?_
      refine WR.nil ?_
      refine At.go ?_
      refine WC.cond (by kernel_rfl) r6 (by kernel_rfl) (by kernel_rfl) (fun hb15 => ?_) (fun hb15 => ?_)
      · replace H := ite_t H hb15
        refine WC.seq (by kernel_rfl) ?_
        refine WC.reg [0, 1] (by kernel_rfl) (by kernel_rfl) ?_
        refine WR.runk [0, 1] [] [4] (L' := [(4, .int .i64 x8_l1)]) (w' := w13) (by kernel_rfl) ?_
        refine WR.nil ?_
        refine At.go ?_
        refine WC.ret (by kernel_rfl) ?_
        refine At.blockRet ?_
        refine At.thenRet ?_
        refine At.thenRet ?_
        obtain rfl := Option.some.inj H
        have hS : Sat w13 (rf w0) [] := hS.sel [] (by kernel_rfl)
        refine At.weaken [4] (L' := [(4, .int .i64 x8_l1)]) (by kernel_rfl) ?_
        exact hn0 x8_l1 _ rfl hS
      · replace H := ite_f H hb15
        refine WC.skip (by kernel_rfl) ?_
        refine At.blockNormal ?_
        refine At.go ?_
        refine WC.reg [0, 1] (by kernel_rfl) (by kernel_rfl) ?_
        refine WR.runk [0, 1] [] [0, 1, 7, 8] (L' := [(0, .slice A0 l0.length c0), (1, .func (.func 20) #[] #[]), (7, .int .i64 (l0.length : Int)), (8, .int .i64 (wi (x8_l1 + 1)))]) (w' := w13) (by kernel_rfl) ?_
        refine WR.nil ?_
        have hS : Sat w13 (rf w0) [] := hS.sel [] (by kernel_rfl)
        refine At.again ?_
        refine WL.weaken [0, 1, 7, 8] (L' := [(0, .slice A0 l0.length c0), (1, .func (.func 20) #[] #[]), (7, .int .i64 (l0.length : Int)), (8, .int .i64 (wi (x8_l1 + 1)))]) (by kernel_rfl) ?_
        exact ih (wi (x8_l1 + 1)) _ hS H
    · replace H := ite_f H hb3
      refine WC.exit (by kernel_rfl) ?_
      refine At.thenExit ?_
      refine At.thenExit ?_
      obtain rfl := Option.some.inj H
      have hS : Sat w (rf w0) [] := hS.sel [] (by kernel_rfl)
      refine At.weaken [] (L' := []) (by kernel_rfl) ?_
      exact hn1 () _ rfl hS
theorem quota_Right.calls (w0 : World) (A0 : Option Addr) (c0 : Nat) (l0 : List (Int × Int)) (R0 : rdS (r0 (.pair (.int .i64) (.int .i64))) 2 (hp w0) A0 c0 l0) (r : Bool) (H : quota_Right.f l0 = some r) :
    Calls Try.prog 12 #[.slice A0 l0.length c0] w0 (fun e w' => ∃ v, e = .returned v ∧ quota_Right.post w0 r v w') := by
  have hS : Sat w0 (rf w0) [] := Sat.start w0
  unfold quota_Right.f at H
  refine calls_of_WC (vs := [.slice A0 l0.length c0]) Try.func12 (c := C12) (n := 14) (by kernel_rfl) (by kernel_rfl) (by kernel_rfl) ?_
  refine WC.seq (by kernel_rfl) ?_
  refine WC.reg [0] (by kernel_rfl) (by kernel_rfl) ?_
  refine WR.runk [0] [] [0] (L' := [(0, .slice A0 l0.length c0)]) (w' := w0) (by kernel_rfl) ?_
  refine WR.nil ?_
  refine At.go ?_
  refine WC.seq (by kernel_rfl) ?_
  refine WC.seq (by kernel_rfl) ?_
  refine WC.reg [0, 1, 2, 3, 4, 5, 6, 7] (by kernel_rfl) (by kernel_rfl) ?_
  refine WR.runk [0, 1, 2, 3] [4, 5, 6, 7] [0, 6] (L' := [(0, .slice A0 l0.length c0), (6, .bool (decide ((l0.length : Int) < 1)))]) (w' := w0) (by kernel_rfl) ?_
  refine WR.split 6 (b := decide ((l0.length : Int) < 1)) (by kernel_rfl) (fun hb1 => ?_) (fun hb1 => ?_)
  · replace H := ite_t H hb1
    refine WR.runk [4, 5, 6, 7] [] [0, 10] (L' := [(0, .slice A0 l0.length c0), (10, .bool true)]) (w' := w0) (by kernel_rfl) ?_
    refine WR.nil ?_
    refine At.go ?_
    refine WC.condT (by kernel_rfl) (by kernel_rfl) (by kernel_rfl) ?_
    refine WC.seq (by kernel_rfl) ?_
    refine WC.reg [0] (by kernel_rfl) (by kernel_rfl) ?_
    refine WR.runk [0] [] [2] (L' := [(2, .bool false)]) (w' := w0) (by kernel_rfl) ?_
    refine WR.nil ?_
    refine At.go ?_
    refine WC.ret (by kernel_rfl) ?_
    refine At.thenRet ?_
    obtain rfl := Option.some.inj H
    have hS : Sat w0 (rf w0) [] := hS.sel [] (by kernel_rfl)
    exact At.body [.bool false] (by kernel_rfl) ⟨_, rfl, rfl, hS⟩
  · replace H := ite_f H hb1
    refine WR.runk [4, 5, 6, 7] [] [0, 10] (L' := [(0, .slice A0 l0.length c0), (10, .bool (decide ((l0.length : Int) > 16)))]) (w' := w0) (by kernel_rfl) ?_
    refine WR.nil ?_
    refine At.go ?_
    refine WC.cond (by kernel_rfl) (decide ((l0.length : Int) > 16)) (by kernel_rfl) (by kernel_rfl) (fun hb2 => ?_) (fun hb2 => ?_)
    · replace H := ite_t H hb2
      refine WC.seq (by kernel_rfl) ?_
      refine WC.reg [0] (by kernel_rfl) (by kernel_rfl) ?_
      refine WR.runk [0] [] [2] (L' := [(2, .bool false)]) (w' := w0) (by kernel_rfl) ?_
      refine WR.nil ?_
      refine At.go ?_
      refine WC.ret (by kernel_rfl) ?_
      refine At.thenRet ?_
      obtain rfl := Option.some.inj H
      have hS : Sat w0 (rf w0) [] := hS.sel [] (by kernel_rfl)
      exact At.body [.bool false] (by kernel_rfl) ⟨_, rfl, rfl, hS⟩
    · replace H := ite_f H hb2
      refine WC.skip (by kernel_rfl) ?_
      refine At.go ?_
      refine WC.seq (by kernel_rfl) ?_
      refine WC.reg [0, 1, 2, 3] (by kernel_rfl) (by kernel_rfl) ?_
      refine WR.runk [0] [1, 2, 3] [11] (L' := [(11, .slice A0 l0.length c0)]) (w' := w0) (by kernel_rfl) ?_
      refine WR.st (St.call (by kernel_rfl) (f := 19) (args := #[.slice A0 l0.length c0, .func (.func 20) #[] #[]]) (by kernel_rfl) (calls_of_WC (vs := [.slice A0 l0.length c0, .func (.func 20) #[] #[]]) Try.func19 (c := C19) (n := 9) (by kernel_rfl) (by kernel_rfl) (by kernel_rfl) ?_) (fun _ _ h => h))
      refine WC.seq (by kernel_rfl) ?_
      refine WC.reg [0] (by kernel_rfl) (by kernel_rfl) ?_
      refine WR.runk [0] [] [0, 1] (L' := [(0, .slice A0 l0.length c0), (1, .func (.func 20) #[] #[])]) (w' := w0) (by kernel_rfl) ?_
      refine WR.nil ?_
      refine At.go ?_
      refine WC.seq (by kernel_rfl) ?_
      refine WC.reg [0, 1, 2, 3, 4] (by kernel_rfl) (by kernel_rfl) ?_
      refine WR.runk [0, 1] [2, 3, 4] [5, 6] (L' := [(5, .slice A0 l0.length c0), (6, .func (.func 20) #[] #[])]) (w' := w0) (by kernel_rfl) ?_
      refine WR.st (St.call (by kernel_rfl) (f := 21) (args := #[.slice A0 l0.length c0, .func (.func 20) #[] #[]]) (by kernel_rfl) (calls_of_WC (vs := [.slice A0 l0.length c0, .func (.func 20) #[] #[]]) Try.func21 (c := C21) (n := 19) (by kernel_rfl) (by kernel_rfl) (by kernel_rfl) ?_) (fun _ _ h => h))
      refine WC.seq (by kernel_rfl) ?_
      refine WC.reg [0] (by kernel_rfl) (by kernel_rfl) ?_
      refine WR.runk [0] [] [0, 1] (L' := [(0, .slice A0 l0.length c0), (1, .func (.func 20) #[] #[])]) (w' := w0) (by kernel_rfl) ?_
      refine WR.nil ?_
      refine At.go ?_
      refine WC.seq (by kernel_rfl) ?_
      refine WC.seq (by kernel_rfl) ?_
      refine WC.reg [0, 1, 2] (by kernel_rfl) (by kernel_rfl) ?_
      refine WR.runk [0, 1, 2] [] [0, 1, 7, 8] (L' := [(0, .slice A0 l0.length c0), (1, .func (.func 20) #[] #[]), (7, .int .i64 (l0.length : Int)), (8, .int .i64 0)]) (w' := w0) (by kernel_rfl) ?_
      refine WR.nil ?_
      refine At.go ?_
      refine WC.block (by kernel_rfl) ?_
      have hS : Sat w0 (rf w0) [] := hS.sel [] (by kernel_rfl)
      obtain ⟨o16, e17, H⟩ := bind_ex H
      refine WC.loop (by kernel_rfl) ?_
      refine WL.weaken [0, 1, 7, 8] (L' := [(0, .slice A0 l0.length c0), (1, .func (.func 20) #[] #[]), (7, .int .i64 (l0.length : Int)), (8, .int .i64 0)]) (by kernel_rfl) ?_
      refine quota_Right.l1_ok w0 A0 c0 l0 R0 o16 (fun o18 w20 ho21 hS => ?_) (fun o22 w24 ho25 hS => ?_) FU 0 _ hS e17
      · subst ho21
        dsimp only at H
        refine At.blockRet ?_
        refine At.thenRet ?_
        refine At.bodyK [.int .i64 o18] (.int .i64 o18) (by kernel_rfl) rfl ?_
        refine WR.runk [3, 4] [] [4] (L' := [(4, .bool (decide (o18 ≥ 0)))]) (w' := w20) (by kernel_rfl) ?_
        refine WR.nil ?_
        refine At.go ?_
        refine WC.ret (by kernel_rfl) ?_
        refine At.bodyK [.bool (decide (o18 ≥ 0))] (.bool (decide (o18 ≥ 0))) (by kernel_rfl) rfl ?_
        refine WR.runk [2, 3] [] [2] (L' := [(2, .bool (!(decide (o18 ≥ 0))))]) (w' := w20) (by kernel_rfl) ?_
        refine WR.nil ?_
        refine At.go ?_
        refine WC.ret (by kernel_rfl) ?_
        obtain rfl := Option.some.inj H
        have hS : Sat w20 (rf w0) [] := hS.sel [] (by kernel_rfl)
        exact At.body [.bool (!(decide (o18 ≥ 0)))] (by kernel_rfl) ⟨_, rfl, rfl, hS⟩
      · subst ho25
        dsimp only at H
        refine At.hit ?_
        refine At.go ?_
        refine WC.seq (by kernel_rfl) ?_
        refine WC.reg [0] (by kernel_rfl) (by kernel_rfl) ?_
        refine WR.runk [0] [] [4] (L' := [(4, .int .i64 (-1))]) (w' := w24) (by kernel_rfl) ?_
        refine WR.nil ?_
        refine At.go ?_
        refine WC.ret (by kernel_rfl) ?_
        refine At.bodyK [.int .i64 (-1)] (.int .i64 (-1)) (by kernel_rfl) rfl ?_
        refine WR.runk [3, 4] [] [4] (L' := [(4, .bool (decide ((-1) ≥ 0)))]) (w' := w24) (by kernel_rfl) ?_
        refine WR.nil ?_
        refine At.go ?_
        refine WC.ret (by kernel_rfl) ?_
        refine At.bodyK [.bool (decide ((-1) ≥ 0))] (.bool (decide ((-1) ≥ 0))) (by kernel_rfl) rfl ?_
        refine WR.runk [2, 3] [] [2] (L' := [(2, .bool (!(decide ((-1) ≥ 0))))]) (w' := w24) (by kernel_rfl) ?_
        refine WR.nil ?_
        refine At.go ?_
        refine WC.ret (by kernel_rfl) ?_
        obtain rfl := Option.some.inj H
        have hS : Sat w24 (rf w0) [] := hS.sel [] (by kernel_rfl)
        exact At.body [.bool (!(decide ((-1) ≥ 0)))] (by kernel_rfl) ⟨_, rfl, rfl, hS⟩
/-! ### 17 slices.Clone[[]colophon/api.Tenant,colophon/api.Tenant] -/
def slices_Clone.f (l0 : List (Int × Int)) : Option (List (Int × Int)) := ((app? 8796093022208 (([] : List (Int × Int)) : List (Int × Int)) l0).bind fun y5 => some y5)
def slices_Clone.post (w : World) (r : (List (Int × Int))) (v : Value) (w' : World) : Prop := ∃ (A0' : Option Addr) (c0' : Nat), v = (.slice A0' r.length c0' : Value) ∧ Sat w' (rf w) [osl 27 (r0 (.pair (.int .i64) (.int .i64))) 2 A0' c0' r]
theorem slices_Clone.calls (w0 : World) (A0 : Option Addr) (c0 : Nat) (l0 : List (Int × Int)) (R0 : rdS (r0 (.pair (.int .i64) (.int .i64))) 2 (hp w0) A0 c0 l0) (r : (List (Int × Int))) (H : slices_Clone.f l0 = some r) :
    Calls Try.prog 17 #[.slice A0 l0.length c0] w0 (fun e w' => ∃ v, e = .returned v ∧ slices_Clone.post w0 r v w') := by
  have hS : Sat w0 (rf w0) [] := Sat.start w0
  unfold slices_Clone.f at H
  refine calls_of_WC (vs := [.slice A0 l0.length c0]) Try.func17 (c := C17) (n := 8) (by kernel_rfl) (by kernel_rfl) (by kernel_rfl) ?_
  refine WC.seq (by kernel_rfl) ?_
  refine WC.reg [0] (by kernel_rfl) (by kernel_rfl) ?_
  refine WR.runk [0] [] [0] (L' := [(0, .slice A0 l0.length c0)]) (w' := w0) (by kernel_rfl) ?_
  refine WR.nil ?_
  refine At.go ?_
  refine WC.seq (by kernel_rfl) ?_
  refine WC.seq (by kernel_rfl) ?_
  refine WC.reg [0, 1] (by kernel_rfl) (by kernel_rfl) ?_
  refine WR.runk [0] [1] [0, 3] (L' := [(0, .slice A0 l0.length c0), (3, .slice A0 l0.length c0)]) (w' := w0) (by kernel_rfl) ?_
  refine WR.st (St.ofP (PSt.eqNil (t := 25) (t2 := 25) (e := 27) (A := A0) (m := l0.length) (c := c0) .eql (by decide) (.tmp 3) (by kernel_rfl) (by kernel_rfl) (by kernel_rfl) (by kernel_rfl) ?_))
  refine WR.runk [] [] [0, 4] (L' := [(0, .slice A0 l0.length c0), (4, .bool A0.isNone)]) (w' := w0) (by kernel_rfl) ?_
  refine WR.nil ?_
  refine At.go ?_
  refine WC.cond (by kernel_rfl) A0.isNone (by kernel_rfl) (by kernel_rfl) (fun hb1 => ?_) (fun hb1 => ?_)
  · have hnl := rdS.isNone (rdS.up R0 hS.sub0) (by simpa using hb1)
    rw [hnl] at H
    refine WC.seq (by kernel_rfl) ?_
    refine WC.reg [0] (by kernel_rfl) (by kernel_rfl) ?_
    refine WR.runk [0] [] [2] (L' := [(2, .slice none 0 0)]) (w' := w0) (by kernel_rfl) ?_
    refine WR.nil ?_
    refine At.go ?_
    refine WC.ret (by kernel_rfl) ?_
    refine At.thenRet ?_
    obtain rfl := Option.some.inj (show some ([] : List (Int × Int)) = some r from H)
    have hS := hS.addNil (α := (Int × Int)) 27 (r0 (.pair (.int .i64) (.int .i64))) 2
    have hS : Sat w0 (rf w0) [osl 27 (r0 (.pair (.int .i64) (.int .i64))) 2 none 0 ([] : List (Int × Int))] := hS.sel [0] (by kernel_rfl)
    exact At.body [.slice none 0 0] (by kernel_rfl) ⟨_, rfl, _, _, rfl, hS⟩
  · refine WC.skip (by kernel_rfl) ?_
    refine At.go ?_
    refine WC.seq (by kernel_rfl) ?_
    refine WC.reg [0, 1, 2, 3] (by kernel_rfl) (by kernel_rfl) ?_
    refine WR.runk [] [0, 1, 2, 3] [0] (L' := [(0, .slice A0 l0.length c0)]) (w' := w0) (by kernel_rfl) ?_
    refine WR.st (St.box hS (by kernel_rfl) (.cells #[] 27) (fun b2 => .slice (some ⟨b2, 0, none⟩) 0 0) (fun _ => by kernel_rfl) (fun b2 w3 hS => ?_))
    refine WR.runk [1] [2, 3] [5, 6] (L' := [(5, .slice (some ⟨b2, 0, none⟩) 0 0), (6, .slice A0 l0.length c0)]) (w' := w3) (by kernel_rfl) ?_
    have hS : Sat w3 (rf w0) [osl 27 (r0 (.pair (.int .i64) (.int .i64))) 2 (some ⟨b2, 0, none⟩) (([] : List (Int × Int)) : List (Int × Int)).length (([] : List (Int × Int)) : List (Int × Int))] := Sat.toOsl' (r0 (.pair (.int .i64) (.int .i64))) 2 (([] : List (Int × Int)) : List (Int × Int)) hS rfl (rdL.nil _ _)
    obtain ⟨y5, e4, H⟩ := bind_ex H
    refine WR.st (St.append' (.tmp 5) (.tmp 6) (by kernel_rfl) (by kernel_rfl) E25 (r0_one _) hS (by kernel_rfl) (by kernel_rfl) (rdS.up R0 hS.sub0) 8796093022208 (by kernel_rfl) (by kernel_rfl) e4 (fun A6 c7 w8 hS => ?_))
    refine WR.runk [3] [] [2] (L' := [(2, .slice A6 y5.length c7)]) (w' := w8) (by kernel_rfl) ?_
    refine WR.nil ?_
    refine At.go ?_
    refine WC.ret (by kernel_rfl) ?_
    obtain rfl := Option.some.inj H
    have hS : Sat w8 (rf w0) [osl 27 (r0 (.pair (.int .i64) (.int .i64))) 2 A6 c7 y5] := hS.sel [0] (by kernel_rfl)
    exact At.body [.slice A6 y5.length c7] (by kernel_rfl) ⟨_, rfl, _, _, rfl, hS⟩
/-! ### 6 colophon/quota.New -/
def quota_New.f (a0 : Int) (l1 : List (Int × Int)) : Option ((Option (Int × (List (Int × Int)) × (List (Int × Int)))) × Int) := ((quota_Right.f l1).bind fun r1 => (if (!r1) then some (none, 2) else (if decide (a0 < 1) then some (none, 2) else (if decide (a0 > 64) then some (none, 2) else ((slices_Clone.f l1).bind fun r13 => some (some (a0, r13, ([] : List (Int × Int))), 0))))))
def quota_New.post (w : World) (r : (Option (Int × (List (Int × Int)) × (List (Int × Int)))) × Int) (v : Value) (w' : World) : Prop := ∃ (v0 : Value), v = .tuple #[v0, .int .i64 r.2] ∧ Sat w' (rf w) [optP O49 v0 r.1]
theorem quota_New.calls (w0 : World) (a0 : Int) (A1 : Option Addr) (c1 : Nat) (l1 : List (Int × Int)) (R1 : rdS (r0 (.pair (.int .i64) (.int .i64))) 2 (hp w0) A1 c1 l1) (r : (Option (Int × (List (Int × Int)) × (List (Int × Int)))) × Int) (H : quota_New.f a0 l1 = some r) :
    Calls Try.prog 6 #[.int .i64 a0, .slice A1 l1.length c1] w0 (fun e w' => ∃ v, e = .returned v ∧ quota_New.post w0 r v w') := by
  have hS : Sat w0 (rf w0) [] := Sat.start w0
  unfold quota_New.f at H
  refine calls_of_WC (vs := [.int .i64 a0, .slice A1 l1.length c1]) Try.func6 (c := C6) (n := 23) (by kernel_rfl) (by kernel_rfl) (by kernel_rfl) ?_
  refine WC.seq (by kernel_rfl) ?_
  refine WC.reg [0, 1] (by kernel_rfl) (by kernel_rfl) ?_
  refine WR.runk [0, 1] [] [0, 1] (L' := [(0, .int .i64 a0), (1, .slice A1 l1.length c1)]) (w' := w0) (by kernel_rfl) ?_
  refine WR.nil ?_
  refine At.go ?_
  refine WC.seq (by kernel_rfl) ?_
  refine WC.seq (by kernel_rfl) ?_
  refine WC.reg [0, 1, 2, 3, 4, 5, 6, 7, 8, 9, 10] (by kernel_rfl) (by kernel_rfl) ?_
  refine WR.runk [0] [1, 2, 3, 4, 5, 6, 7, 8, 9, 10] [0, 1, 6] (L' := [(0, .int .i64 a0), (1, .slice A1 l1.length c1), (6, .slice A1 l1.length c1)]) (w' := w0) (by kernel_rfl) ?_
  obtain ⟨r1, e2, H⟩ := bind_ex H
  refine WR.st (St.call (by kernel_rfl) (f := 12) (args := #[.slice A1 l1.length c1]) (by kernel_rfl) (quota_Right.calls w0 A1 c1 l1 (rdS.up R1 hS.sub0) r1 e2) ?_)
  rintro _ w8 ⟨rfl, hS9⟩
  have hS : Sat w8 (rf w0) [] := hS.ext hS9
  refine WR.runk [2, 3] [4, 5, 6, 7, 8, 9, 10] [0, 1, 9] (L' := [(0, .int .i64 a0), (1, .slice A1 l1.length c1), (9, .bool (!r1))]) (w' := w8) (by kernel_rfl) ?_
  refine WR.split 9 (b := (!r1)) (by kernel_rfl) (fun hb10 => ?_) (fun hb10 => ?_)
  · replace H := ite_t H hb10
    refine WR.runk [4, 5, 6, 7, 8, 9, 10] [] [0, 1, 16] (L' := [(0, .int .i64 a0), (1, .slice A1 l1.length c1), (16, .bool true)]) (w' := w8) (by kernel_rfl) ?_
    refine WR.nil ?_
    refine At.go ?_
    refine WC.condT (by kernel_rfl) (by kernel_rfl) (by kernel_rfl) ?_
    refine WC.seq (by kernel_rfl) ?_
    refine WC.reg [0, 1] (by kernel_rfl) (by kernel_rfl) ?_
    refine WR.runk [0, 1] [] [4, 5] (L' := [(4, .pointer none), (5, .int .i64 2)]) (w' := w8) (by kernel_rfl) ?_
    refine WR.nil ?_
    refine At.go ?_
    refine WC.ret (by kernel_rfl) ?_
    refine At.thenRet ?_
    obtain rfl := Option.some.inj H
    have hS := optP.nil (O := O49) hS
    have hS : Sat w8 (rf w0) [optP O49 (.pointer none) none] := hS.sel [0] (by kernel_rfl)
    exact At.body [.pointer none, .int .i64 2] (by kernel_rfl) ⟨_, rfl, _, rfl, hS⟩
  · replace H := ite_f H hb10
    refine WR.runk [4, 5, 6, 7] [8, 9, 10] [0, 1, 13] (L' := [(0, .int .i64 a0), (1, .slice A1 l1.length c1), (13, .bool (decide (a0 < 1)))]) (w' := w8) (by kernel_rfl) ?_
    refine WR.split 13 (b := decide (a0 < 1)) (by kernel_rfl) (fun hb11 => ?_) (fun hb11 => ?_)
    · replace H := ite_t H hb11
      refine WR.runk [8, 9, 10] [] [0, 1, 16] (L' := [(0, .int .i64 a0), (1, .slice A1 l1.length c1), (16, .bool true)]) (w' := w8) (by kernel_rfl) ?_
      refine WR.nil ?_
      refine At.go ?_
      refine WC.condT (by kernel_rfl) (by kernel_rfl) (by kernel_rfl) ?_
      refine WC.seq (by kernel_rfl) ?_
      refine WC.reg [0, 1] (by kernel_rfl) (by kernel_rfl) ?_
      refine WR.runk [0, 1] [] [4, 5] (L' := [(4, .pointer none), (5, .int .i64 2)]) (w' := w8) (by kernel_rfl) ?_
      refine WR.nil ?_
      refine At.go ?_
      refine WC.ret (by kernel_rfl) ?_
      refine At.thenRet ?_
      obtain rfl := Option.some.inj H
      have hS := optP.nil (O := O49) hS
      have hS : Sat w8 (rf w0) [optP O49 (.pointer none) none] := hS.sel [0] (by kernel_rfl)
      exact At.body [.pointer none, .int .i64 2] (by kernel_rfl) ⟨_, rfl, _, rfl, hS⟩
    · replace H := ite_f H hb11
      refine WR.runk [8, 9, 10] [] [0, 1, 16] (L' := [(0, .int .i64 a0), (1, .slice A1 l1.length c1), (16, .bool (decide (a0 > 64)))]) (w' := w8) (by kernel_rfl) ?_
      refine WR.nil ?_
      refine At.go ?_
      refine WC.cond (by kernel_rfl) (decide (a0 > 64)) (by kernel_rfl) (by kernel_rfl) (fun hb12 => ?_) (fun hb12 => ?_)
      · replace H := ite_t H hb12
        refine WC.seq (by kernel_rfl) ?_
        refine WC.reg [0, 1] (by kernel_rfl) (by kernel_rfl) ?_
        refine WR.runk [0, 1] [] [4, 5] (L' := [(4, .pointer none), (5, .int .i64 2)]) (w' := w8) (by kernel_rfl) ?_
        refine WR.nil ?_
        refine At.go ?_
        refine WC.ret (by kernel_rfl) ?_
        refine At.thenRet ?_
        obtain rfl := Option.some.inj H
        have hS := optP.nil (O := O49) hS
        have hS : Sat w8 (rf w0) [optP O49 (.pointer none) none] := hS.sel [0] (by kernel_rfl)
        exact At.body [.pointer none, .int .i64 2] (by kernel_rfl) ⟨_, rfl, _, rfl, hS⟩
      · replace H := ite_f H hb12
        refine WC.skip (by kernel_rfl) ?_
        refine At.go ?_
        refine WC.seq (by kernel_rfl) ?_
        refine WC.reg [0, 1, 2, 3, 4, 5, 6, 7] (by kernel_rfl) (by kernel_rfl) ?_
        refine WR.runk [0, 1] [2, 3, 4, 5, 6, 7] [17, 18] (L' := [(17, .int .i64 a0), (18, .slice A1 l1.length c1)]) (w' := w8) (by kernel_rfl) ?_
        obtain ⟨r13, e14, H⟩ := bind_ex H
        refine WR.st (St.call (by kernel_rfl) (f := 17) (args := #[.slice A1 l1.length c1]) (by kernel_rfl) (slices_Clone.calls w8 A1 c1 l1 (rdS.up R1 hS.sub0) r13 e14) ?_)
        rintro _ w20 ⟨A22, c23, rfl, hS21⟩
        have hS : Sat w20 (rf w0) [osl 27 (r0 (.pair (.int .i64) (.int .i64))) 2 A22 c23 r13] := hS.ext hS21
        refine WR.runk [] [3, 4, 5, 6, 7] [17, 19] (L' := [(17, .int .i64 a0), (19, .slice A22 r13.length c23)]) (w' := w20) (by kernel_rfl) ?_
        refine WR.st (St.box hS (by kernel_rfl) (.map #[] 0) (fun b24 => .map (some b24)) (fun _ => by kernel_rfl) (fun b24 w25 hS => ?_))
        have hS : Sat w25 (rf w0) [omp .i64 .i64 b24 ([] : List (Int × Int)), osl 27 (r0 (.pair (.int .i64) (.int .i64))) 2 A22 c23 r13] := omp.ofNew hS
        refine WR.runk [4] [5, 6, 7] [21] (L' := [(21, .agg #[.int .i64 a0, .slice A22 r13.length c23, .map (some b24)])]) (w' := w25) (by kernel_rfl) ?_
        refine WR.st (St.box hS (by kernel_rfl) (.cells #[.int .i64 a0, .slice A22 r13.length c23, .map (some b24)] 49) (fun b27 => .pointer (some ⟨b27, 0, none⟩)) (fun _ => by kernel_rfl) (fun b27 w28 hS => ?_))
        refine WR.runk [6, 7] [] [4, 5] (L' := [(4, .pointer (some ⟨b27, 0, none⟩)), (5, .int .i64 0)]) (w' := w28) (by kernel_rfl) ?_
        refine WR.nil ?_
        refine At.go ?_
        refine WC.ret (by kernel_rfl) ?_
        obtain rfl := Option.some.inj H
        have hS : Sat w28 (rf w0) [pts b27 (.cells #[.int .i64 a0, .slice A22 r13.length c23, .map (some b24)] 49 (0, 0)), osl 27 (r0 (.pair (.int .i64) (.int .i64))) 2 A22 c23 r13, omp .i64 .i64 b24 ([] : List (Int × Int))] := hS.sel [0, 2, 1] (by kernel_rfl)
        have hS : Sat w28 (rf w0) [O49 b27 (a0, r13, ([] : List (Int × Int)))] := O49.close (a0, r13, ([] : List (Int × Int))) A22 c23 b24 hS
        have hS : Sat w28 (rf w0) [optP O49 (.pointer (some ⟨b27, 0, none⟩)) (some (a0, r13, ([] : List (Int × Int))))] := optP.mk hS
        have hS : Sat w28 (rf w0) [optP O49 (.pointer (some ⟨b27, 0, none⟩)) (some (a0, r13, ([] : List (Int × Int))))] := hS.sel [0] (by kernel_rfl)
        exact At.body [.pointer (some ⟨b27, 0, none⟩), .int .i64 0] (by kernel_rfl) ⟨_, rfl, _, rfl, hS⟩
/-! ### 18 (*colophon/quota.Gate).has -/
def quota_Gate_has.f (p0 : Int × (List (Int × Int)) × (List (Int × Int))) (a1 : Int) : Option Bool := (if decide (a1 ≥ 0) then some (decide (a1 < (p0.2.1.length : Int))) else some false)
def quota_Gate_has.post (B : Rf) (b0 : Nat) (p0 : Int × (List (Int × Int)) × (List (Int × Int))) (w : World) (r : Bool) (v : Value) (w' : World) : Prop := v = (.bool r : Value) ∧ Sat w' B [O49 b0 p0]
theorem quota_Gate_has.calls (B : Rf) (w0 : World) (b0 : Nat) (p0 : Int × (List (Int × Int)) × (List (Int × Int))) (hS : Sat w0 B [O49 b0 p0]) (a1 : Int) (r : Bool) (H : quota_Gate_has.f p0 a1 = some r) :
    Calls Try.prog 18 #[.pointer (some ⟨b0, 0, none⟩), .int .i64 a1] w0 (fun e w' => ∃ v, e = .returned v ∧ quota_Gate_has.post B b0 p0 w0 r v w') := by
  unfold quota_Gate_has.f at H
  refine calls_of_WC (vs := [.pointer (some ⟨b0, 0, none⟩), .int .i64 a1]) Try.func18 (c := C18) (n := 20) (by kernel_rfl) (by kernel_rfl) (by kernel_rfl) ?_
  refine WC.seq (by kernel_rfl) ?_
  refine WC.reg [0] (by kernel_rfl) (by kernel_rfl) ?_
  refine WR.runk [0] [] [0, 1] (L' := [(0, .pointer (some ⟨b0, 0, none⟩)), (1, .int .i64 a1)]) (w' := w0) (by kernel_rfl) ?_
  refine WR.nil ?_
  refine At.go ?_
  refine WC.seq (by kernel_rfl) ?_
  refine WC.reg [0, 1, 2, 3, 4, 5, 6, 7, 8, 9, 10, 11, 12, 13, 14, 15] (by kernel_rfl) (by kernel_rfl) ?_
  refine WR.runk [0, 1, 2, 3, 4, 5, 6] [7, 8, 9, 10, 11, 12, 13, 14, 15] [0, 1, 11] (L' := [(0, .pointer (some ⟨b0, 0, none⟩)), (1, .int .i64 a1), (11, .bool (decide (a1 ≥ 0)))]) (w' := w0) (by kernel_rfl) ?_
  refine WR.split 11 (b := decide (a1 ≥ 0)) (by kernel_rfl) (fun hb1 => ?_) (fun hb1 => ?_)
  · replace H := ite_t H hb1
    refine WR.runk [7, 8, 9, 10] [11, 12, 13, 14, 15] [11, 12, 15] (L' := [(11, .bool true), (12, .int .i64 a1), (15, .pointer (some ⟨b0, 1, none⟩))]) (w' := w0) (by kernel_rfl) ?_
    obtain ⟨A2, c3, mb4, hS⟩ := O49.open hS
    have hS : Sat w0 B [pts b0 (.cells #[.int .i64 p0.1, .slice A2 p0.2.1.length c3, .map (some mb4)] 49 (0, 0)), osl 27 (r0 (.pair (.int .i64) (.int .i64))) 2 A2 c3 p0.2.1, omp .i64 .i64 mb4 p0.2.2] := hS
    refine WR.st (St.ofR (RSt.loadObj (t := 25) (k := 1) (v := .slice A2 p0.2.1.length c3) (.tmp 15) (by kernel_rfl) (by kernel_rfl) (by kernel_rfl) 0 hS rfl (by kernel_rfl) rfl ?_))
    refine WR.runk [12, 13, 14, 15] [] [4] (L' := [(4, .bool (decide (a1 < (p0.2.1.length : Int))))]) (w' := w0) (by kernel_rfl) ?_
    refine WR.nil ?_
    refine At.go ?_
    refine WC.ret (by kernel_rfl) ?_
    obtain rfl := Option.some.inj H
    have hS : Sat w0 B [pts b0 (.cells #[.int .i64 p0.1, .slice A2 p0.2.1.length c3, .map (some mb4)] 49 (0, 0)), osl 27 (r0 (.pair (.int .i64) (.int .i64))) 2 A2 c3 p0.2.1, omp .i64 .i64 mb4 p0.2.2] := hS.sel [0, 1, 2] (by kernel_rfl)
    have hS : Sat w0 B [O49 b0 p0] := O49.close p0 A2 c3 mb4 hS
    have hS : Sat w0 B [O49 b0 p0] := hS.sel [0] (by kernel_rfl)
    exact At.body [.bool (decide (a1 < (p0.2.1.length : Int)))] (by kernel_rfl) ⟨_, rfl, rfl, hS⟩
  · replace H := ite_f H hb1
    refine WR.runk [7, 8, 9, 10, 11, 12, 13, 14, 15] [] [4] (L' := [(4, .bool false)]) (w' := w0) (by kernel_rfl) ?_
    refine WR.nil ?_
    refine At.go ?_
    refine WC.ret (by kernel_rfl) ?_
    obtain rfl := Option.some.inj H
    have hS : Sat w0 B [O49 b0 p0] := hS.sel [0] (by kernel_rfl)
    exact At.body [.bool false] (by kernel_rfl) ⟨_, rfl, rfl, hS⟩
/-! ### 7 (*colophon/quota.Gate).Enter -/
def quota_Gate_Enter.f (p0 : Int × (List (Int × Int)) × (List (Int × Int))) (a1 : Int) : Option (Int × (Int × (List (Int × Int)) × (List (Int × Int)))) := ((quota_Gate_has.f p0 a1).bind fun r1 => (if (!r1) then some (222, p0) else ((at? p0.2.1 a1).bind fun v17 => (if decide ((mget p0.2.2 a1).getD 0 ≥ v17.2) then some (220, p0) else ((quota_Gate_All.f p0).bind fun r22 => (if decide (r22 ≥ p0.1) then some (221, p0) else some (0, (p0.1, p0.2.1, (mset p0.2.2 a1 (wi (((mget p0.2.2 a1).getD 0) + 1)))))))))))
def quota_Gate_Enter.post (B : Rf) (b0 : Nat) (p0 : Int × (List (Int × Int)) × (List (Int × Int))) (w : World) (r : Int × (Int × (List (Int × Int)) × (List (Int × Int)))) (v : Value) (w' : World) : Prop := v = (.int .i64 r.1 : Value) ∧ Sat w' B [O49 b0 r.2]
theorem quota_Gate_Enter.calls (B : Rf) (w0 : World) (b0 : Nat) (p0 : Int × (List (Int × Int)) × (List (Int × Int))) (hS : Sat w0 B [O49 b0 p0]) (a1 : Int) (r : Int × (Int × (List (Int × Int)) × (List (Int × Int)))) (H : quota_Gate_Enter.f p0 a1 = some r) :
    Calls Try.prog 7 #[.pointer (some ⟨b0, 0, none⟩), .int .i64 a1] w0 (fun e w' => ∃ v, e = .returned v ∧ quota_Gate_Enter.post B b0 p0 w0 r v w') := by
  unfold quota_Gate_Enter.f at H
  refine calls_of_WC (vs := [.pointer (some ⟨b0, 0, none⟩), .int .i64 a1]) Try.func7 (c := C7) (n := 44) (by kernel_rfl) (by kernel_rfl) (by kernel_rfl) ?_
  refine WC.seq (by kernel_rfl) ?_
  refine WC.reg [0] (by kernel_rfl) (by kernel_rfl) ?_
  refine WR.runk [0] [] [0, 1] (L' := [(0, .pointer (some ⟨b0, 0, none⟩)), (1, .int .i64 a1)]) (w' := w0) (by kernel_rfl) ?_
  refine WR.nil ?_
  refine At.go ?_
  refine WC.seq (by kernel_rfl) ?_
  refine WC.block (by kernel_rfl) ?_
  refine WC.seq (by kernel_rfl) ?_
  refine WC.reg [0, 1, 2] (by kernel_rfl) (by kernel_rfl) ?_
  refine WR.runk [0, 1, 2] [] [0, 1, 5] (L' := [(0, .pointer (some ⟨b0, 0, none⟩)), (1, .int .i64 a1), (5, .bool false)]) (w' := w0) (by kernel_rfl) ?_
  refine WR.nil ?_
  refine At.go ?_
  refine WC.condF (by kernel_rfl) (by kernel_rfl) (by kernel_rfl) ?_
  refine WC.seq (by kernel_rfl) ?_
  refine WC.reg [0, 1, 2, 3, 4] (by kernel_rfl) (by kernel_rfl) ?_
  refine WR.runk [0, 1] [2, 3, 4] [0, 1, 9, 10] (L' := [(0, .pointer (some ⟨b0, 0, none⟩)), (1, .int .i64 a1), (9, .pointer (some ⟨b0, 0, none⟩)), (10, .int .i64 a1)]) (w' := w0) (by kernel_rfl) ?_
  obtain ⟨r1, e2, H⟩ := bind_ex H
  obtain ⟨B7, hso6, hsub4, hcs5, hb3⟩ := Sat.lend [O49 b0 p0] (cs := []) hS
  refine WR.st (St.call (by kernel_rfl) (f := 18) (args := #[.pointer (some ⟨b0, 0, none⟩), .int .i64 a1]) (by kernel_rfl) (quota_Gate_has.calls B7 w0 b0 p0 hso6 a1 r1 e2) ?_)
  rintro _ w8 ⟨rfl, hS9⟩
  have hS : Sat w8 B [O49 b0 p0] := hb3 _ _ hS9
  refine WR.runk [3, 4] [] [0, 1, 8] (L' := [(0, .pointer (some ⟨b0, 0, none⟩)), (1, .int .i64 a1), (8, .bool (!r1))]) (w' := w8) (by kernel_rfl) ?_
  refine WR.nil ?_
  refine At.go ?_
  refine WC.cond (by kernel_rfl) (!r1) (by kernel_rfl) (by kernel_rfl) (fun hb10 => ?_) (fun hb10 => ?_)
  · replace H := ite_t H hb10
    refine WC.seq (by kernel_rfl) ?_
    refine WC.reg [0] (by kernel_rfl) (by kernel_rfl) ?_
    refine WR.runk [0] [] [4] (L' := [(4, .int .i64 222)]) (w' := w8) (by kernel_rfl) ?_
    refine WR.nil ?_
    refine At.go ?_
    refine WC.ret (by kernel_rfl) ?_
    refine At.blockRet ?_
    refine At.thenRet ?_
    obtain rfl := Option.some.inj H
    have hS : Sat w8 B [O49 b0 p0] := hS.sel [0] (by kernel_rfl)
    exact At.body [.int .i64 222] (by kernel_rfl) ⟨_, rfl, rfl, hS⟩
  · replace H := ite_f H hb10
    refine WC.seq (by kernel_rfl) ?_
    refine WC.drawn (by kernel_rfl) (by kernel_rfl) 16 (by kernel_rfl) (fun w11 hw12 => ?_)
    have hS := hS.heap hw12.1 hw12.2
    refine WD.weaken [0, 1] (L' := [(0, .pointer (some ⟨b0, 0, none⟩)), (1, .int .i64 a1)]) (by kernel_rfl) ?_
    refine WD.pure (i := 0) (v := .pointer (some ⟨b0, 0, none⟩)) (by kernel_rfl) (by kernel_rfl) (fun _ => by kernel_rfl) ?_
    refine WD.weaken [0, 1, 14] (L' := [(0, .pointer (some ⟨b0, 0, none⟩)), (1, .int .i64 a1), (14, .pointer (some ⟨b0, 0, none⟩))]) (by kernel_rfl) ?_
    refine WD.pure (i := 1) (v := .pointer (some ⟨b0, 0, none⟩)) (by kernel_rfl) (by kernel_rfl) (fun _ => by kernel_rfl) ?_
    refine WD.weaken [0, 1, 15] (L' := [(0, .pointer (some ⟨b0, 0, none⟩)), (1, .int .i64 a1), (15, .pointer (some ⟨b0, 0, none⟩))]) (by kernel_rfl) ?_
    refine WD.pure (i := 2) (v := .pointer (some ⟨b0, 2, none⟩)) (by kernel_rfl) (by kernel_rfl) (fun _ => by kernel_rfl) ?_
    refine WD.weaken [0, 1, 16] (L' := [(0, .pointer (some ⟨b0, 0, none⟩)), (1, .int .i64 a1), (16, .pointer (some ⟨b0, 2, none⟩))]) (by kernel_rfl) ?_
    obtain ⟨A13, c14, mb15, hS⟩ := O49.open hS
    have hS : Sat w11 B [pts b0 (.cells #[.int .i64 p0.1, .slice A13 p0.2.1.length c14, .map (some mb15)] 49 (0, 0)), osl 27 (r0 (.pair (.int .i64) (.int .i64))) 2 A13 c14 p0.2.1, omp .i64 .i64 mb15 p0.2.2] := hS
    refine WD.ofR (i := 3) (by kernel_rfl) (RSt.loadObj (t := 47) (k := 2) (v := .map (some mb15)) (.tmp 16) (by kernel_rfl) (by kernel_rfl) (by kernel_rfl) 0 hS rfl (by kernel_rfl) rfl ?_)
    refine WD.weaken [0, 1, 17] (L' := [(0, .pointer (some ⟨b0, 0, none⟩)), (1, .int .i64 a1), (17, .map (some mb15))]) (by kernel_rfl) ?_
    refine WD.pure (i := 4) (v := .int .i64 a1) (by kernel_rfl) (by kernel_rfl) (fun _ => by kernel_rfl) ?_
    refine WD.weaken [0, 1, 17, 18] (L' := [(0, .pointer (some ⟨b0, 0, none⟩)), (1, .int .i64 a1), (17, .map (some mb15)), (18, .int .i64 a1)]) (by kernel_rfl) ?_
    refine WD.ofR (i := 5) (by kernel_rfl) (RSt.lookup (t := 47) (kt := 3) (et := 3) (kk := .i64) (vk := .i64) (m := p0.2.2) (k := a1) (.tmp 17) (.tmp 18) false (by kernel_rfl) (by kernel_rfl) (by kernel_rfl) (by kernel_rfl) (by kernel_rfl) 2 hS rfl (by kernel_rfl) (by kernel_rfl) ?_)
    refine WD.weaken [0, 1, 19] (L' := [(0, .pointer (some ⟨b0, 0, none⟩)), (1, .int .i64 a1), (19, .int .i64 ((mget p0.2.2 a1).getD 0))]) (by kernel_rfl) ?_
    refine WD.pure (i := 6) (v := .pointer (some ⟨b0, 0, none⟩)) (by kernel_rfl) (by kernel_rfl) (fun _ => by kernel_rfl) ?_
    refine WD.weaken [0, 1, 19, 20] (L' := [(0, .pointer (some ⟨b0, 0, none⟩)), (1, .int .i64 a1), (19, .int .i64 ((mget p0.2.2 a1).getD 0)), (20, .pointer (some ⟨b0, 0, none⟩))]) (by kernel_rfl) ?_
    refine WD.pure (i := 7) (v := .pointer (some ⟨b0, 0, none⟩)) (by kernel_rfl) (by kernel_rfl) (fun _ => by kernel_rfl) ?_
    refine WD.weaken [0, 1, 19, 21] (L' := [(0, .pointer (some ⟨b0, 0, none⟩)), (1, .int .i64 a1), (19, .int .i64 ((mget p0.2.2 a1).getD 0)), (21, .pointer (some ⟨b0, 0, none⟩))]) (by kernel_rfl) ?_
    refine WD.pure (i := 8) (v := .pointer (some ⟨b0, 1, none⟩)) (by kernel_rfl) (by kernel_rfl) (fun _ => by kernel_rfl) ?_
    refine WD.weaken [0, 1, 19, 22] (L' := [(0, .pointer (some ⟨b0, 0, none⟩)), (1, .int .i64 a1), (19, .int .i64 ((mget p0.2.2 a1).getD 0)), (22, .pointer (some ⟨b0, 1, none⟩))]) (by kernel_rfl) ?_
    refine WD.ofR (i := 9) (by kernel_rfl) (RSt.loadObj (t := 25) (k := 1) (v := .slice A13 p0.2.1.length c14) (.tmp 22) (by kernel_rfl) (by kernel_rfl) (by kernel_rfl) 0 hS rfl (by kernel_rfl) rfl ?_)
    refine WD.weaken [0, 1, 19, 23] (L' := [(0, .pointer (some ⟨b0, 0, none⟩)), (1, .int .i64 a1), (19, .int .i64 ((mget p0.2.2 a1).getD 0)), (23, .slice A13 p0.2.1.length c14)]) (by kernel_rfl) ?_
    refine WD.pure (i := 10) (v := .int .i64 a1) (by kernel_rfl) (by kernel_rfl) (fun _ => by kernel_rfl) ?_
    refine WD.weaken [0, 1, 19, 23, 24] (L' := [(0, .pointer (some ⟨b0, 0, none⟩)), (1, .int .i64 a1), (19, .int .i64 ((mget p0.2.2 a1).getD 0)), (23, .slice A13 p0.2.1.length c14), (24, .int .i64 a1)]) (by kernel_rfl) ?_
    obtain ⟨v17, e18, H⟩ := bind_ex H
    refine WD.ofP (i := 11) (by kernel_rfl) (PSt.idx (k := .i64) (.tmp 23) (.tmp 24) (by kernel_rfl) (by kernel_rfl) E25 (by kernel_rfl) (by kernel_rfl) (Sat.rdAt 1 hS rfl) e18 ?_)
    refine WD.weaken [0, 1, 19, 25] (L' := [(0, .pointer (some ⟨b0, 0, none⟩)), (1, .int .i64 a1), (19, .int .i64 ((mget p0.2.2 a1).getD 0)), (25, .pointer (some (adr A13 a1.toNat 2)))]) (by kernel_rfl) ?_
    refine WD.pure (i := 12) (v := .pointer (some ((adr A13 a1.toNat 2).add 1))) (by kernel_rfl) (by kernel_rfl) (fun _ => by kernel_rfl) ?_
    refine WD.weaken [0, 1, 19, 26] (L' := [(0, .pointer (some ⟨b0, 0, none⟩)), (1, .int .i64 a1), (19, .int .i64 ((mget p0.2.2 a1).getD 0)), (26, .pointer (some ((adr A13 a1.toNat 2).add 1)))]) (by kernel_rfl) ?_
    refine WD.ofR (i := 13) (by kernel_rfl) (RSt.loadPart (t := 3) (κ := (.pair (.int .i64) (.int .i64))) (.tmp 26) 1 (by kernel_rfl) (by kernel_rfl) (by kernel_rfl) (by kernel_rfl) (by kernel_rfl) (Sat.rdAt 1 hS rfl) e18 (u := .int .i64 v17.2) (by kernel_rfl) ?_)
    refine WD.weaken [0, 1, 19, 27] (L' := [(0, .pointer (some ⟨b0, 0, none⟩)), (1, .int .i64 a1), (19, .int .i64 ((mget p0.2.2 a1).getD 0)), (27, .int .i64 v17.2)]) (by kernel_rfl) ?_
    refine WD.pure (i := 14) (v := .bool (decide ((mget p0.2.2 a1).getD 0 ≥ v17.2))) (by kernel_rfl) (by kernel_rfl) (fun _ => by kernel_rfl) ?_
    refine WD.weaken [0, 1, 28] (L' := [(0, .pointer (some ⟨b0, 0, none⟩)), (1, .int .i64 a1), (28, .bool (decide ((mget p0.2.2 a1).getD 0 ≥ v17.2)))]) (by kernel_rfl) ?_
    refine WD.pure (i := 15) (v := .bool (decide ((mget p0.2.2 a1).getD 0 ≥ v17.2))) (by kernel_rfl) (by kernel_rfl) (fun _ => by kernel_rfl) ?_
    refine WD.weaken [0, 1, 13] (L' := [(0, .pointer (some ⟨b0, 0, none⟩)), (1, .int .i64 a1), (13, .bool (decide ((mget p0.2.2 a1).getD 0 ≥ v17.2)))]) (by kernel_rfl) ?_
    refine WD.nil (by kernel_rfl) ?_
    refine At.go ?_
    refine WC.cond (by kernel_rfl) (decide ((mget p0.2.2 a1).getD 0 ≥ v17.2)) (by kernel_rfl) (by kernel_rfl) (fun hb19 => ?_) (fun hb19 => ?_)
    · replace H := ite_t H hb19
      refine WC.seq (by kernel_rfl) ?_
      refine WC.reg [0] (by kernel_rfl) (by kernel_rfl) ?_
      refine WR.runk [0] [] [4] (L' := [(4, .int .i64 220)]) (w' := w11) (by kernel_rfl) ?_
      refine WR.nil ?_
      refine At.go ?_
      refine WC.ret (by kernel_rfl) ?_
      refine At.blockRet ?_
      refine At.thenRet ?_
      obtain rfl := Option.some.inj H
      have hS : Sat w11 B [pts b0 (.cells #[.int .i64 p0.1, .slice A13 p0.2.1.length c14, .map (some mb15)] 49 (0, 0)), osl 27 (r0 (.pair (.int .i64) (.int .i64))) 2 A13 c14 p0.2.1, omp .i64 .i64 mb15 p0.2.2] := hS.sel [0, 1, 2] (by kernel_rfl)
      have hS : Sat w11 B [O49 b0 p0] := O49.close p0 A13 c14 mb15 hS
      have hS : Sat w11 B [O49 b0 p0] := hS.sel [0] (by kernel_rfl)
      exact At.body [.int .i64 220] (by kernel_rfl) ⟨_, rfl, rfl, hS⟩
    · replace H := ite_f H hb19
      refine WC.seq (by kernel_rfl) ?_
      refine WC.drawn (by kernel_rfl) (by kernel_rfl) 8 (by kernel_rfl) (fun w20 hw21 => ?_)
      have hS := hS.heap hw21.1 hw21.2
      refine WD.weaken [0, 1] (L' := [(0, .pointer (some ⟨b0, 0, none⟩)), (1, .int .i64 a1)]) (by kernel_rfl) ?_
      refine WD.pure (i := 0) (v := .pointer (some ⟨b0, 0, none⟩)) (by kernel_rfl) (by kernel_rfl) (fun _ => by kernel_rfl) ?_
      refine WD.weaken [0, 1, 30] (L' := [(0, .pointer (some ⟨b0, 0, none⟩)), (1, .int .i64 a1), (30, .pointer (some ⟨b0, 0, none⟩))]) (by kernel_rfl) ?_
      refine WD.pure (i := 2) (v := .pointer (some ⟨b0, 0, none⟩)) (by kernel_rfl) (by kernel_rfl) (fun _ => by kernel_rfl) ?_
      refine WD.weaken [0, 1, 30, 32] (L' := [(0, .pointer (some ⟨b0, 0, none⟩)), (1, .int .i64 a1), (30, .pointer (some ⟨b0, 0, none⟩)), (32, .pointer (some ⟨b0, 0, none⟩))]) (by kernel_rfl) ?_
      refine WD.pure (i := 3) (v := .pointer (some ⟨b0, 0, none⟩)) (by kernel_rfl) (by kernel_rfl) (fun _ => by kernel_rfl) ?_
      refine WD.weaken [0, 1, 30, 33] (L' := [(0, .pointer (some ⟨b0, 0, none⟩)), (1, .int .i64 a1), (30, .pointer (some ⟨b0, 0, none⟩)), (33, .pointer (some ⟨b0, 0, none⟩))]) (by kernel_rfl) ?_
      refine WD.pure (i := 4) (v := .pointer (some ⟨b0, 0, none⟩)) (by kernel_rfl) (by kernel_rfl) (fun _ => by kernel_rfl) ?_
      refine WD.weaken [0, 1, 30, 34] (L' := [(0, .pointer (some ⟨b0, 0, none⟩)), (1, .int .i64 a1), (30, .pointer (some ⟨b0, 0, none⟩)), (34, .pointer (some ⟨b0, 0, none⟩))]) (by kernel_rfl) ?_
      refine WD.ofR (i := 5) (by kernel_rfl) (RSt.loadObj (t := 3) (k := 0) (v := .int .i64 p0.1) (.tmp 34) (by kernel_rfl) (by kernel_rfl) (by kernel_rfl) 0 hS rfl (by kernel_rfl) rfl ?_)
      refine WD.weaken [0, 1, 30, 35] (L' := [(0, .pointer (some ⟨b0, 0, none⟩)), (1, .int .i64 a1), (30, .pointer (some ⟨b0, 0, none⟩)), (35, .int .i64 p0.1)]) (by kernel_rfl) ?_
      have hS : Sat w20 B [pts b0 (.cells #[.int .i64 p0.1, .slice A13 p0.2.1.length c14, .map (some mb15)] 49 (0, 0)), osl 27 (r0 (.pair (.int .i64) (.int .i64))) 2 A13 c14 p0.2.1, omp .i64 .i64 mb15 p0.2.2] := hS.sel [0, 1, 2] (by kernel_rfl)
      have hS : Sat w20 B [O49 b0 p0] := O49.close p0 A13 c14 mb15 hS
      obtain ⟨r22, e23, H⟩ := bind_ex H
      obtain ⟨B28, hso27, hsub25, hcs26, hb24⟩ := Sat.lend [O49 b0 p0] (cs := []) hS
      refine WD.act (i := 1) (by kernel_rfl) (St.call (by kernel_rfl) (f := 8) (args := #[.pointer (some ⟨b0, 0, none⟩)]) (by kernel_rfl) (quota_Gate_All.calls B28 w20 b0 p0 hso27  r22 e23) ?_)
      rintro _ w29 ⟨rfl, hS30⟩
      have hS : Sat w29 B [O49 b0 p0] := hb24 _ _ hS30
      obtain ⟨A31, c32, mb33, hS⟩ := O49.open hS
      have hS : Sat w29 B [pts b0 (.cells #[.int .i64 p0.1, .slice A31 p0.2.1.length c32, .map (some mb33)] 49 (0, 0)), osl 27 (r0 (.pair (.int .i64) (.int .i64))) 2 A31 c32 p0.2.1, omp .i64 .i64 mb33 p0.2.2] := hS
      refine ⟨(asked.cons (RSt.run (n := 44) (RSt.loadObj (t := 3) (k := 0) (v := .int .i64 p0.1) (.tmp 34) (by kernel_rfl) (by kernel_rfl) (by kernel_rfl) 0 hS rfl (by kernel_rfl) rfl rfl)) (asked.nil _ _)), ?_⟩
      refine WD.weaken [0, 1, 31, 35] (L' := [(0, .pointer (some ⟨b0, 0, none⟩)), (1, .int .i64 a1), (31, .int .i64 r22), (35, .int .i64 p0.1)]) (by kernel_rfl) ?_
      refine WD.pure (i := 6) (v := .bool (decide (r22 ≥ p0.1))) (by kernel_rfl) (by kernel_rfl) (fun _ => by kernel_rfl) ?_
      refine WD.weaken [0, 1, 36] (L' := [(0, .pointer (some ⟨b0, 0, none⟩)), (1, .int .i64 a1), (36, .bool (decide (r22 ≥ p0.1)))]) (by kernel_rfl) ?_
      refine WD.pure (i := 7) (v := .bool (decide (r22 ≥ p0.1))) (by kernel_rfl) (by kernel_rfl) (fun _ => by kernel_rfl) ?_
      refine WD.weaken [0, 1, 29] (L' := [(0, .pointer (some ⟨b0, 0, none⟩)), (1, .int .i64 a1), (29, .bool (decide (r22 ≥ p0.1)))]) (by kernel_rfl) ?_
      refine WD.nil (by kernel_rfl) ?_
      refine At.go ?_
      refine WC.cond (by kernel_rfl) (decide (r22 ≥ p0.1)) (by kernel_rfl) (by kernel_rfl) (fun hb35 => ?_) (fun hb35 => ?_)
      · replace H := ite_t H hb35
        refine WC.seq (by kernel_rfl) ?_
        refine WC.reg [0] (by kernel_rfl) (by kernel_rfl) ?_
        refine WR.runk [0] [] [4] (L' := [(4, .int .i64 221)]) (w' := w29) (by kernel_rfl) ?_
        refine WR.nil ?_
        refine At.go ?_
        refine WC.ret (by kernel_rfl) ?_
        refine At.blockRet ?_
        refine At.thenRet ?_
        obtain rfl := Option.some.inj H
        have hS : Sat w29 B [pts b0 (.cells #[.int .i64 p0.1, .slice A31 p0.2.1.length c32, .map (some mb33)] 49 (0, 0)), osl 27 (r0 (.pair (.int .i64) (.int .i64))) 2 A31 c32 p0.2.1, omp .i64 .i64 mb33 p0.2.2] := hS.sel [0, 1, 2] (by kernel_rfl)
        have hS : Sat w29 B [O49 b0 p0] := O49.close p0 A31 c32 mb33 hS
        have hS : Sat w29 B [O49 b0 p0] := hS.sel [0] (by kernel_rfl)
        exact At.body [.int .i64 221] (by kernel_rfl) ⟨_, rfl, rfl, hS⟩
      · replace H := ite_f H hb35
        refine WC.skip (by kernel_rfl) ?_
        refine At.blockNormal ?_
        refine At.go ?_
        refine WC.seq (by kernel_rfl) ?_
        refine WC.reg [0, 1, 2, 3, 4, 5, 6, 7] (by kernel_rfl) (by kernel_rfl) ?_
        refine WR.runk [0, 1, 2] [3, 4, 5, 6, 7] [1, 39] (L' := [(1, .int .i64 a1), (39, .pointer (some ⟨b0, 2, none⟩))]) (w' := w29) (by kernel_rfl) ?_
        refine WR.st (St.ofR (RSt.loadObj (t := 47) (k := 2) (v := .map (some mb33)) (.tmp 39) (by kernel_rfl) (by kernel_rfl) (by kernel_rfl) 0 hS rfl (by kernel_rfl) rfl ?_))
        refine WR.runk [4] [5, 6, 7] [40, 41] (L' := [(40, .map (some mb33)), (41, .int .i64 a1)]) (w' := w29) (by kernel_rfl) ?_
        refine WR.st (St.ofR (RSt.lookup (t := 47) (kt := 3) (et := 3) (kk := .i64) (vk := .i64) (m := p0.2.2) (k := a1) (.tmp 40) (.tmp 41) false (by kernel_rfl) (by kernel_rfl) (by kernel_rfl) (by kernel_rfl) (by kernel_rfl) 2 hS rfl (by kernel_rfl) (by kernel_rfl) ?_))
        refine WR.runk [6] [7] [40, 41, 43] (L' := [(40, .map (some mb33)), (41, .int .i64 a1), (43, .int .i64 (wi (((mget p0.2.2 a1).getD 0) + 1)))]) (w' := w29) (by kernel_rfl) ?_
        have hS : Sat w29 B [omp .i64 .i64 mb33 p0.2.2, pts b0 (.cells #[.int .i64 p0.1, .slice A31 p0.2.1.length c32, .map (some mb33)] 49 (0, 0)), osl 27 (r0 (.pair (.int .i64) (.int .i64))) 2 A31 c32 p0.2.1] := hS.sel [2, 0, 1] (by kernel_rfl)
        refine WR.st (St.mapUpdate (t := 47) (kt := 3) (et := 3) (m := p0.2.2) (k := a1) (v := wi (((mget p0.2.2 a1).getD 0) + 1)) (.tmp 40) (.tmp 41) (.tmp 43) (by kernel_rfl) (by kernel_rfl) (by kernel_rfl) (by kernel_rfl) hS (by kernel_rfl) (by kernel_rfl) (by kernel_rfl) (fun w36 hS => ?_))
        refine WR.runk [] [] [] (L' := []) (w' := w36) (by kernel_rfl) ?_
        refine WR.nil ?_
        refine At.go ?_
        refine WC.seq (by kernel_rfl) ?_
        refine WC.reg [0] (by kernel_rfl) (by kernel_rfl) ?_
        refine WR.runk [0] [] [4] (L' := [(4, .int .i64 0)]) (w' := w36) (by kernel_rfl) ?_
        refine WR.nil ?_
        refine At.go ?_
        refine WC.ret (by kernel_rfl) ?_
        obtain rfl := Option.some.inj H
        have hS : Sat w36 B [pts b0 (.cells #[.int .i64 p0.1, .slice A31 p0.2.1.length c32, .map (some mb33)] 49 (0, 0)), osl 27 (r0 (.pair (.int .i64) (.int .i64))) 2 A31 c32 p0.2.1, omp .i64 .i64 mb33 (mset p0.2.2 a1 (wi (((mget p0.2.2 a1).getD 0) + 1)))] := hS.sel [1, 2, 0] (by kernel_rfl)
        have hS : Sat w36 B [O49 b0 (p0.1, p0.2.1, (mset p0.2.2 a1 (wi (((mget p0.2.2 a1).getD 0) + 1))))] := O49.close (p0.1, p0.2.1, (mset p0.2.2 a1 (wi (((mget p0.2.2 a1).getD 0) + 1)))) A31 c32 mb33 hS
        have hS : Sat w36 B [O49 b0 (p0.1, p0.2.1, (mset p0.2.2 a1 (wi (((mget p0.2.2 a1).getD 0) + 1))))] := hS.sel [0] (by kernel_rfl)
        exact At.body [.int .i64 0] (by kernel_rfl) ⟨_, rfl, rfl, hS⟩
/-! ### 9 (*colophon/quota.Gate).Leave -/
def quota_Gate_Leave.f (p0 : Int × (List (Int × Int)) × (List (Int × Int))) (a1 : Int) : Option (Bool × (Int × (List (Int × Int)) × (List (Int × Int)))) := ((quota_Gate_has.f p0 a1).bind fun r1 => (if (!r1) then some (false, p0) else (if (((mget p0.2.2 a1).getD 0) == 0) then some (false, p0) else (if (((mget (mset p0.2.2 a1 (wi (((mget p0.2.2 a1).getD 0) - 1))) a1).getD 0) == 0) then some (true, (p0.1, p0.2.1, (mdel (mset p0.2.2 a1 (wi (((mget p0.2.2 a1).getD 0) - 1))) a1))) else some (true, (p0.1, p0.2.1, (mset p0.2.2 a1 (wi (((mget p0.2.2 a1).getD 0) - 1)))))))))
def quota_Gate_Leave.post (B : Rf) (b0 : Nat) (p0 : Int × (List (Int × Int)) × (List (Int × Int))) (w : World) (r : Bool × (Int × (List (Int × Int)) × (List (Int × Int)))) (v : Value) (w' : World) : Prop := v = (.bool r.1 : Value) ∧ Sat w' B [O49 b0 r.2]
theorem quota_Gate_Leave.calls (B : Rf) (w0 : World) (b0 : Nat) (p0 : Int × (List (Int × Int)) × (List (Int × Int))) (hS : Sat w0 B [O49 b0 p0]) (a1 : Int) (r : Bool × (Int × (List (Int × Int)) × (List (Int × Int)))) (H : quota_Gate_Leave.f p0 a1 = some r) :
    Calls Try.prog 9 #[.pointer (some ⟨b0, 0, none⟩), .int .i64 a1] w0 (fun e w' => ∃ v, e = .returned v ∧ quota_Gate_Leave.post B b0 p0 w0 r v w') := by
  unfold quota_Gate_Leave.f at H
  refine calls_of_WC (vs := [.pointer (some ⟨b0, 0, none⟩), .int .i64 a1]) Try.func9 (c := C9) (n := 37) (by kernel_rfl) (by kernel_rfl) (by kernel_rfl) ?_
  refine WC.seq (by kernel_rfl) ?_
  refine WC.reg [0] (by kernel_rfl) (by kernel_rfl) ?_
  refine WR.runk [0] [] [0, 1] (L' := [(0, .pointer (some ⟨b0, 0, none⟩)), (1, .int .i64 a1)]) (w' := w0) (by kernel_rfl) ?_
  refine WR.nil ?_
  refine At.go ?_
  refine WC.seq (by kernel_rfl) ?_
  refine WC.seq (by kernel_rfl) ?_
  refine WC.reg [0, 1, 2, 3, 4, 5, 6, 7, 8, 9, 10, 11, 12] (by kernel_rfl) (by kernel_rfl) ?_
  refine WR.runk [0, 1] [2, 3, 4, 5, 6, 7, 8, 9, 10, 11, 12] [0, 1, 5, 6] (L' := [(0, .pointer (some ⟨b0, 0, none⟩)), (1, .int .i64 a1), (5, .pointer (some ⟨b0, 0, none⟩)), (6, .int .i64 a1)]) (w' := w0) (by kernel_rfl) ?_
  obtain ⟨r1, e2, H⟩ := bind_ex H
  obtain ⟨B7, hso6, hsub4, hcs5, hb3⟩ := Sat.lend [O49 b0 p0] (cs := []) hS
  refine WR.st (St.call (by kernel_rfl) (f := 18) (args := #[.pointer (some ⟨b0, 0, none⟩), .int .i64 a1]) (by kernel_rfl) (quota_Gate_has.calls B7 w0 b0 p0 hso6 a1 r1 e2) ?_)
  rintro _ w8 ⟨rfl, hS9⟩
  have hS : Sat w8 B [O49 b0 p0] := hb3 _ _ hS9
  refine WR.runk [3, 4] [5, 6, 7, 8, 9, 10, 11, 12] [0, 1, 9] (L' := [(0, .pointer (some ⟨b0, 0, none⟩)), (1, .int .i64 a1), (9, .bool (!r1))]) (w' := w8) (by kernel_rfl) ?_
  refine WR.split 9 (b := (!r1)) (by kernel_rfl) (fun hb10 => ?_) (fun hb10 => ?_)
  · replace H := ite_t H hb10
    refine WR.runk [5, 6, 7, 8, 9, 10, 11, 12] [] [0, 1, 17] (L' := [(0, .pointer (some ⟨b0, 0, none⟩)), (1, .int .i64 a1), (17, .bool true)]) (w' := w8) (by kernel_rfl) ?_
    refine WR.nil ?_
    refine At.go ?_
    refine WC.condT (by kernel_rfl) (by kernel_rfl) (by kernel_rfl) ?_
    refine WC.seq (by kernel_rfl) ?_
    refine WC.reg [0] (by kernel_rfl) (by kernel_rfl) ?_
    refine WR.runk [0] [] [4] (L' := [(4, .bool false)]) (w' := w8) (by kernel_rfl) ?_
    refine WR.nil ?_
    refine At.go ?_
    refine WC.ret (by kernel_rfl) ?_
    refine At.thenRet ?_
    obtain rfl := Option.some.inj H
    have hS : Sat w8 B [O49 b0 p0] := hS.sel [0] (by kernel_rfl)
    exact At.body [.bool false] (by kernel_rfl) ⟨_, rfl, rfl, hS⟩
  · replace H := ite_f H hb10
    refine WR.runk [5, 6, 7] [8, 9, 10, 11, 12] [0, 1, 9, 12] (L' := [(0, .pointer (some ⟨b0, 0, none⟩)), (1, .int .i64 a1), (9, .bool false), (12, .pointer (some ⟨b0, 2, none⟩))]) (w' := w8) (by kernel_rfl) ?_
    obtain ⟨A11, c12, mb13, hS⟩ := O49.open hS
    have hS : Sat w8 B [pts b0 (.cells #[.int .i64 p0.1, .slice A11 p0.2.1.length c12, .map (some mb13)] 49 (0, 0)), osl 27 (r0 (.pair (.int .i64) (.int .i64))) 2 A11 c12 p0.2.1, omp .i64 .i64 mb13 p0.2.2] := hS
    refine WR.st (St.ofR (RSt.loadObj (t := 47) (k := 2) (v := .map (some mb13)) (.tmp 12) (by kernel_rfl) (by kernel_rfl) (by kernel_rfl) 0 hS rfl (by kernel_rfl) rfl ?_))
    refine WR.runk [9] [10, 11, 12] [0, 1, 9, 13, 14] (L' := [(0, .pointer (some ⟨b0, 0, none⟩)), (1, .int .i64 a1), (9, .bool false), (13, .map (some mb13)), (14, .int .i64 a1)]) (w' := w8) (by kernel_rfl) ?_
    refine WR.st (St.ofR (RSt.lookup (t := 47) (kt := 3) (et := 3) (kk := .i64) (vk := .i64) (m := p0.2.2) (k := a1) (.tmp 13) (.tmp 14) false (by kernel_rfl) (by kernel_rfl) (by kernel_rfl) (by kernel_rfl) (by kernel_rfl) 2 hS rfl (by kernel_rfl) (by kernel_rfl) ?_))
    refine WR.runk [11, 12] [] [0, 1, 17] (L' := [(0, .pointer (some ⟨b0, 0, none⟩)), (1, .int .i64 a1), (17, .bool (((mget p0.2.2 a1).getD 0) == 0))]) (w' := w8) (by kernel_rfl) ?_
    refine WR.nil ?_
    refine At.go ?_
    refine WC.cond (by kernel_rfl) (((mget p0.2.2 a1).getD 0) == 0) (by kernel_rfl) (by kernel_rfl) (fun hb15 => ?_) (fun hb15 => ?_)
    · replace H := ite_t H hb15
      refine WC.seq (by kernel_rfl) ?_
      refine WC.reg [0] (by kernel_rfl) (by kernel_rfl) ?_
      refine WR.runk [0] [] [4] (L' := [(4, .bool false)]) (w' := w8) (by kernel_rfl) ?_
      refine WR.nil ?_
      refine At.go ?_
      refine WC.ret (by kernel_rfl) ?_
      refine At.thenRet ?_
      obtain rfl := Option.some.inj H
      have hS : Sat w8 B [pts b0 (.cells #[.int .i64 p0.1, .slice A11 p0.2.1.length c12, .map (some mb13)] 49 (0, 0)), osl 27 (r0 (.pair (.int .i64) (.int .i64))) 2 A11 c12 p0.2.1, omp .i64 .i64 mb13 p0.2.2] := hS.sel [0, 1, 2] (by kernel_rfl)
      have hS : Sat w8 B [O49 b0 p0] := O49.close p0 A11 c12 mb13 hS
      have hS : Sat w8 B [O49 b0 p0] := hS.sel [0] (by kernel_rfl)
      exact At.body [.bool false] (by kernel_rfl) ⟨_, rfl, rfl, hS⟩
    · replace H := ite_f H hb15
      refine WC.skip (by kernel_rfl) ?_
      refine At.go ?_
      refine WC.seq (by kernel_rfl) ?_
      refine WC.seq (by kernel_rfl) ?_
      refine WC.reg [0, 1, 2, 3, 4, 5, 6, 7] (by kernel_rfl) (by kernel_rfl) ?_
      refine WR.runk [0, 1, 2] [3, 4, 5, 6, 7] [0, 1, 20] (L' := [(0, .pointer (some ⟨b0, 0, none⟩)), (1, .int .i64 a1), (20, .pointer (some ⟨b0, 2, none⟩))]) (w' := w8) (by kernel_rfl) ?_
      refine WR.st (St.ofR (RSt.loadObj (t := 47) (k := 2) (v := .map (some mb13)) (.tmp 20) (by kernel_rfl) (by kernel_rfl) (by kernel_rfl) 0 hS rfl (by kernel_rfl) rfl ?_))
      refine WR.runk [4] [5, 6, 7] [0, 1, 21, 22] (L' := [(0, .pointer (some ⟨b0, 0, none⟩)), (1, .int .i64 a1), (21, .map (some mb13)), (22, .int .i64 a1)]) (w' := w8) (by kernel_rfl) ?_
      refine WR.st (St.ofR (RSt.lookup (t := 47) (kt := 3) (et := 3) (kk := .i64) (vk := .i64) (m := p0.2.2) (k := a1) (.tmp 21) (.tmp 22) false (by kernel_rfl) (by kernel_rfl) (by kernel_rfl) (by kernel_rfl) (by kernel_rfl) 2 hS rfl (by kernel_rfl) (by kernel_rfl) ?_))
      refine WR.runk [6] [7] [0, 1, 21, 22, 24] (L' := [(0, .pointer (some ⟨b0, 0, none⟩)), (1, .int .i64 a1), (21, .map (some mb13)), (22, .int .i64 a1), (24, .int .i64 (wi (((mget p0.2.2 a1).getD 0) - 1)))]) (w' := w8) (by kernel_rfl) ?_
      have hS : Sat w8 B [omp .i64 .i64 mb13 p0.2.2, pts b0 (.cells #[.int .i64 p0.1, .slice A11 p0.2.1.length c12, .map (some mb13)] 49 (0, 0)), osl 27 (r0 (.pair (.int .i64) (.int .i64))) 2 A11 c12 p0.2.1] := hS.sel [2, 0, 1] (by kernel_rfl)
      refine WR.st (St.mapUpdate (t := 47) (kt := 3) (et := 3) (m := p0.2.2) (k := a1) (v := wi (((mget p0.2.2 a1).getD 0) - 1)) (.tmp 21) (.tmp 22) (.tmp 24) (by kernel_rfl) (by kernel_rfl) (by kernel_rfl) (by kernel_rfl) hS (by kernel_rfl) (by kernel_rfl) (by kernel_rfl) (fun w16 hS => ?_))
      refine WR.runk [] [] [0, 1] (L' := [(0, .pointer (some ⟨b0, 0, none⟩)), (1, .int .i64 a1)]) (w' := w16) (by kernel_rfl) ?_
      refine WR.nil ?_
      refine At.go ?_
      refine WC.seq (by kernel_rfl) ?_
      refine WC.reg [0, 1, 2, 3, 4, 5, 6] (by kernel_rfl) (by kernel_rfl) ?_
      refine WR.runk [0, 1, 2] [3, 4, 5, 6] [0, 1, 27] (L' := [(0, .pointer (some ⟨b0, 0, none⟩)), (1, .int .i64 a1), (27, .pointer (some ⟨b0, 2, none⟩))]) (w' := w16) (by kernel_rfl) ?_
      refine WR.st (St.ofR (RSt.loadObj (t := 47) (k := 2) (v := .map (some mb13)) (.tmp 27) (by kernel_rfl) (by kernel_rfl) (by kernel_rfl) 1 hS rfl (by kernel_rfl) rfl ?_))
      refine WR.runk [4] [5, 6] [0, 1, 28, 29] (L' := [(0, .pointer (some ⟨b0, 0, none⟩)), (1, .int .i64 a1), (28, .map (some mb13)), (29, .int .i64 a1)]) (w' := w16) (by kernel_rfl) ?_
      refine WR.st (St.ofR (RSt.lookup (t := 47) (kt := 3) (et := 3) (kk := .i64) (vk := .i64) (m := (mset p0.2.2 a1 (wi (((mget p0.2.2 a1).getD 0) - 1)))) (k := a1) (.tmp 28) (.tmp 29) false (by kernel_rfl) (by kernel_rfl) (by kernel_rfl) (by kernel_rfl) (by kernel_rfl) 0 hS rfl (by kernel_rfl) (by kernel_rfl) ?_))
      refine WR.runk [6] [] [0, 1, 31] (L' := [(0, .pointer (some ⟨b0, 0, none⟩)), (1, .int .i64 a1), (31, .bool (((mget (mset p0.2.2 a1 (wi (((mget p0.2.2 a1).getD 0) - 1))) a1).getD 0) == 0))]) (w' := w16) (by kernel_rfl) ?_
      refine WR.nil ?_
      refine At.go ?_
      refine WC.cond (by kernel_rfl) (((mget (mset p0.2.2 a1 (wi (((mget p0.2.2 a1).getD 0) - 1))) a1).getD 0) == 0) (by kernel_rfl) (by kernel_rfl) (fun hb17 => ?_) (fun hb17 => ?_)
      · replace H := ite_t H hb17
        refine WC.reg [0, 1, 2, 3, 4, 5] (by kernel_rfl) (by kernel_rfl) ?_
        refine WR.runk [0, 1, 2] [3, 4, 5] [1, 34] (L' := [(1, .int .i64 a1), (34, .pointer (some ⟨b0, 2, none⟩))]) (w' := w16) (by kernel_rfl) ?_
        refine WR.st (St.ofR (RSt.loadObj (t := 47) (k := 2) (v := .map (some mb13)) (.tmp 34) (by kernel_rfl) (by kernel_rfl) (by kernel_rfl) 1 hS rfl (by kernel_rfl) rfl ?_))
        refine WR.runk [4] [5] [35, 36] (L' := [(35, .map (some mb13)), (36, .int .i64 a1)]) (w' := w16) (by kernel_rfl) ?_
        refine WR.st (St.mapDelete (t := 47) (t2 := 3) (kt := 3) (et := 3) (m := (mset p0.2.2 a1 (wi (((mget p0.2.2 a1).getD 0) - 1)))) (k := a1) (.tmp 35) (.tmp 36) (by kernel_rfl) (by kernel_rfl) (by kernel_rfl) (by kernel_rfl) hS (by kernel_rfl) (by kernel_rfl) (fun w18 hS => ?_))
        refine WR.runk [] [] [] (L' := []) (w' := w18) (by kernel_rfl) ?_
        refine WR.nil ?_
        refine At.go ?_
        refine WC.seq (by kernel_rfl) ?_
        refine WC.reg [0] (by kernel_rfl) (by kernel_rfl) ?_
        refine WR.runk [0] [] [4] (L' := [(4, .bool true)]) (w' := w18) (by kernel_rfl) ?_
        refine WR.nil ?_
        refine At.go ?_
        refine WC.ret (by kernel_rfl) ?_
        obtain rfl := Option.some.inj H
        have hS : Sat w18 B [pts b0 (.cells #[.int .i64 p0.1, .slice A11 p0.2.1.length c12, .map (some mb13)] 49 (0, 0)), osl 27 (r0 (.pair (.int .i64) (.int .i64))) 2 A11 c12 p0.2.1, omp .i64 .i64 mb13 (mdel (mset p0.2.2 a1 (wi (((mget p0.2.2 a1).getD 0) - 1))) a1)] := hS.sel [1, 2, 0] (by kernel_rfl)
        have hS : Sat w18 B [O49 b0 (p0.1, p0.2.1, (mdel (mset p0.2.2 a1 (wi (((mget p0.2.2 a1).getD 0) - 1))) a1))] := O49.close (p0.1, p0.2.1, (mdel (mset p0.2.2 a1 (wi (((mget p0.2.2 a1).getD 0) - 1))) a1)) A11 c12 mb13 hS
        have hS : Sat w18 B [O49 b0 (p0.1, p0.2.1, (mdel (mset p0.2.2 a1 (wi (((mget p0.2.2 a1).getD 0) - 1))) a1))] := hS.sel [0] (by kernel_rfl)
        exact At.body [.bool true] (by kernel_rfl) ⟨_, rfl, rfl, hS⟩
      · replace H := ite_f H hb17
        refine WC.skip (by kernel_rfl) ?_
        refine At.go ?_
        refine WC.seq (by kernel_rfl) ?_
        refine WC.reg [0] (by kernel_rfl) (by kernel_rfl) ?_
        refine WR.runk [0] [] [4] (L' := [(4, .bool true)]) (w' := w16) (by kernel_rfl) ?_
        refine WR.nil ?_
        refine At.go ?_
        refine WC.ret (by kernel_rfl) ?_
        obtain rfl := Option.some.inj H
        have hS : Sat w16 B [pts b0 (.cells #[.int .i64 p0.1, .slice A11 p0.2.1.length c12, .map (some mb13)] 49 (0, 0)), osl 27 (r0 (.pair (.int .i64) (.int .i64))) 2 A11 c12 p0.2.1, omp .i64 .i64 mb13 (mset p0.2.2 a1 (wi (((mget p0.2.2 a1).getD 0) - 1)))] := hS.sel [1, 2, 0] (by kernel_rfl)
        have hS : Sat w16 B [O49 b0 (p0.1, p0.2.1, (mset p0.2.2 a1 (wi (((mget p0.2.2 a1).getD 0) - 1))))] := O49.close (p0.1, p0.2.1, (mset p0.2.2 a1 (wi (((mget p0.2.2 a1).getD 0) - 1)))) A11 c12 mb13 hS
        have hS : Sat w16 B [O49 b0 (p0.1, p0.2.1, (mset p0.2.2 a1 (wi (((mget p0.2.2 a1).getD 0) - 1))))] := hS.sel [0] (by kernel_rfl)
        exact At.body [.bool true] (by kernel_rfl) ⟨_, rfl, rfl, hS⟩
/-! ### 10 (*colophon/quota.Gate).Live -/
def quota_Gate_Live.f (p0 : Int × (List (Int × Int)) × (List (Int × Int))) (a1 : Int) : Option Int := ((quota_Gate_has.f p0 a1).bind fun r1 => (if (!r1) then some 0 else some ((mget p0.2.2 a1).getD 0)))
def quota_Gate_Live.post (B : Rf) (b0 : Nat) (p0 : Int × (List (Int × Int)) × (List (Int × Int))) (w : World) (r : Int) (v : Value) (w' : World) : Prop := v = (.int .i64 r : Value) ∧ Sat w' B [O49 b0 p0]
theorem quota_Gate_Live.calls (B : Rf) (w0 : World) (b0 : Nat) (p0 : Int × (List (Int × Int)) × (List (Int × Int))) (hS : Sat w0 B [O49 b0 p0]) (a1 : Int) (r : Int) (H : quota_Gate_Live.f p0 a1 = some r) :
    Calls Try.prog 10 #[.pointer (some ⟨b0, 0, none⟩), .int .i64 a1] w0 (fun e w' => ∃ v, e = .returned v ∧ quota_Gate_Live.post B b0 p0 w0 r v w') := by
  unfold quota_Gate_Live.f at H
  refine calls_of_WC (vs := [.pointer (some ⟨b0, 0, none⟩), .int .i64 a1]) Try.func10 (c := C10) (n := 15) (by kernel_rfl) (by kernel_rfl) (by kernel_rfl) ?_
  refine WC.seq (by kernel_rfl) ?_
  refine WC.reg [0] (by kernel_rfl) (by kernel_rfl) ?_
  refine WR.runk [0] [] [0, 1] (L' := [(0, .pointer (some ⟨b0, 0, none⟩)), (1, .int .i64 a1)]) (w' := w0) (by kernel_rfl) ?_
  refine WR.nil ?_
  refine At.go ?_
  refine WC.seq (by kernel_rfl) ?_
  refine WC.seq (by kernel_rfl) ?_
  refine WC.reg [0, 1, 2, 3] (by kernel_rfl) (by kernel_rfl) ?_
  refine WR.runk [0, 1] [2, 3] [0, 1, 5, 6] (L' := [(0, .pointer (some ⟨b0, 0, none⟩)), (1, .int .i64 a1), (5, .pointer (some ⟨b0, 0, none⟩)), (6, .int .i64 a1)]) (w' := w0) (by kernel_rfl) ?_
  obtain ⟨r1, e2, H⟩ := bind_ex H
  obtain ⟨B7, hso6, hsub4, hcs5, hb3⟩ := Sat.lend [O49 b0 p0] (cs := []) hS
  refine WR.st (St.call (by kernel_rfl) (f := 18) (args := #[.pointer (some ⟨b0, 0, none⟩), .int .i64 a1]) (by kernel_rfl) (quota_Gate_has.calls B7 w0 b0 p0 hso6 a1 r1 e2) ?_)
  rintro _ w8 ⟨rfl, hS9⟩
  have hS : Sat w8 B [O49 b0 p0] := hb3 _ _ hS9
  refine WR.runk [3] [] [0, 1, 8] (L' := [(0, .pointer (some ⟨b0, 0, none⟩)), (1, .int .i64 a1), (8, .bool (!r1))]) (w' := w8) (by kernel_rfl) ?_
  refine WR.nil ?_
  refine At.go ?_
  refine WC.cond (by kernel_rfl) (!r1) (by kernel_rfl) (by kernel_rfl) (fun hb10 => ?_) (fun hb10 => ?_)
  · replace H := ite_t H hb10
    refine WC.seq (by kernel_rfl) ?_
    refine WC.reg [0] (by kernel_rfl) (by kernel_rfl) ?_
    refine WR.runk [0] [] [4] (L' := [(4, .int .i64 0)]) (w' := w8) (by kernel_rfl) ?_
    refine WR.nil ?_
    refine At.go ?_
    refine WC.ret (by kernel_rfl) ?_
    refine At.thenRet ?_
    obtain rfl := Option.some.inj H
    have hS : Sat w8 B [O49 b0 p0] := hS.sel [0] (by kernel_rfl)
    exact At.body [.int .i64 0] (by kernel_rfl) ⟨_, rfl, rfl, hS⟩
  · replace H := ite_f H hb10
    refine WC.skip (by kernel_rfl) ?_
    refine At.go ?_
    refine WC.seq (by kernel_rfl) ?_
    refine WC.reg [0, 1, 2, 3, 4, 5, 6] (by kernel_rfl) (by kernel_rfl) ?_
    refine WR.runk [0, 1, 2] [3, 4, 5, 6] [1, 11] (L' := [(1, .int .i64 a1), (11, .pointer (some ⟨b0, 2, none⟩))]) (w' := w8) (by kernel_rfl) ?_
    obtain ⟨A11, c12, mb13, hS⟩ := O49.open hS
    have hS : Sat w8 B [pts b0 (.cells #[.int .i64 p0.1, .slice A11 p0.2.1.length c12, .map (some mb13)] 49 (0, 0)), osl 27 (r0 (.pair (.int .i64) (.int .i64))) 2 A11 c12 p0.2.1, omp .i64 .i64 mb13 p0.2.2] := hS
    refine WR.st (St.ofR (RSt.loadObj (t := 47) (k := 2) (v := .map (some mb13)) (.tmp 11) (by kernel_rfl) (by kernel_rfl) (by kernel_rfl) 0 hS rfl (by kernel_rfl) rfl ?_))
    refine WR.runk [4] [5, 6] [12, 13] (L' := [(12, .map (some mb13)), (13, .int .i64 a1)]) (w' := w8) (by kernel_rfl) ?_
    refine WR.st (St.ofR (RSt.lookup (t := 47) (kt := 3) (et := 3) (kk := .i64) (vk := .i64) (m := p0.2.2) (k := a1) (.tmp 12) (.tmp 13) false (by kernel_rfl) (by kernel_rfl) (by kernel_rfl) (by kernel_rfl) (by kernel_rfl) 2 hS rfl (by kernel_rfl) (by kernel_rfl) ?_))
    refine WR.runk [6] [] [4] (L' := [(4, .int .i64 ((mget p0.2.2 a1).getD 0))]) (w' := w8) (by kernel_rfl) ?_
    refine WR.nil ?_
    refine At.go ?_
    refine WC.ret (by kernel_rfl) ?_
    obtain rfl := Option.some.inj H
    have hS : Sat w8 B [pts b0 (.cells #[.int .i64 p0.1, .slice A11 p0.2.1.length c12, .map (some mb13)] 49 (0, 0)), osl 27 (r0 (.pair (.int .i64) (.int .i64))) 2 A11 c12 p0.2.1, omp .i64 .i64 mb13 p0.2.2] := hS.sel [0, 1, 2] (by kernel_rfl)
    have hS : Sat w8 B [O49 b0 p0] := O49.close p0 A11 c12 mb13 hS
    have hS : Sat w8 B [O49 b0 p0] := hS.sel [0] (by kernel_rfl)
    exact At.body [.int .i64 ((mget p0.2.2 a1).getD 0)] (by kernel_rfl) ⟨_, rfl, rfl, hS⟩
/-! ### 5 colophon/colophonlaw22.first -/
def colophonlaw22_first.f : Option Bool := ((quota_New.f 3 ([(1, 2), (1, 2)] : List (Int × Int))).bind fun r3 => ((quota_New.f 0 ([(1, 0)] : List (Int × Int))).bind fun r15 => (match r3.1 with | none => some false | some y25 => (if (r3.2 != 0) then some false else (if (r15.2 != 2) then some false else ((quota_Gate_Enter.f y25 0).bind fun r32 => (if (r32.1 != 0) then some false else ((quota_Gate_Enter.f r32.2 0).bind fun r42 => (if (r42.1 != 0) then some false else ((quota_Gate_Enter.f r42.2 0).bind fun r52 => (if (r52.1 != 220) then some false else ((quota_Gate_Enter.f r52.2 1).bind fun r62 => (if (r62.1 == 0) then ((quota_Gate_Enter.f r62.2 1).bind fun r72 => (if (r72.1 == 221) then ((quota_Gate_Leave.f r72.2 0).bind fun r82 => (if r82.1 then ((quota_Gate_Enter.f r82.2 1).bind fun r92 => (if (r92.1 == 0) then ((quota_Gate_All.f r92.2).bind fun r102 => (if (r102 == 3) then ((quota_Gate_Live.f r92.2 1).bind fun r112 => (if (r112 == 2) then ((quota_Gate_Enter.f r92.2 2).bind fun r122 => some (r122.1 == 222)) else some false)) else some false)) else some false)) else some false)) else some false)) else some false)))))))))))))
def colophonlaw22_first.post (w : World) (r : Bool) (v : Value) (w' : World) : Prop := v = (.bool r : Value) ∧ Sat w' (rf w) []
theorem colophonlaw22_first.calls (w0 : World) (r : Bool) (H : colophonlaw22_first.f = some r) :
    Calls Try.prog 5 #[] w0 (fun e w' => ∃ v, e = .returned v ∧ colophonlaw22_first.post w0 r v w') := by
  have hS : Sat w0 (rf w0) [] := Sat.start w0
  unfold colophonlaw22_first.f at H
  refine calls_of_WC (vs := []) Try.func5 (c := C5) (n := 75) (by kernel_rfl) (by kernel_rfl) (by kernel_rfl) ?_
  refine WC.seq (by kernel_rfl) ?_
  refine WC.reg [0] (by kernel_rfl) (by kernel_rfl) ?_
  refine WR.runk [0] [] [] (L' := []) (w' := w0) (by kernel_rfl) ?_
  refine WR.nil ?_
  refine At.go ?_
  refine WC.seq (by kernel_rfl) ?_
  refine WC.reg [0, 1, 2, 3, 4, 5, 6, 7, 8] (by kernel_rfl) (by kernel_rfl) ?_
  refine WR.runk [0, 1] [2, 3, 4, 5, 6, 7, 8] [6, 7] (L' := [(6, .agg #[.int .i64 1, .int .i64 2]), (7, .agg #[.int .i64 1, .int .i64 2])]) (w' := w0) (by kernel_rfl) ?_
  refine WR.st (St.box hS (by kernel_rfl) (.cells #[.int .i64 1, .int .i64 2, .int .i64 1, .int .i64 2] 27) (fun b1 => .slice (some ⟨b1, 0, none⟩) 2 2) (fun _ => by kernel_rfl) (fun b1 w2 hS => ?_))
  refine WR.runk [] [3, 4, 5, 6, 7, 8] [8] (L' := [(8, .slice (some ⟨b1, 0, none⟩) 2 2)]) (w' := w2) (by kernel_rfl) ?_
  obtain ⟨r3, e4, H⟩ := bind_ex H
  refine WR.st (St.call (by kernel_rfl) (f := 6) (args := #[.int .i64 3, .slice (some ⟨b1, 0, none⟩) 2 2]) (by kernel_rfl) (quota_New.calls w2 3 (some ⟨b1, 0, none⟩) 2 ([(1, 2), (1, 2)] : List (Int × Int)) (Sat.ptsAt 0 (r0 (.pair (.int .i64) (.int .i64))) 2 ([(1, 2), (1, 2)] : List (Int × Int)) hS rfl rfl (rdL.consN [.int .i64 1, .int .i64 2] rfl ⟨[.int .i64 1], [.int .i64 2], rfl, rfl, rfl, rfl⟩ (rdL.consN [.int .i64 1, .int .i64 2] rfl ⟨[.int .i64 1], [.int .i64 2], rfl, rfl, rfl, rfl⟩ (rdL.nil _ _)))) r3 e4) ?_)
  rintro _ w10 ⟨pv12, rfl, hS11⟩
  have hS : Sat w10 (rf w0) [optP O49 pv12 r3.1, pts b1 (.cells #[.int .i64 1, .int .i64 2, .int .i64 1, .int .i64 2] 27 (0, 0))] := hS.ext hS11
  refine WR.runk [4, 5, 6, 7, 8] [] [1, 2] (L' := [(1, pv12), (2, .int .i64 r3.2)]) (w' := w10) (by kernel_rfl) ?_
  refine WR.nil ?_
  refine At.go ?_
  refine WC.seq (by kernel_rfl) ?_
  refine WC.reg [0, 1, 2, 3, 4, 5, 6, 7] (by kernel_rfl) (by kernel_rfl) ?_
  refine WR.runk [0] [1, 2, 3, 4, 5, 6, 7] [1, 2, 13] (L' := [(1, pv12), (2, .int .i64 r3.2), (13, .agg #[.int .i64 1, .int .i64 0])]) (w' := w10) (by kernel_rfl) ?_
  refine WR.st (St.box hS (by kernel_rfl) (.cells #[.int .i64 1, .int .i64 0] 27) (fun b13 => .slice (some ⟨b13, 0, none⟩) 1 1) (fun _ => by kernel_rfl) (fun b13 w14 hS => ?_))
  refine WR.runk [] [2, 3, 4, 5, 6, 7] [1, 2, 14] (L' := [(1, pv12), (2, .int .i64 r3.2), (14, .slice (some ⟨b13, 0, none⟩) 1 1)]) (w' := w14) (by kernel_rfl) ?_
  obtain ⟨r15, e16, H⟩ := bind_ex H
  refine WR.st (St.call (by kernel_rfl) (f := 6) (args := #[.int .i64 0, .slice (some ⟨b13, 0, none⟩) 1 1]) (by kernel_rfl) (quota_New.calls w14 0 (some ⟨b13, 0, none⟩) 1 ([(1, 0)] : List (Int × Int)) (Sat.ptsAt 0 (r0 (.pair (.int .i64) (.int .i64))) 2 ([(1, 0)] : List (Int × Int)) hS rfl rfl (rdL.consN [.int .i64 1, .int .i64 0] rfl ⟨[.int .i64 1], [.int .i64 0], rfl, rfl, rfl, rfl⟩ (rdL.nil _ _))) r15 e16) ?_)
  rintro _ w22 ⟨pv24, rfl, hS23⟩
  have hS : Sat w22 (rf w0) [optP O49 pv24 r15.1, pts b13 (.cells #[.int .i64 1, .int .i64 0] 27 (0, 0)), optP O49 pv12 r3.1, pts b1 (.cells #[.int .i64 1, .int .i64 2, .int .i64 1, .int .i64 2] 27 (0, 0))] := hS.ext hS23
  refine WR.runk [3, 4, 5, 6, 7] [] [1, 2, 4] (L' := [(1, pv12), (2, .int .i64 r3.2), (4, .int .i64 r15.2)]) (w' := w22) (by kernel_rfl) ?_
  refine WR.nil ?_
  refine At.go ?_
  refine WC.seq (by kernel_rfl) ?_
  refine WC.seq (by kernel_rfl) ?_
  refine WC.reg [0, 1, 2, 3, 4, 5, 6, 7, 8, 9, 10, 11, 12, 13, 14, 15, 16, 17, 18, 19, 20, 21, 22, 23, 24] (by kernel_rfl) (by kernel_rfl) ?_
  refine WR.runk [0] [1, 2, 3, 4, 5, 6, 7, 8, 9, 10, 11, 12, 13, 14, 15, 16, 17, 18, 19, 20, 21, 22, 23, 24] [1, 2, 4, 18] (L' := [(1, pv12), (2, .int .i64 r3.2), (4, .int .i64 r15.2), (18, pv12)]) (w' := w22) (by kernel_rfl) ?_
  have hS : Sat w22 (rf w0) [optP O49 pv12 r3.1, optP O49 pv24 r15.1, pts b13 (.cells #[.int .i64 1, .int .i64 0] 27 (0, 0)), pts b1 (.cells #[.int .i64 1, .int .i64 2, .int .i64 1, .int .i64 2] 27 (0, 0))] := hS.sel [2, 0, 1, 3] (by kernel_rfl)
  rcases hr26 : r3.1 with _ | y25
  · rw [hr26] at H
    dsimp only at H
    have hv27 := optP.none hS hr26
    subst hv27
    have hS : Sat w22 (rf w0) [optP O49 pv24 r15.1, pts b13 (.cells #[.int .i64 1, .int .i64 0] 27 (0, 0)), pts b1 (.cells #[.int .i64 1, .int .i64 2, .int .i64 1, .int .i64 2] 27 (0, 0))] := hS.sel [1, 2, 3] (by kernel_rfl)
    refine WR.runk [1, 2, 3, 4, 5, 6, 7, 8, 9, 10, 11, 12, 13, 14, 15, 16, 17, 18, 19, 20, 21, 22, 23, 24] [] [1, 42] (L' := [(1, .pointer none), (42, .bool true)]) (w' := w22) (by kernel_rfl) ?_
    refine WR.nil ?_
    refine At.go ?_
    refine WC.condT (by kernel_rfl) (by kernel_rfl) (by kernel_rfl) ?_
    refine WC.seq (by kernel_rfl) ?_
    refine WC.reg [0] (by kernel_rfl) (by kernel_rfl) ?_
    refine WR.runk [0] [] [0] (L' := [(0, .bool false)]) (w' := w22) (by kernel_rfl) ?_
    refine WR.nil ?_
    refine At.go ?_
    refine WC.ret (by kernel_rfl) ?_
    refine At.thenRet ?_
    obtain rfl := Option.some.inj H
    have hS : Sat w22 (rf w0) [] := hS.sel [] (by kernel_rfl)
    exact At.body [.bool false] (by kernel_rfl) ⟨_, rfl, rfl, hS⟩
  · rw [hr26] at H
    dsimp only at H
    obtain ⟨b28, hv27, hN131⟩ := optP.some hS hr26
    subst hv27
    have hS : Sat w22 (rf w0) [O49 b28 y25, optP O49 pv24 r15.1, pts b13 (.cells #[.int .i64 1, .int .i64 0] 27 (0, 0)), pts b1 (.cells #[.int .i64 1, .int .i64 2, .int .i64 1, .int .i64 2] 27 (0, 0))] := hN131
    refine WR.runk [1, 2, 3, 4, 5, 6] [7, 8, 9, 10, 11, 12, 13, 14, 15, 16, 17, 18, 19, 20, 21, 22, 23, 24] [1, 4, 24] (L' := [(1, .pointer (some ⟨b28, 0, none⟩)), (4, .int .i64 r15.2), (24, .bool (r3.2 != 0))]) (w' := w22) (by kernel_rfl) ?_
    refine WR.split 24 (b := (r3.2 != 0)) (by kernel_rfl) (fun hb30 => ?_) (fun hb30 => ?_)
    · replace H := ite_t H hb30
      refine WR.runk [7, 8, 9, 10, 11, 12, 13, 14, 15, 16, 17, 18, 19, 20, 21, 22, 23, 24] [] [1, 42] (L' := [(1, .pointer (some ⟨b28, 0, none⟩)), (42, .bool true)]) (w' := w22) (by kernel_rfl) ?_
      refine WR.nil ?_
      refine At.go ?_
      refine WC.condT (by kernel_rfl) (by kernel_rfl) (by kernel_rfl) ?_
      refine WC.seq (by kernel_rfl) ?_
      refine WC.reg [0] (by kernel_rfl) (by kernel_rfl) ?_
      refine WR.runk [0] [] [0] (L' := [(0, .bool false)]) (w' := w22) (by kernel_rfl) ?_
      refine WR.nil ?_
      refine At.go ?_
      refine WC.ret (by kernel_rfl) ?_
      refine At.thenRet ?_
      obtain rfl := Option.some.inj H
      have hS : Sat w22 (rf w0) [] := hS.sel [] (by kernel_rfl)
      exact At.body [.bool false] (by kernel_rfl) ⟨_, rfl, rfl, hS⟩
    · replace H := ite_f H hb30
      refine WR.runk [7, 8, 9, 10] [11, 12, 13, 14, 15, 16, 17, 18, 19, 20, 21, 22, 23, 24] [1, 28] (L' := [(1, .pointer (some ⟨b28, 0, none⟩)), (28, .bool (r15.2 != 2))]) (w' := w22) (by kernel_rfl) ?_
      refine WR.split 28 (b := (r15.2 != 2)) (by kernel_rfl) (fun hb31 => ?_) (fun hb31 => ?_)
      · replace H := ite_t H hb31
        refine WR.runk [11, 12, 13, 14, 15, 16, 17, 18, 19, 20, 21, 22, 23, 24] [] [1, 42] (L' := [(1, .pointer (some ⟨b28, 0, none⟩)), (42, .bool true)]) (w' := w22) (by kernel_rfl) ?_
        refine WR.nil ?_
        refine At.go ?_
        refine WC.condT (by kernel_rfl) (by kernel_rfl) (by kernel_rfl) ?_
        refine WC.seq (by kernel_rfl) ?_
        refine WC.reg [0] (by kernel_rfl) (by kernel_rfl) ?_
        refine WR.runk [0] [] [0] (L' := [(0, .bool false)]) (w' := w22) (by kernel_rfl) ?_
        refine WR.nil ?_
        refine At.go ?_
        refine WC.ret (by kernel_rfl) ?_
        refine At.thenRet ?_
        obtain rfl := Option.some.inj H
        have hS : Sat w22 (rf w0) [] := hS.sel [] (by kernel_rfl)
        exact At.body [.bool false] (by kernel_rfl) ⟨_, rfl, rfl, hS⟩
      · replace H := ite_f H hb31
        refine WR.runk [11] [12, 13, 14, 15, 16, 17, 18, 19, 20, 21, 22, 23, 24] [1, 28, 29] (L' := [(1, .pointer (some ⟨b28, 0, none⟩)), (28, .bool false), (29, .pointer (some ⟨b28, 0, none⟩))]) (w' := w22) (by kernel_rfl) ?_
        obtain ⟨r32, e33, H⟩ := bind_ex H
        obtain ⟨B38, hso37, hsub35, hcs36, hb34⟩ := Sat.lend [O49 b28 y25] (cs := [optP O49 pv24 r15.1, pts b13 (.cells #[.int .i64 1, .int .i64 0] 27 (0, 0)), pts b1 (.cells #[.int .i64 1, .int .i64 2, .int .i64 1, .int .i64 2] 27 (0, 0))]) hS
        refine WR.st (St.call (by kernel_rfl) (f := 7) (args := #[.pointer (some ⟨b28, 0, none⟩), .int .i64 0]) (by kernel_rfl) (quota_Gate_Enter.calls B38 w22 b28 y25 hso37 0 r32 e33) ?_)
        rintro _ w39 ⟨rfl, hS40⟩
        have hS : Sat w39 (rf w0) [O49 b28 r32.2, optP O49 pv24 r15.1, pts b13 (.cells #[.int .i64 1, .int .i64 0] 27 (0, 0)), pts b1 (.cells #[.int .i64 1, .int .i64 2, .int .i64 1, .int .i64 2] 27 (0, 0))] := hb34 _ _ hS40
        refine WR.runk [13, 14, 15] [16, 17, 18, 19, 20, 21, 22, 23, 24] [1, 33] (L' := [(1, .pointer (some ⟨b28, 0, none⟩)), (33, .bool (r32.1 != 0))]) (w' := w39) (by kernel_rfl) ?_
        refine WR.split 33 (b := (r32.1 != 0)) (by kernel_rfl) (fun hb41 => ?_) (fun hb41 => ?_)
        · replace H := ite_t H hb41
          refine WR.runk [16, 17, 18, 19, 20, 21, 22, 23, 24] [] [1, 42] (L' := [(1, .pointer (some ⟨b28, 0, none⟩)), (42, .bool true)]) (w' := w39) (by kernel_rfl) ?_
          refine WR.nil ?_
          refine At.go ?_
          refine WC.condT (by kernel_rfl) (by kernel_rfl) (by kernel_rfl) ?_
          refine WC.seq (by kernel_rfl) ?_
          refine WC.reg [0] (by kernel_rfl) (by kernel_rfl) ?_
          refine WR.runk [0] [] [0] (L' := [(0, .bool false)]) (w' := w39) (by kernel_rfl) ?_
          refine WR.nil ?_
          refine At.go ?_
          refine WC.ret (by kernel_rfl) ?_
          refine At.thenRet ?_
          obtain rfl := Option.some.inj H
          have hS : Sat w39 (rf w0) [] := hS.sel [] (by kernel_rfl)
          exact At.body [.bool false] (by kernel_rfl) ⟨_, rfl, rfl, hS⟩
        · replace H := ite_f H hb41
          refine WR.runk [16] [17, 18, 19, 20, 21, 22, 23, 24] [1, 33, 34] (L' := [(1, .pointer (some ⟨b28, 0, none⟩)), (33, .bool false), (34, .pointer (some ⟨b28, 0, none⟩))]) (w' := w39) (by kernel_rfl) ?_
          obtain ⟨r42, e43, H⟩ := bind_ex H
          obtain ⟨B48, hso47, hsub45, hcs46, hb44⟩ := Sat.lend [O49 b28 r32.2] (cs := [optP O49 pv24 r15.1, pts b13 (.cells #[.int .i64 1, .int .i64 0] 27 (0, 0)), pts b1 (.cells #[.int .i64 1, .int .i64 2, .int .i64 1, .int .i64 2] 27 (0, 0))]) hS
          refine WR.st (St.call (by kernel_rfl) (f := 7) (args := #[.pointer (some ⟨b28, 0, none⟩), .int .i64 0]) (by kernel_rfl) (quota_Gate_Enter.calls B48 w39 b28 r32.2 hso47 0 r42 e43) ?_)
          rintro _ w49 ⟨rfl, hS50⟩
          have hS : Sat w49 (rf w0) [O49 b28 r42.2, optP O49 pv24 r15.1, pts b13 (.cells #[.int .i64 1, .int .i64 0] 27 (0, 0)), pts b1 (.cells #[.int .i64 1, .int .i64 2, .int .i64 1, .int .i64 2] 27 (0, 0))] := hb44 _ _ hS50
          refine WR.runk [18, 19, 20] [21, 22, 23, 24] [1, 38] (L' := [(1, .pointer (some ⟨b28, 0, none⟩)), (38, .bool (r42.1 != 0))]) (w' := w49) (by kernel_rfl) ?_
          refine WR.split 38 (b := (r42.1 != 0)) (by kernel_rfl) (fun hb51 => ?_) (fun hb51 => ?_)
          · replace H := ite_t H hb51
            refine WR.runk [21, 22, 23, 24] [] [1, 42] (L' := [(1, .pointer (some ⟨b28, 0, none⟩)), (42, .bool true)]) (w' := w49) (by kernel_rfl) ?_
            refine WR.nil ?_
            refine At.go ?_
            refine WC.condT (by kernel_rfl) (by kernel_rfl) (by kernel_rfl) ?_
            refine WC.seq (by kernel_rfl) ?_
            refine WC.reg [0] (by kernel_rfl) (by kernel_rfl) ?_
            refine WR.runk [0] [] [0] (L' := [(0, .bool false)]) (w' := w49) (by kernel_rfl) ?_
            refine WR.nil ?_
            refine At.go ?_
            refine WC.ret (by kernel_rfl) ?_
            refine At.thenRet ?_
            obtain rfl := Option.some.inj H
            have hS : Sat w49 (rf w0) [] := hS.sel [] (by kernel_rfl)
            exact At.body [.bool false] (by kernel_rfl) ⟨_, rfl, rfl, hS⟩
          · replace H := ite_f H hb51
            refine WR.runk [21] [22, 23, 24] [1, 38, 39] (L' := [(1, .pointer (some ⟨b28, 0, none⟩)), (38, .bool false), (39, .pointer (some ⟨b28, 0, none⟩))]) (w' := w49) (by kernel_rfl) ?_
            obtain ⟨r52, e53, H⟩ := bind_ex H
            obtain ⟨B58, hso57, hsub55, hcs56, hb54⟩ := Sat.lend [O49 b28 r42.2] (cs := [optP O49 pv24 r15.1, pts b13 (.cells #[.int .i64 1, .int .i64 0] 27 (0, 0)), pts b1 (.cells #[.int .i64 1, .int .i64 2, .int .i64 1, .int .i64 2] 27 (0, 0))]) hS
            refine WR.st (St.call (by kernel_rfl) (f := 7) (args := #[.pointer (some ⟨b28, 0, none⟩), .int .i64 0]) (by kernel_rfl) (quota_Gate_Enter.calls B58 w49 b28 r42.2 hso57 0 r52 e53) ?_)
            rintro _ w59 ⟨rfl, hS60⟩
            have hS : Sat w59 (rf w0) [O49 b28 r52.2, optP O49 pv24 r15.1, pts b13 (.cells #[.int .i64 1, .int .i64 0] 27 (0, 0)), pts b1 (.cells #[.int .i64 1, .int .i64 2, .int .i64 1, .int .i64 2] 27 (0, 0))] := hb54 _ _ hS60
            refine WR.runk [23, 24] [] [1, 42] (L' := [(1, .pointer (some ⟨b28, 0, none⟩)), (42, .bool (r52.1 != 220))]) (w' := w59) (by kernel_rfl) ?_
            refine WR.nil ?_
            refine At.go ?_
            refine WC.cond (by kernel_rfl) (r52.1 != 220) (by kernel_rfl) (by kernel_rfl) (fun hb61 => ?_) (fun hb61 => ?_)
            · replace H := ite_t H hb61
              refine WC.seq (by kernel_rfl) ?_
              refine WC.reg [0] (by kernel_rfl) (by kernel_rfl) ?_
              refine WR.runk [0] [] [0] (L' := [(0, .bool false)]) (w' := w59) (by kernel_rfl) ?_
              refine WR.nil ?_
              refine At.go ?_
              refine WC.ret (by kernel_rfl) ?_
              refine At.thenRet ?_
              obtain rfl := Option.some.inj H
              have hS : Sat w59 (rf w0) [] := hS.sel [] (by kernel_rfl)
              exact At.body [.bool false] (by kernel_rfl) ⟨_, rfl, rfl, hS⟩
            · replace H := ite_f H hb61
              refine WC.skip (by kernel_rfl) ?_
              refine At.go ?_
              refine WC.seq (by kernel_rfl) ?_
              refine WC.reg [0, 1, 2, 3, 4, 5, 6, 7, 8, 9, 10, 11, 12, 13, 14, 15, 16, 17, 18, 19, 20, 21, 22, 23, 24, 25, 26, 27, 28, 29, 30, 31, 32] (by kernel_rfl) (by kernel_rfl) ?_
              refine WR.runk [0] [1, 2, 3, 4, 5, 6, 7, 8, 9, 10, 11, 12, 13, 14, 15, 16, 17, 18, 19, 20, 21, 22, 23, 24, 25, 26, 27, 28, 29, 30, 31, 32] [1, 43] (L' := [(1, .pointer (some ⟨b28, 0, none⟩)), (43, .pointer (some ⟨b28, 0, none⟩))]) (w' := w59) (by kernel_rfl) ?_
              obtain ⟨r62, e63, H⟩ := bind_ex H
              obtain ⟨B68, hso67, hsub65, hcs66, hb64⟩ := Sat.lend [O49 b28 r52.2] (cs := [optP O49 pv24 r15.1, pts b13 (.cells #[.int .i64 1, .int .i64 0] 27 (0, 0)), pts b1 (.cells #[.int .i64 1, .int .i64 2, .int .i64 1, .int .i64 2] 27 (0, 0))]) hS
              refine WR.st (St.call (by kernel_rfl) (f := 7) (args := #[.pointer (some ⟨b28, 0, none⟩), .int .i64 1]) (by kernel_rfl) (quota_Gate_Enter.calls B68 w59 b28 r52.2 hso67 1 r62 e63) ?_)
              rintro _ w69 ⟨rfl, hS70⟩
              have hS : Sat w69 (rf w0) [O49 b28 r62.2, optP O49 pv24 r15.1, pts b13 (.cells #[.int .i64 1, .int .i64 0] 27 (0, 0)), pts b1 (.cells #[.int .i64 1, .int .i64 2, .int .i64 1, .int .i64 2] 27 (0, 0))] := hb64 _ _ hS70
              refine WR.runk [2, 3] [4, 5, 6, 7, 8, 9, 10, 11, 12, 13, 14, 15, 16, 17, 18, 19, 20, 21, 22, 23, 24, 25, 26, 27, 28, 29, 30, 31, 32] [1, 46] (L' := [(1, .pointer (some ⟨b28, 0, none⟩)), (46, .bool (r62.1 == 0))]) (w' := w69) (by kernel_rfl) ?_
              refine WR.split 46 (b := (r62.1 == 0)) (by kernel_rfl) (fun hb71 => ?_) (fun hb71 => ?_)
              · replace H := ite_t H hb71
                refine WR.runk [4] [5, 6, 7, 8, 9, 10, 11, 12, 13, 14, 15, 16, 17, 18, 19, 20, 21, 22, 23, 24, 25, 26, 27, 28, 29, 30, 31, 32] [1, 46, 47] (L' := [(1, .pointer (some ⟨b28, 0, none⟩)), (46, .bool true), (47, .pointer (some ⟨b28, 0, none⟩))]) (w' := w69) (by kernel_rfl) ?_
                obtain ⟨r72, e73, H⟩ := bind_ex H
                obtain ⟨B78, hso77, hsub75, hcs76, hb74⟩ := Sat.lend [O49 b28 r62.2] (cs := [optP O49 pv24 r15.1, pts b13 (.cells #[.int .i64 1, .int .i64 0] 27 (0, 0)), pts b1 (.cells #[.int .i64 1, .int .i64 2, .int .i64 1, .int .i64 2] 27 (0, 0))]) hS
                refine WR.st (St.call (by kernel_rfl) (f := 7) (args := #[.pointer (some ⟨b28, 0, none⟩), .int .i64 1]) (by kernel_rfl) (quota_Gate_Enter.calls B78 w69 b28 r62.2 hso77 1 r72 e73) ?_)
                rintro _ w79 ⟨rfl, hS80⟩
                have hS : Sat w79 (rf w0) [O49 b28 r72.2, optP O49 pv24 r15.1, pts b13 (.cells #[.int .i64 1, .int .i64 0] 27 (0, 0)), pts b1 (.cells #[.int .i64 1, .int .i64 2, .int .i64 1, .int .i64 2] 27 (0, 0))] := hb74 _ _ hS80
                refine WR.runk [6, 7, 8] [9, 10, 11, 12, 13, 14, 15, 16, 17, 18, 19, 20, 21, 22, 23, 24, 25, 26, 27, 28, 29, 30, 31, 32] [1, 51] (L' := [(1, .pointer (some ⟨b28, 0, none⟩)), (51, .bool (r72.1 == 221))]) (w' := w79) (by kernel_rfl) ?_
                refine WR.split 51 (b := (r72.1 == 221)) (by kernel_rfl) (fun hb81 => ?_) (fun hb81 => ?_)
                · replace H := ite_t H hb81
                  refine WR.runk [9] [10, 11, 12, 13, 14, 15, 16, 17, 18, 19, 20, 21, 22, 23, 24, 25, 26, 27, 28, 29, 30, 31, 32] [1, 51, 52] (L' := [(1, .pointer (some ⟨b28, 0, none⟩)), (51, .bool true), (52, .pointer (some ⟨b28, 0, none⟩))]) (w' := w79) (by kernel_rfl) ?_
                  obtain ⟨r82, e83, H⟩ := bind_ex H
                  obtain ⟨B88, hso87, hsub85, hcs86, hb84⟩ := Sat.lend [O49 b28 r72.2] (cs := [optP O49 pv24 r15.1, pts b13 (.cells #[.int .i64 1, .int .i64 0] 27 (0, 0)), pts b1 (.cells #[.int .i64 1, .int .i64 2, .int .i64 1, .int .i64 2] 27 (0, 0))]) hS
                  refine WR.st (St.call (by kernel_rfl) (f := 9) (args := #[.pointer (some ⟨b28, 0, none⟩), .int .i64 0]) (by kernel_rfl) (quota_Gate_Leave.calls B88 w79 b28 r72.2 hso87 0 r82 e83) ?_)
                  rintro _ w89 ⟨rfl, hS90⟩
                  have hS : Sat w89 (rf w0) [O49 b28 r82.2, optP O49 pv24 r15.1, pts b13 (.cells #[.int .i64 1, .int .i64 0] 27 (0, 0)), pts b1 (.cells #[.int .i64 1, .int .i64 2, .int .i64 1, .int .i64 2] 27 (0, 0))] := hb84 _ _ hS90
                  refine WR.runk [11, 12] [13, 14, 15, 16, 17, 18, 19, 20, 21, 22, 23, 24, 25, 26, 27, 28, 29, 30, 31, 32] [1, 55] (L' := [(1, .pointer (some ⟨b28, 0, none⟩)), (55, .bool r82.1)]) (w' := w89) (by kernel_rfl) ?_
                  refine WR.split 55 (b := r82.1) (by kernel_rfl) (fun hb91 => ?_) (fun hb91 => ?_)
                  · replace H := ite_t H hb91
                    refine WR.runk [13] [14, 15, 16, 17, 18, 19, 20, 21, 22, 23, 24, 25, 26, 27, 28, 29, 30, 31, 32] [1, 55, 56] (L' := [(1, .pointer (some ⟨b28, 0, none⟩)), (55, .bool true), (56, .pointer (some ⟨b28, 0, none⟩))]) (w' := w89) (by kernel_rfl) ?_
                    obtain ⟨r92, e93, H⟩ := bind_ex H
                    obtain ⟨B98, hso97, hsub95, hcs96, hb94⟩ := Sat.lend [O49 b28 r82.2] (cs := [optP O49 pv24 r15.1, pts b13 (.cells #[.int .i64 1, .int .i64 0] 27 (0, 0)), pts b1 (.cells #[.int .i64 1, .int .i64 2, .int .i64 1, .int .i64 2] 27 (0, 0))]) hS
                    refine WR.st (St.call (by kernel_rfl) (f := 7) (args := #[.pointer (some ⟨b28, 0, none⟩), .int .i64 1]) (by kernel_rfl) (quota_Gate_Enter.calls B98 w89 b28 r82.2 hso97 1 r92 e93) ?_)
                    rintro _ w99 ⟨rfl, hS100⟩
                    have hS : Sat w99 (rf w0) [O49 b28 r92.2, optP O49 pv24 r15.1, pts b13 (.cells #[.int .i64 1, .int .i64 0] 27 (0, 0)), pts b1 (.cells #[.int .i64 1, .int .i64 2, .int .i64 1, .int .i64 2] 27 (0, 0))] := hb94 _ _ hS100
                    refine WR.runk [15, 16, 17] [18, 19, 20, 21, 22, 23, 24, 25, 26, 27, 28, 29, 30, 31, 32] [1, 60] (L' := [(1, .pointer (some ⟨b28, 0, none⟩)), (60, .bool (r92.1 == 0))]) (w' := w99) (by kernel_rfl) ?_
                    refine WR.split 60 (b := (r92.1 == 0)) (by kernel_rfl) (fun hb101 => ?_) (fun hb101 => ?_)
                    · replace H := ite_t H hb101
                      refine WR.runk [18] [19, 20, 21, 22, 23, 24, 25, 26, 27, 28, 29, 30, 31, 32] [1, 60, 61] (L' := [(1, .pointer (some ⟨b28, 0, none⟩)), (60, .bool true), (61, .pointer (some ⟨b28, 0, none⟩))]) (w' := w99) (by kernel_rfl) ?_
                      obtain ⟨r102, e103, H⟩ := bind_ex H
                      obtain ⟨B108, hso107, hsub105, hcs106, hb104⟩ := Sat.lend [O49 b28 r92.2] (cs := [optP O49 pv24 r15.1, pts b13 (.cells #[.int .i64 1, .int .i64 0] 27 (0, 0)), pts b1 (.cells #[.int .i64 1, .int .i64 2, .int .i64 1, .int .i64 2] 27 (0, 0))]) hS
                      refine WR.st (St.call (by kernel_rfl) (f := 8) (args := #[.pointer (some ⟨b28, 0, none⟩)]) (by kernel_rfl) (quota_Gate_All.calls B108 w99 b28 r92.2 hso107  r102 e103) ?_)
                      rintro _ w109 ⟨rfl, hS110⟩
                      have hS : Sat w109 (rf w0) [O49 b28 r92.2, optP O49 pv24 r15.1, pts b13 (.cells #[.int .i64 1, .int .i64 0] 27 (0, 0)), pts b1 (.cells #[.int .i64 1, .int .i64 2, .int .i64 1, .int .i64 2] 27 (0, 0))] := hb104 _ _ hS110
                      refine WR.runk [20, 21, 22] [23, 24, 25, 26, 27, 28, 29, 30, 31, 32] [1, 65] (L' := [(1, .pointer (some ⟨b28, 0, none⟩)), (65, .bool (r102 == 3))]) (w' := w109) (by kernel_rfl) ?_
                      refine WR.split 65 (b := (r102 == 3)) (by kernel_rfl) (fun hb111 => ?_) (fun hb111 => ?_)
                      · replace H := ite_t H hb111
                        refine WR.runk [23] [24, 25, 26, 27, 28, 29, 30, 31, 32] [1, 65, 66] (L' := [(1, .pointer (some ⟨b28, 0, none⟩)), (65, .bool true), (66, .pointer (some ⟨b28, 0, none⟩))]) (w' := w109) (by kernel_rfl) ?_
                        obtain ⟨r112, e113, H⟩ := bind_ex H
                        obtain ⟨B118, hso117, hsub115, hcs116, hb114⟩ := Sat.lend [O49 b28 r92.2] (cs := [optP O49 pv24 r15.1, pts b13 (.cells #[.int .i64 1, .int .i64 0] 27 (0, 0)), pts b1 (.cells #[.int .i64 1, .int .i64 2, .int .i64 1, .int .i64 2] 27 (0, 0))]) hS
                        refine WR.st (St.call (by kernel_rfl) (f := 10) (args := #[.pointer (some ⟨b28, 0, none⟩), .int .i64 1]) (by kernel_rfl) (quota_Gate_Live.calls B118 w109 b28 r92.2 hso117 1 r112 e113) ?_)
                        rintro _ w119 ⟨rfl, hS120⟩
                        have hS : Sat w119 (rf w0) [O49 b28 r92.2, optP O49 pv24 r15.1, pts b13 (.cells #[.int .i64 1, .int .i64 0] 27 (0, 0)), pts b1 (.cells #[.int .i64 1, .int .i64 2, .int .i64 1, .int .i64 2] 27 (0, 0))] := hb114 _ _ hS120
                        refine WR.runk [25, 26, 27] [28, 29, 30, 31, 32] [1, 70] (L' := [(1, .pointer (some ⟨b28, 0, none⟩)), (70, .bool (r112 == 2))]) (w' := w119) (by kernel_rfl) ?_
                        refine WR.split 70 (b := (r112 == 2)) (by kernel_rfl) (fun hb121 => ?_) (fun hb121 => ?_)
                        · replace H := ite_t H hb121
                          refine WR.runk [28] [29, 30, 31, 32] [70, 71] (L' := [(70, .bool true), (71, .pointer (some ⟨b28, 0, none⟩))]) (w' := w119) (by kernel_rfl) ?_
                          obtain ⟨r122, e123, H⟩ := bind_ex H
                          obtain ⟨B128, hso127, hsub125, hcs126, hb124⟩ := Sat.lend [O49 b28 r92.2] (cs := [optP O49 pv24 r15.1, pts b13 (.cells #[.int .i64 1, .int .i64 0] 27 (0, 0)), pts b1 (.cells #[.int .i64 1, .int .i64 2, .int .i64 1, .int .i64 2] 27 (0, 0))]) hS
                          refine WR.st (St.call (by kernel_rfl) (f := 7) (args := #[.pointer (some ⟨b28, 0, none⟩), .int .i64 2]) (by kernel_rfl) (quota_Gate_Enter.calls B128 w119 b28 r92.2 hso127 2 r122 e123) ?_)
                          rintro _ w129 ⟨rfl, hS130⟩
                          have hS : Sat w129 (rf w0) [O49 b28 r122.2, optP O49 pv24 r15.1, pts b13 (.cells #[.int .i64 1, .int .i64 0] 27 (0, 0)), pts b1 (.cells #[.int .i64 1, .int .i64 2, .int .i64 1, .int .i64 2] 27 (0, 0))] := hb124 _ _ hS130
                          refine WR.runk [30, 31, 32] [] [0] (L' := [(0, .bool (r122.1 == 222))]) (w' := w129) (by kernel_rfl) ?_
                          refine WR.nil ?_
                          refine At.go ?_
                          refine WC.ret (by kernel_rfl) ?_
                          obtain rfl := Option.some.inj H
                          have hS : Sat w129 (rf w0) [] := hS.sel [] (by kernel_rfl)
                          exact At.body [.bool (r122.1 == 222)] (by kernel_rfl) ⟨_, rfl, rfl, hS⟩
                        · replace H := ite_f H hb121
                          refine WR.runk [28, 29, 30, 31, 32] [] [0] (L' := [(0, .bool false)]) (w' := w119) (by kernel_rfl) ?_
                          refine WR.nil ?_
                          refine At.go ?_
                          refine WC.ret (by kernel_rfl) ?_
                          obtain rfl := Option.some.inj H
                          have hS : Sat w119 (rf w0) [] := hS.sel [] (by kernel_rfl)
                          exact At.body [.bool false] (by kernel_rfl) ⟨_, rfl, rfl, hS⟩
                      · replace H := ite_f H hb111
                        refine WR.runk [23, 24, 25, 26, 27, 28, 29, 30, 31, 32] [] [0] (L' := [(0, .bool false)]) (w' := w109) (by kernel_rfl) ?_
                        refine WR.nil ?_
                        refine At.go ?_
                        refine WC.ret (by kernel_rfl) ?_
                        obtain rfl := Option.some.inj H
                        have hS : Sat w109 (rf w0) [] := hS.sel [] (by kernel_rfl)
                        exact At.body [.bool false] (by kernel_rfl) ⟨_, rfl, rfl, hS⟩
                    · replace H := ite_f H hb101
                      refine WR.runk [18, 19, 20, 21, 22, 23, 24, 25, 26, 27, 28, 29, 30, 31, 32] [] [0] (L' := [(0, .bool false)]) (w' := w99) (by kernel_rfl) ?_
                      refine WR.nil ?_
                      refine At.go ?_
                      refine WC.ret (by kernel_rfl) ?_
                      obtain rfl := Option.some.inj H
                      have hS : Sat w99 (rf w0) [] := hS.sel [] (by kernel_rfl)
                      exact At.body [.bool false] (by kernel_rfl) ⟨_, rfl, rfl, hS⟩
                  · replace H := ite_f H hb91
                    refine WR.runk [13, 14, 15, 16, 17, 18, 19, 20, 21, 22, 23, 24, 25, 26, 27, 28, 29, 30, 31, 32] [] [0] (L' := [(0, .bool false)]) (w' := w89) (by kernel_rfl) ?_
                    refine WR.nil ?_
                    refine At.go ?_
                    refine WC.ret (by kernel_rfl) ?_
                    obtain rfl := Option.some.inj H
                    have hS : Sat w89 (rf w0) [] := hS.sel [] (by kernel_rfl)
                    exact At.body [.bool false] (by kernel_rfl) ⟨_, rfl, rfl, hS⟩
                · replace H := ite_f H hb81
                  refine WR.runk [9, 10, 11, 12, 13, 14, 15, 16, 17, 18, 19, 20, 21, 22, 23, 24, 25, 26, 27, 28, 29, 30, 31, 32] [] [0] (L' := [(0, .bool false)]) (w' := w79) (by kernel_rfl) ?_
                  refine WR.nil ?_
                  refine At.go ?_
                  refine WC.ret (by kernel_rfl) ?_
                  obtain rfl := Option.some.inj H
                  have hS : Sat w79 (rf w0) [] := hS.sel [] (by kernel_rfl)
                  exact At.body [.bool false] (by kernel_rfl) ⟨_, rfl, rfl, hS⟩
              · replace H := ite_f H hb71
                refine WR.runk [4, 5, 6, 7, 8, 9, 10, 11, 12, 13, 14, 15, 16, 17, 18, 19, 20, 21, 22, 23, 24, 25, 26, 27, 28, 29, 30, 31, 32] [] [0] (L' := [(0, .bool false)]) (w' := w69) (by kernel_rfl) ?_
                refine WR.nil ?_
                refine At.go ?_
                refine WC.ret (by kernel_rfl) ?_
                obtain rfl := Option.some.inj H
                have hS : Sat w69 (rf w0) [] := hS.sel [] (by kernel_rfl)
                exact At.body [.bool false] (by kernel_rfl) ⟨_, rfl, rfl, hS⟩
/-! ### 11 colophon/colophonref22.Right -/
def colophonref22_Right.l1 (l0 : List (Int × Int)) : Nat → Int → Option (Sum Bool Unit)
  | 0, _ => none
  | k + 1, x7_l1 => (if decide (x7_l1 < (l0.length : Int)) then ((at? l0 x7_l1).bind fun v2 => (if decide (v2.1 < 1) then some (.inl false) else (if decide (v2.1 > 16) then some (.inl false) else (if decide (v2.2 < 0) then some (.inl false) else (if decide (v2.2 > 64) then some (.inl false) else colophonref22_Right.l1 l0 k (wi (x7_l1 + 1))))))) else some (.inr ()))
def colophonref22_Right.f (l0 : List (Int × Int)) : Option Bool := ((colophonref22_Right.l1 l0 FU 0).bind fun o12 => (match o12 with | .inl o14 => some o14 | .inr o18 => (if decide ((l0.length : Int) ≥ 1) then some (decide ((l0.length : Int) ≤ 16)) else some false)))
def colophonref22_Right.post (w : World) (r : Bool) (v : Value) (w' : World) : Prop := v = (.bool r : Value) ∧ Sat w' (rf w) []
theorem colophonref22_Right.l1_ok {Q} (w0 : World) (A0 : Option Addr) (c0 : Nat) (l0 : List (Int × Int)) (R0 : rdS (r0 (.pair (.int .i64) (.int .i64))) 2 (hp w0) A0 c0 l0) (out : Sum Bool Unit) (hn0 : ∀ (o0 : Bool) (w : World), out = (.inl o0) → Sat w (rf w0) [] → At Q .ret 38 [(2, .bool o0)] w) (hn1 : ∀ (o1 : Unit) (w : World), out = (.inr o1) → Sat w (rf w0) [] → At Q (.exit 0) 38 [(0, .slice A0 l0.length c0)] w) :
    ∀ (k : Nat) (x7_l1 : Int) (w : World), Sat w (rf w0) [] → colophonref22_Right.l1 l0 k x7_l1 = some out → WL Try.prog (cbody (cbody (cr (cl (cr C11))))) Q 38 [(0, .slice A0 l0.length c0), (5, .slice A0 l0.length c0), (6, .int .i64 (l0.length : Int)), (7, .int .i64 x7_l1)] w := by
  intro k
  induction k with
  | zero => intro x7_l1 w hS H; exact absurd (show none = some out from H) (by simp)
  | succ k ih =>
    intro x7_l1 w hS H
    unfold colophonref22_Right.l1 at H
    refine WL.round ?_
    refine WC.seq (by kernel_rfl) ?_
    refine WC.reg [0] (by kernel_rfl) (by kernel_rfl) ?_
    refine WR.runk [0] [] [0, 5, 6, 7, 8] (L' := [(0, .slice A0 l0.length c0), (5, .slice A0 l0.length c0), (6, .int .i64 (l0.length : Int)), (7, .int .i64 x7_l1), (8, .bool (decide (x7_l1 < (l0.length : Int))))]) (w' := w) (by kernel_rfl) ?_
    refine WR.nil ?_
    refine At.go ?_
    refine WC.seq (by kernel_rfl) ?_
    refine WC.cond (by kernel_rfl) (decide (x7_l1 < (l0.length : Int))) (by kernel_rfl) (by kernel_rfl) (fun hb1 => ?_) (fun hb1 => ?_)
    · replace H := ite_t H hb1
      refine WC.skip (by kernel_rfl) ?_
      refine At.go ?_
      refine WC.seq (by kernel_rfl) ?_
      refine WC.block (by kernel_rfl) ?_
      refine WC.seq (by kernel_rfl) ?_
      refine WC.reg [0, 1, 2, 3] (by kernel_rfl) (by kernel_rfl) ?_
      refine WR.runk [] [0, 1, 2, 3] [0, 5, 6, 7] (L' := [(0, .slice A0 l0.length c0), (5, .slice A0 l0.length c0), (6, .int .i64 (l0.length : Int)), (7, .int .i64 x7_l1)]) (w' := w) (by kernel_rfl) ?_
      obtain ⟨v2, e3, H⟩ := bind_ex H
      refine WR.st (St.ofP (PSt.idx (k := .i64) (.tmp 5) (.tmp 7) (by kernel_rfl) (by kernel_rfl) E25 (by kernel_rfl) (by kernel_rfl) (rdS.up R0 hS.sub0) e3 ?_))
      refine WR.runk [] [1, 2, 3] [0, 5, 6, 7, 9] (L' := [(0, .slice A0 l0.length c0), (5, .slice A0 l0.length c0), (6, .int .i64 (l0.length : Int)), (7, .int .i64 x7_l1), (9, .pointer (some (adr A0 x7_l1.toNat 2)))]) (w' := w) (by kernel_rfl) ?_
      refine WR.st (St.ofR (RSt.loadFlat (t := 27) (κ := (.pair (.int .i64) (.int .i64))) (.tmp 9) (by kernel_rfl) (by kernel_rfl) (by kernel_rfl) (by kernel_rfl) (by kernel_rfl) (by kernel_rfl) (rdS.up R0 hS.sub0) e3 ?_))
      refine WR.runk [] [2, 3] [0, 5, 6, 7, 10] (L' := [(0, .slice A0 l0.length c0), (5, .slice A0 l0.length c0), (6, .int .i64 (l0.length : Int)), (7, .int .i64 x7_l1), (10, .agg #[.int .i64 v2.1, .int .i64 v2.2])]) (w' := w) (by kernel_rfl) ?_
      refine WR.st (St.box hS (by kernel_rfl) (.cells #[.int .i64 0, .int .i64 0] 27) (fun b4 => .pointer (some ⟨b4, 0, none⟩)) (fun _ => by kernel_rfl) (fun b4 w5 hS => ?_))
      refine WR.runk [] [3] [0, 4, 5, 6, 7, 10] (L' := [(0, .slice A0 l0.length c0), (4, .pointer (some ⟨b4, 0, none⟩)), (5, .slice A0 l0.length c0), (6, .int .i64 (l0.length : Int)), (7, .int .i64 x7_l1), (10, .agg #[.int .i64 v2.1, .int .i64 v2.2])]) (w' := w5) (by kernel_rfl) ?_
      refine WR.st (St.storeAll (t := 27) (vs := [.int .i64 v2.1, .int .i64 v2.2]) (.tmp 4) (.tmp 10) (by kernel_rfl) (by kernel_rfl) (by kernel_rfl) hS (by kernel_rfl) (by kernel_rfl) (by kernel_rfl) (by kernel_rfl) (fun w7 hS => ?_))
      have hS : Sat w7 (rf w0) [pts b4 (.cells #[.int .i64 v2.1, .int .i64 v2.2] 27 (0, 0))] := hS
      refine WR.runk [] [] [0, 4, 5, 6, 7] (L' := [(0, .slice A0 l0.length c0), (4, .pointer (some ⟨b4, 0, none⟩)), (5, .slice A0 l0.length c0), (6, .int .i64 (l0.length : Int)), (7, .int .i64 x7_l1)]) (w' := w7) (by kernel_rfl) ?_
      refine WR.nil ?_
      refine At.go ?_
      refine WC.seq (by kernel_rfl) ?_
      refine WC.reg [0, 1, 2, 3, 4, 5, 6, 7, 8, 9, 10, 11, 12, 13, 14, 15, 16, 17] (by kernel_rfl) (by kernel_rfl) ?_
      refine WR.runk [0] [1, 2, 3, 4, 5, 6, 7, 8, 9, 10, 11, 12, 13, 14, 15, 16, 17] [0, 4, 5, 6, 7, 11] (L' := [(0, .slice A0 l0.length c0), (4, .pointer (some ⟨b4, 0, none⟩)), (5, .slice A0 l0.length c0), (6, .int .i64 (l0.length : Int)), (7, .int .i64 x7_l1), (11, .pointer (some ⟨b4, 0, none⟩))]) (w' := w7) (by kernel_rfl) ?_
      refine WR.st (St.ofR (RSt.loadObj (t := 3) (k := 0) (v := .int .i64 v2.1) (.tmp 11) (by kernel_rfl) (by kernel_rfl) (by kernel_rfl) 0 hS rfl (by kernel_rfl) rfl ?_))
      refine WR.runk [2, 3] [4, 5, 6, 7, 8, 9, 10, 11, 12, 13, 14, 15, 16, 17] [0, 4, 5, 6, 7, 14] (L' := [(0, .slice A0 l0.length c0), (4, .pointer (some ⟨b4, 0, none⟩)), (5, .slice A0 l0.length c0), (6, .int .i64 (l0.length : Int)), (7, .int .i64 x7_l1), (14, .bool (decide (v2.1 < 1)))]) (w' := w7) (by kernel_rfl) ?_
      refine WR.split 14 (b := decide (v2.1 < 1)) (by kernel_rfl) (fun hb8 => ?_) (fun hb8 => ?_)
      · replace H := ite_t H hb8
        refine WR.runk [4, 5, 6, 7, 8, 9, 10, 11, 12, 13, 14, 15, 16, 17] [] [0, 5, 6, 7, 15, 16, 17, 20, 21, 22, 25, 26, 27, 28] (L' := [(0, .slice A0 l0.length c0), (5, .slice A0 l0.length c0), (6, .int .i64 (l0.length : Int)), (7, .int .i64 x7_l1), (15, undef), (16, undef), (17, undef), (20, undef), (21, undef), (22, undef), (25, undef), (26, undef), (27, undef), (28, .bool true)]) (w' := w7) (by kernel_rfl) ?_
        refine WR.nil ?_
        refine At.go ?_
        refine WC.condT (by kernel_rfl) (by kernel_rfl) (by kernel_rfl) ?_
        refine WC.seq (by kernel_rfl) ?_
        refine WC.reg [0] (by kernel_rfl) (by kernel_rfl) ?_
        refine WR.runk [0] [] [2] (L' := [(2, .bool false)]) (w' := w7) (by kernel_rfl) ?_
        refine WR.nil ?_
        refine At.go ?_
        refine WC.ret (by kernel_rfl) ?_
        refine At.blockRet ?_
        refine At.thenRet ?_
        refine At.thenRet ?_
        obtain rfl := Option.some.inj H
        have hS : Sat w7 (rf w0) [] := hS.sel [] (by kernel_rfl)
        refine At.weaken [2] (L' := [(2, .bool false)]) (by kernel_rfl) ?_
        exact hn0 false _ rfl hS
      · replace H := ite_f H hb8
        refine WR.runk [4] [5, 6, 7, 8, 9, 10, 11, 12, 13, 14, 15, 16, 17] [0, 4, 5, 6, 7, 14, 15] (L' := [(0, .slice A0 l0.length c0), (4, .pointer (some ⟨b4, 0, none⟩)), (5, .slice A0 l0.length c0), (6, .int .i64 (l0.length : Int)), (7, .int .i64 x7_l1), (14, .bool false), (15, .pointer (some ⟨b4, 0, none⟩))]) (w' := w7) (by kernel_rfl) ?_
        refine WR.st (St.ofR (RSt.loadObj (t := 3) (k := 0) (v := .int .i64 v2.1) (.tmp 15) (by kernel_rfl) (by kernel_rfl) (by kernel_rfl) 0 hS rfl (by kernel_rfl) rfl ?_))
        refine WR.runk [6, 7, 8] [9, 10, 11, 12, 13, 14, 15, 16, 17] [0, 4, 5, 6, 7, 15, 16, 17, 19] (L' := [(0, .slice A0 l0.length c0), (4, .pointer (some ⟨b4, 0, none⟩)), (5, .slice A0 l0.length c0), (6, .int .i64 (l0.length : Int)), (7, .int .i64 x7_l1), (15, .pointer (some ⟨b4, 0, none⟩)), (16, .int .i64 v2.1), (17, .bool (decide (v2.1 > 16))), (19, .bool (decide (v2.1 > 16)))]) (w' := w7) (by kernel_rfl) ?_
        refine WR.split 19 (b := decide (v2.1 > 16)) (by kernel_rfl) (fun hb9 => ?_) (fun hb9 => ?_)
        · replace H := ite_t H hb9
          refine WR.runk [9, 10, 11, 12, 13, 14, 15, 16, 17] [] [0, 5, 6, 7, 15, 16, 17, 20, 21, 22, 25, 26, 27, 28] (L' := [(0, .slice A0 l0.length c0), (5, .slice A0 l0.length c0), (6, .int .i64 (l0.length : Int)), (7, .int .i64 x7_l1), (15, .pointer (some ⟨b4, 0, none⟩)), (16, .int .i64 v2.1), (17, .bool (decide (v2.1 > 16))), (20, undef), (21, undef), (22, undef), (25, undef), (26, undef), (27, undef), (28, .bool true)]) (w' := w7) (by kernel_rfl) ?_
          refine WR.nil ?_
          refine At.go ?_
          refine WC.condT (by kernel_rfl) (by kernel_rfl) (by kernel_rfl) ?_
          refine WC.seq (by kernel_rfl) ?_
          refine WC.reg [0] (by kernel_rfl) (by kernel_rfl) ?_
          refine WR.runk [0] [] [2] (L' := [(2, .bool false)]) (w' := w7) (by kernel_rfl) ?_
          refine WR.nil ?_
          refine At.go ?_
          refine WC.ret (by kernel_rfl) ?_
          refine At.blockRet ?_
          refine At.thenRet ?_
          refine At.thenRet ?_
          obtain rfl := Option.some.inj H
          have hS : Sat w7 (rf w0) [] := hS.sel [] (by kernel_rfl)
          refine At.weaken [2] (L' := [(2, .bool false)]) (by kernel_rfl) ?_
          exact hn0 false _ rfl hS
        · replace H := ite_f H hb9
          refine WR.runk [9] [10, 11, 12, 13, 14, 15, 16, 17] [0, 4, 5, 6, 7, 15, 16, 17, 19, 20] (L' := [(0, .slice A0 l0.length c0), (4, .pointer (some ⟨b4, 0, none⟩)), (5, .slice A0 l0.length c0), (6, .int .i64 (l0.length : Int)), (7, .int .i64 x7_l1), (15, .pointer (some ⟨b4, 0, none⟩)), (16, .int .i64 v2.1), (17, .bool (decide (v2.1 > 16))), (19, .bool false), (20, .pointer (some ⟨b4, 1, none⟩))]) (w' := w7) (by kernel_rfl) ?_
          refine WR.st (St.ofR (RSt.loadObj (t := 3) (k := 1) (v := .int .i64 v2.2) (.tmp 20) (by kernel_rfl) (by kernel_rfl) (by kernel_rfl) 0 hS rfl (by kernel_rfl) rfl ?_))
          refine WR.runk [11, 12, 13] [14, 15, 16, 17] [0, 4, 5, 6, 7, 15, 16, 17, 20, 21, 22, 24] (L' := [(0, .slice A0 l0.length c0), (4, .pointer (some ⟨b4, 0, none⟩)), (5, .slice A0 l0.length c0), (6, .int .i64 (l0.length : Int)), (7, .int .i64 x7_l1), (15, .pointer (some ⟨b4, 0, none⟩)), (16, .int .i64 v2.1), (17, .bool (decide (v2.1 > 16))), (20, .pointer (some ⟨b4, 1, none⟩)), (21, .int .i64 v2.2), (22, .bool (decide (v2.2 < 0))), (24, .bool (decide (v2.2 < 0)))]) (w' := w7) (by kernel_rfl) ?_
          refine WR.split 24 (b := decide (v2.2 < 0)) (by kernel_rfl) (fun hb10 => ?_) (fun hb10 => ?_)
          · replace H := ite_t H hb10
            refine WR.runk [14, 15, 16, 17] [] [0, 5, 6, 7, 15, 16, 17, 20, 21, 22, 25, 26, 27, 28] (L' := [(0, .slice A0 l0.length c0), (5, .slice A0 l0.length c0), (6, .int .i64 (l0.length : Int)), (7, .int .i64 x7_l1), (15, .pointer (some ⟨b4, 0, none⟩)), (16, .int .i64 v2.1), (17, .bool (decide (v2.1 > 16))), (20, .pointer (some ⟨b4, 1, none⟩)), (21, .int .i64 v2.2), (22, .bool (decide (v2.2 < 0))), (25, undef), (26, undef), (27, undef), (28, .bool true)]) (w' := w7) (by kernel_rfl) ?_
            refine WR.nil ?_
            refine At.go ?_
            refine WC.condT (by kernel_rfl) (by kernel_rfl) (by kernel_rfl) ?_
            refine WC.seq (by kernel_rfl) ?_
            refine WC.reg [0] (by kernel_rfl) (by kernel_rfl) ?_
            refine WR.runk [0] [] [2] (L' := [(2, .bool false)]) (w' := w7) (by kernel_rfl) ?_
            refine WR.nil ?_
            refine At.go ?_
            refine WC.ret (by kernel_rfl) ?_
            refine At.blockRet ?_
            refine At.thenRet ?_
            refine At.thenRet ?_
            obtain rfl := Option.some.inj H
            have hS : Sat w7 (rf w0) [] := hS.sel [] (by kernel_rfl)
            refine At.weaken [2] (L' := [(2, .bool false)]) (by kernel_rfl) ?_
            exact hn0 false _ rfl hS
          · replace H := ite_f H hb10
            refine WR.runk [14] [15, 16, 17] [0, 5, 6, 7, 15, 16, 17, 20, 21, 22, 24, 25] (L' := [(0, .slice A0 l0.length c0), (5, .slice A0 l0.length c0), (6, .int .i64 (l0.length : Int)), (7, .int .i64 x7_l1), (15, .pointer (some ⟨b4, 0, none⟩)), (16, .int .i64 v2.1), (17, .bool (decide (v2.1 > 16))), (20, .pointer (some ⟨b4, 1, none⟩)), (21, .int .i64 v2.2), (22, .bool (decide (v2.2 < 0))), (24, .bool false), (25, .pointer (some ⟨b4, 1, none⟩))]) (w' := w7) (by kernel_rfl) ?_
            refine WR.st (St.ofR (RSt.loadObj (t := 3) (k := 1) (v := .int .i64 v2.2) (.tmp 25) (by kernel_rfl) (by kernel_rfl) (by kernel_rfl) 0 hS rfl (by kernel_rfl) rfl ?_))
            refine WR.runk [16, 17] [] [0, 5, 6, 7, 15, 16, 17, 20, 21, 22, 25, 26, 27, 28] (L' := [(0, .slice A0 l0.length c0), (5, .slice A0 l0.length c0), (6, .int .i64 (l0.length : Int)), (7, .int .i64 x7_l1), (15, .pointer (some ⟨b4, 0, none⟩)), (16, .int .i64 v2.1), (17, .bool (decide (v2.1 > 16))), (20, .pointer (some ⟨b4, 1, none⟩)), (21, .int .i64 v2.2), (22, .bool (decide (v2.2 < 0))), (25, .pointer (some ⟨b4, 1, none⟩)), (26, .int .i64 v2.2), (27, .bool (decide (v2.2 > 64))), (28, .bool (decide (v2.2 > 64)))]) (w' := w7) (by kernel_rfl) ?_
            refine WR.nil ?_
            refine At.go ?_
            refine WC.cond (by kernel_rfl) (decide (v2.2 > 64)) (by kernel_rfl) (by kernel_rfl) (fun hb11 => ?_) (fun hb11 => ?_)
            · replace H := ite_t H hb11
              refine WC.seq (by kernel_rfl) ?_
              refine WC.reg [0] (by kernel_rfl) (by kernel_rfl) ?_
              refine WR.runk [0] [] [2] (L' := [(2, .bool false)]) (w' := w7) (by kernel_rfl) ?_
              refine WR.nil ?_
              refine At.go ?_
              refine WC.ret (by kernel_rfl) ?_
              refine At.blockRet ?_
              refine At.thenRet ?_
              refine At.thenRet ?_
              obtain rfl := Option.some.inj H
              have hS : Sat w7 (rf w0) [] := hS.sel [] (by kernel_rfl)
              refine At.weaken [2] (L' := [(2, .bool false)]) (by kernel_rfl) ?_
              exact hn0 false _ rfl hS
            · replace H := ite_f H hb11
              refine WC.skip (by kernel_rfl) ?_
              refine At.blockNormal ?_
              refine At.go ?_
              refine WC.reg [0, 1] (by kernel_rfl) (by kernel_rfl) ?_
              refine WR.runk [0, 1] [] [0, 5, 6, 7, 15, 16, 17, 20, 21, 22, 25, 26] (L' := [(0, .slice A0 l0.length c0), (5, .slice A0 l0.length c0), (6, .int .i64 (l0.length : Int)), (7, .int .i64 (wi (x7_l1 + 1))), (15, .pointer (some ⟨b4, 0, none⟩)), (16, .int .i64 v2.1), (17, .bool (decide (v2.1 > 16))), (20, .pointer (some ⟨b4, 1, none⟩)), (21, .int .i64 v2.2), (22, .bool (decide (v2.2 < 0))), (25, .pointer (some ⟨b4, 1, none⟩)), (26, .int .i64 v2.2)]) (w' := w7) (by kernel_rfl) ?_
              refine WR.nil ?_
              have hS : Sat w7 (rf w0) [] := hS.sel [] (by kernel_rfl)
              refine At.again ?_
              refine WL.weaken [0, 5, 6, 7] (L' := [(0, .slice A0 l0.length c0), (5, .slice A0 l0.length c0), (6, .int .i64 (l0.length : Int)), (7, .int .i64 (wi (x7_l1 + 1)))]) (by kernel_rfl) ?_
              exact ih (wi (x7_l1 + 1)) _ hS H
    · replace H := ite_f H hb1
      refine WC.exit (by kernel_rfl) ?_
      refine At.thenExit ?_
      refine At.thenExit ?_
      obtain rfl := Option.some.inj H
      have hS : Sat w (rf w0) [] := hS.sel [] (by kernel_rfl)
      refine At.weaken [0] (L' := [(0, .slice A0 l0.length c0)]) (by kernel_rfl) ?_
      exact hn1 () _ rfl hS
theorem colophonref22_Right.calls (w0 : World) (A0 : Option Addr) (c0 : Nat) (l0 : List (Int × Int)) (R0 : rdS (r0 (.pair (.int .i64) (.int .i64))) 2 (hp w0) A0 c0 l0) (r : Bool) (H : colophonref22_Right.f l0 = some r) :
    Calls Try.prog 11 #[.slice A0 l0.length c0] w0 (fun e w' => ∃ v, e = .returned v ∧ colophonref22_Right.post w0 r v w') := by
  have hS : Sat w0 (rf w0) [] := Sat.start w0
  unfold colophonref22_Right.f at H
  refine calls_of_WC (vs := [.slice A0 l0.length c0]) Try.func11 (c := C11) (n := 38) (by kernel_rfl) (by kernel_rfl) (by kernel_rfl) ?_
  refine WC.seq (by kernel_rfl) ?_
  refine WC.reg [0] (by kernel_rfl) (by kernel_rfl) ?_
  refine WR.runk [0] [] [0] (L' := [(0, .slice A0 l0.length c0)]) (w' := w0) (by kernel_rfl) ?_
  refine WR.nil ?_
  refine At.go ?_
  refine WC.seq (by kernel_rfl) ?_
  refine WC.seq (by kernel_rfl) ?_
  refine WC.reg [0, 1, 2] (by kernel_rfl) (by kernel_rfl) ?_
  refine WR.runk [0, 1, 2] [] [0, 5, 6, 7] (L' := [(0, .slice A0 l0.length c0), (5, .slice A0 l0.length c0), (6, .int .i64 (l0.length : Int)), (7, .int .i64 0)]) (w' := w0) (by kernel_rfl) ?_
  refine WR.nil ?_
  refine At.go ?_
  refine WC.block (by kernel_rfl) ?_
  have hS : Sat w0 (rf w0) [] := hS.sel [] (by kernel_rfl)
  obtain ⟨o12, e13, H⟩ := bind_ex H
  refine WC.loop (by kernel_rfl) ?_
  refine WL.weaken [0, 5, 6, 7] (L' := [(0, .slice A0 l0.length c0), (5, .slice A0 l0.length c0), (6, .int .i64 (l0.length : Int)), (7, .int .i64 0)]) (by kernel_rfl) ?_
  refine colophonref22_Right.l1_ok w0 A0 c0 l0 R0 o12 (fun o14 w16 ho17 hS => ?_) (fun o18 w20 ho21 hS => ?_) FU 0 _ hS e13
  · subst ho17
    dsimp only at H
    refine At.blockRet ?_
    refine At.thenRet ?_
    obtain rfl := Option.some.inj H
    have hS : Sat w16 (rf w0) [] := hS.sel [] (by kernel_rfl)
    exact At.body [.bool o14] (by kernel_rfl) ⟨_, rfl, rfl, hS⟩
  · subst ho21
    dsimp only at H
    refine At.hit ?_
    refine At.go ?_
    refine WC.seq (by kernel_rfl) ?_
    refine WC.reg [0, 1, 2, 3, 4, 5, 6, 7, 8] (by kernel_rfl) (by kernel_rfl) ?_
    refine WR.runk [0, 1, 2, 3] [4, 5, 6, 7, 8] [0, 33] (L' := [(0, .slice A0 l0.length c0), (33, .bool (decide ((l0.length : Int) ≥ 1)))]) (w' := w20) (by kernel_rfl) ?_
    refine WR.split 33 (b := decide ((l0.length : Int) ≥ 1)) (by kernel_rfl) (fun hb22 => ?_) (fun hb22 => ?_)
    · replace H := ite_t H hb22
      refine WR.runk [4, 5, 6, 7, 8] [] [2] (L' := [(2, .bool (decide ((l0.length : Int) ≤ 16)))]) (w' := w20) (by kernel_rfl) ?_
      refine WR.nil ?_
      refine At.go ?_
      refine WC.ret (by kernel_rfl) ?_
      obtain rfl := Option.some.inj H
      have hS : Sat w20 (rf w0) [] := hS.sel [] (by kernel_rfl)
      exact At.body [.bool (decide ((l0.length : Int) ≤ 16))] (by kernel_rfl) ⟨_, rfl, rfl, hS⟩
    · replace H := ite_f H hb22
      refine WR.runk [4, 5, 6, 7, 8] [] [2] (L' := [(2, .bool false)]) (w' := w20) (by kernel_rfl) ?_
      refine WR.nil ?_
      refine At.go ?_
      refine WC.ret (by kernel_rfl) ?_
      obtain rfl := Option.some.inj H
      have hS : Sat w20 (rf w0) [] := hS.sel [] (by kernel_rfl)
      exact At.body [.bool false] (by kernel_rfl) ⟨_, rfl, rfl, hS⟩
/-! ### 15 (*colophon/colophonref22.Gate).Live -/
def colophonref22_Gate_Live.l1 (a1 : Int) (y3 : Int × (List (Int × Int)) × (List Int)) : Nat → Int → Int → Option Int
  | 0, _, _ => none
  | k + 1, x5_l1, x13_l1 => (if decide (x13_l1 < (y3.2.2.length : Int)) then ((at? y3.2.2 x13_l1).bind fun v16 => (if (v16 == a1) then colophonref22_Gate_Live.l1 a1 y3 k (wi (x5_l1 + 1)) (wi (x13_l1 + 1)) else colophonref22_Gate_Live.l1 a1 y3 k x5_l1 (wi (x13_l1 + 1)))) else some x5_l1)
def colophonref22_Gate_Live.f (p0 : Option (Int × (List (Int × Int)) × (List Int))) (a1 : Int) : Option Int := (p0.bind fun y3 => ((colophonref22_Gate_Live.l1 a1 y3 FU 0 0).bind fun o19 => some o19))
def colophonref22_Gate_Live.post (w : World) (r : Int) (v : Value) (w' : World) : Prop := v = (.int .i64 r : Value) ∧ Sat w' (rf w) []
theorem colophonref22_Gate_Live.l1_ok {Q} (w0 : World) (a1 : Int) (y3 : Int × (List (Int × Int)) × (List Int)) (A12 : Option Addr) (c13 : Nat) (R14 : rdS (r0 (.int .i64)) 1 (hp w0) A12 c13 y3.2.2) (out : Int) (hn0 : ∀ (w : World), Sat w (rf w0) [] → At Q (.exit 0) 24 [(5, .int .i64 out)] w) :
    ∀ (k : Nat) (x5_l1 : Int) (x13_l1 : Int) (w : World), Sat w (rf w0) [] → colophonref22_Gate_Live.l1 a1 y3 k x5_l1 x13_l1 = some out → WL Try.prog (cbody (cbody (cr (cl (cr (cr C15)))))) Q 24 [(1, .int .i64 a1), (5, .int .i64 x5_l1), (11, .slice A12 y3.2.2.length c13), (12, .int .i64 (y3.2.2.length : Int)), (13, .int .i64 x13_l1)] w := by
  intro k
  induction k with
  | zero => intro x5_l1 x13_l1 w hS H; exact absurd (show none = some out from H) (by simp)
  | succ k ih =>
    intro x5_l1 x13_l1 w hS H
    unfold colophonref22_Gate_Live.l1 at H
    refine WL.round ?_
    refine WC.seq (by kernel_rfl) ?_
    refine WC.reg [0] (by kernel_rfl) (by kernel_rfl) ?_
    refine WR.runk [0] [] [1, 5, 11, 12, 13, 14] (L' := [(1, .int .i64 a1), (5, .int .i64 x5_l1), (11, .slice A12 y3.2.2.length c13), (12, .int .i64 (y3.2.2.length : Int)), (13, .int .i64 x13_l1), (14, .bool (decide (x13_l1 < (y3.2.2.length : Int))))]) (w' := w) (by kernel_rfl) ?_
    refine WR.nil ?_
    refine At.go ?_
    refine WC.seq (by kernel_rfl) ?_
    refine WC.cond (by kernel_rfl) (decide (x13_l1 < (y3.2.2.length : Int))) (by kernel_rfl) (by kernel_rfl) (fun hb15 => ?_) (fun hb15 => ?_)
    · replace H := ite_t H hb15
      refine WC.skip (by kernel_rfl) ?_
      refine At.go ?_
      refine WC.seq (by kernel_rfl) ?_
      refine WC.block (by kernel_rfl) ?_
      refine WC.seq (by kernel_rfl) ?_
      refine WC.reg [0, 1, 2] (by kernel_rfl) (by kernel_rfl) ?_
      refine WR.runk [] [0, 1, 2] [1, 5, 11, 12, 13] (L' := [(1, .int .i64 a1), (5, .int .i64 x5_l1), (11, .slice A12 y3.2.2.length c13), (12, .int .i64 (y3.2.2.length : Int)), (13, .int .i64 x13_l1)]) (w' := w) (by kernel_rfl) ?_
      obtain ⟨v16, e17, H⟩ := bind_ex H
      refine WR.st (St.ofP (PSt.idx (k := .i64) (.tmp 11) (.tmp 13) (by kernel_rfl) (by kernel_rfl) E23 (by kernel_rfl) (by kernel_rfl) (rdS.up R14 hS.sub0) e17 ?_))
      refine WR.runk [] [1, 2] [1, 5, 11, 12, 13, 15] (L' := [(1, .int .i64 a1), (5, .int .i64 x5_l1), (11, .slice A12 y3.2.2.length c13), (12, .int .i64 (y3.2.2.length : Int)), (13, .int .i64 x13_l1), (15, .pointer (some (adr A12 x13_l1.toNat 1)))]) (w' := w) (by kernel_rfl) ?_
      refine WR.st (St.ofR (RSt.loadInt (t := 3) (.tmp 15) (by kernel_rfl) (by kernel_rfl) (by kernel_rfl) (by kernel_rfl) (rdS.up R14 hS.sub0) e17 ?_))
      refine WR.runk [2] [] [1, 5, 7, 11, 12, 13] (L' := [(1, .int .i64 a1), (5, .int .i64 x5_l1), (7, .int .i64 v16), (11, .slice A12 y3.2.2.length c13), (12, .int .i64 (y3.2.2.length : Int)), (13, .int .i64 x13_l1)]) (w' := w) (by kernel_rfl) ?_
      refine WR.nil ?_
      refine At.go ?_
      refine WC.seq (by kernel_rfl) ?_
      refine WC.reg [0, 1, 2] (by kernel_rfl) (by kernel_rfl) ?_
      refine WR.runk [0, 1, 2] [] [1, 5, 11, 12, 13, 19] (L' := [(1, .int .i64 a1), (5, .int .i64 x5_l1), (11, .slice A12 y3.2.2.length c13), (12, .int .i64 (y3.2.2.length : Int)), (13, .int .i64 x13_l1), (19, .bool (v16 == a1))]) (w' := w) (by kernel_rfl) ?_
      refine WR.nil ?_
      refine At.go ?_
      refine WC.cond (by kernel_rfl) (v16 == a1) (by kernel_rfl) (by kernel_rfl) (fun hb18 => ?_) (fun hb18 => ?_)
      · replace H := ite_t H hb18
        refine WC.reg [0, 1, 2] (by kernel_rfl) (by kernel_rfl) ?_
        refine WR.runk [0, 1, 2] [] [1, 5, 11, 12, 13] (L' := [(1, .int .i64 a1), (5, .int .i64 (wi (x5_l1 + 1))), (11, .slice A12 y3.2.2.length c13), (12, .int .i64 (y3.2.2.length : Int)), (13, .int .i64 x13_l1)]) (w' := w) (by kernel_rfl) ?_
        refine WR.nil ?_
        refine At.blockNormal ?_
        refine At.go ?_
        refine WC.reg [0, 1] (by kernel_rfl) (by kernel_rfl) ?_
        refine WR.runk [0, 1] [] [1, 5, 11, 12, 13] (L' := [(1, .int .i64 a1), (5, .int .i64 (wi (x5_l1 + 1))), (11, .slice A12 y3.2.2.length c13), (12, .int .i64 (y3.2.2.length : Int)), (13, .int .i64 (wi (x13_l1 + 1)))]) (w' := w) (by kernel_rfl) ?_
        refine WR.nil ?_
        have hS : Sat w (rf w0) [] := hS.sel [] (by kernel_rfl)
        refine At.again ?_
        refine WL.weaken [1, 5, 11, 12, 13] (L' := [(1, .int .i64 a1), (5, .int .i64 (wi (x5_l1 + 1))), (11, .slice A12 y3.2.2.length c13), (12, .int .i64 (y3.2.2.length : Int)), (13, .int .i64 (wi (x13_l1 + 1)))]) (by kernel_rfl) ?_
        exact ih (wi (x5_l1 + 1)) (wi (x13_l1 + 1)) _ hS H
      · replace H := ite_f H hb18
        refine WC.skip (by kernel_rfl) ?_
        refine At.blockNormal ?_
        refine At.go ?_
        refine WC.reg [0, 1] (by kernel_rfl) (by kernel_rfl) ?_
        refine WR.runk [0, 1] [] [1, 5, 11, 12, 13] (L' := [(1, .int .i64 a1), (5, .int .i64 x5_l1), (11, .slice A12 y3.2.2.length c13), (12, .int .i64 (y3.2.2.length : Int)), (13, .int .i64 (wi (x13_l1 + 1)))]) (w' := w) (by kernel_rfl) ?_
        refine WR.nil ?_
        have hS : Sat w (rf w0) [] := hS.sel [] (by kernel_rfl)
        refine At.again ?_
        refine WL.weaken [1, 5, 11, 12, 13] (L' := [(1, .int .i64 a1), (5, .int .i64 x5_l1), (11, .slice A12 y3.2.2.length c13), (12, .int .i64 (y3.2.2.length : Int)), (13, .int .i64 (wi (x13_l1 + 1)))]) (by kernel_rfl) ?_
        exact ih x5_l1 (wi (x13_l1 + 1)) _ hS H
    · replace H := ite_f H hb15
      refine WC.exit (by kernel_rfl) ?_
      refine At.thenExit ?_
      refine At.thenExit ?_
      obtain rfl := Option.some.inj H
      have hS : Sat w (rf w0) [] := hS.sel [] (by kernel_rfl)
      refine At.weaken [5] (L' := [(5, .int .i64 x5_l1)]) (by kernel_rfl) ?_
      exact hn0 _ hS
theorem colophonref22_Gate_Live.calls (w0 : World) (v0 : Value) (p0 : Option (Int × (List (Int × Int)) × (List Int))) (R0 : rd (hp w0) (.ptr 42 (.pair (.int .i64) (.pair (.slice 27 (.pair (.int .i64) (.int .i64))) (.slice 3 (.int .i64))))) [v0] p0) (a1 : Int) (r : Int) (H : colophonref22_Gate_Live.f p0 a1 = some r) :
    Calls Try.prog 15 #[v0, .int .i64 a1] w0 (fun e w' => ∃ v, e = .returned v ∧ colophonref22_Gate_Live.post w0 r v w') := by
  have hS : Sat w0 (rf w0) [] := Sat.start w0
  unfold colophonref22_Gate_Live.f at H
  refine calls_of_WC (vs := [v0, .int .i64 a1]) Try.func15 (c := C15) (n := 24) (by kernel_rfl) (by kernel_rfl) (by kernel_rfl) ?_
  refine WC.seq (by kernel_rfl) ?_
  refine WC.reg [0] (by kernel_rfl) (by kernel_rfl) ?_
  refine WR.runk [0] [] [0, 1] (L' := [(0, v0), (1, .int .i64 a1)]) (w' := w0) (by kernel_rfl) ?_
  refine WR.nil ?_
  refine At.go ?_
  refine WC.seq (by kernel_rfl) ?_
  refine WC.reg [0] (by kernel_rfl) (by kernel_rfl) ?_
  refine WR.runk [0] [] [0, 1, 5] (L' := [(0, v0), (1, .int .i64 a1), (5, .int .i64 0)]) (w' := w0) (by kernel_rfl) ?_
  refine WR.nil ?_
  refine At.go ?_
  refine WC.seq (by kernel_rfl) ?_
  refine WC.seq (by kernel_rfl) ?_
  refine WC.reg [0, 1, 2, 3, 4, 5] (by kernel_rfl) (by kernel_rfl) ?_
  refine WR.runk [0] [1, 2, 3, 4, 5] [1, 5, 8] (L' := [(1, .int .i64 a1), (5, .int .i64 0), (8, v0)]) (w' := w0) (by kernel_rfl) ?_
  obtain ⟨y3, hr1, H⟩ := bind_ex H
  obtain ⟨b4, fr5, A9, c10, A12, c13, hv6, hb7, R11, R14⟩ := P42.open R0 hr1
  have R8 := R0
  rw [hv6, hr1] at R8
  try subst hv6
  replace R11 : rdS (r0 (.pair (.int .i64) (.int .i64))) 2 (hp w0) A9 c10 y3.2.1 := R11
  replace R14 : rdS (r0 (.int .i64)) 1 (hp w0) A12 c13 y3.2.2 := R14
  refine WR.runk [1, 2] [3, 4, 5] [1, 5, 10] (L' := [(1, .int .i64 a1), (5, .int .i64 0), (10, .pointer (some ⟨b4, 2, none⟩))]) (w' := w0) (by kernel_rfl) ?_
  refine WR.st (St.ofR (RSt.loadRo (t := 23) (k := 2) (v := .slice A12 y3.2.2.length c13) (.tmp 10) (by kernel_rfl) (by kernel_rfl) (by kernel_rfl) hS.sub0 hb7 (by kernel_rfl) rfl ?_))
  refine WR.runk [4, 5] [] [1, 5, 11, 12, 13] (L' := [(1, .int .i64 a1), (5, .int .i64 0), (11, .slice A12 y3.2.2.length c13), (12, .int .i64 (y3.2.2.length : Int)), (13, .int .i64 0)]) (w' := w0) (by kernel_rfl) ?_
  refine WR.nil ?_
  refine At.go ?_
  refine WC.block (by kernel_rfl) ?_
  have hS : Sat w0 (rf w0) [] := hS.sel [] (by kernel_rfl)
  obtain ⟨o19, e20, H⟩ := bind_ex H
  refine WC.loop (by kernel_rfl) ?_
  refine WL.weaken [1, 5, 11, 12, 13] (L' := [(1, .int .i64 a1), (5, .int .i64 0), (11, .slice A12 y3.2.2.length c13), (12, .int .i64 (y3.2.2.length : Int)), (13, .int .i64 0)]) (by kernel_rfl) ?_
  refine colophonref22_Gate_Live.l1_ok w0 a1 y3 A12 c13 R14 o19 (fun w22 hS => ?_) FU 0 0 _ hS e20
  refine At.hit ?_
  refine At.go ?_
  refine WC.seq (by kernel_rfl) ?_
  refine WC.reg [0, 1] (by kernel_rfl) (by kernel_rfl) ?_
  refine WR.runk [0, 1] [] [4] (L' := [(4, .int .i64 o19)]) (w' := w22) (by kernel_rfl) ?_
  refine WR.nil ?_
  refine At.go ?_
  refine WC.ret (by kernel_rfl) ?_
  obtain rfl := Option.some.inj H
  have hS : Sat w22 (rf w0) [] := hS.sel [] (by kernel_rfl)
  exact At.body [.int .i64 o19] (by kernel_rfl) ⟨_, rfl, rfl, hS⟩
/-! ### 13 (*colophon/colophonref22.Gate).Enter -/
def colophonref22_Gate_Enter.f (p0 : Int × (List (Int × Int)) × (List Int)) (a1 : Int) : Option (Int × (Int × (List (Int × Int)) × (List Int))) := (if decide (a1 < 0) then some (222, p0) else (if decide (a1 ≥ (p0.2.1.length : Int)) then some (222, p0) else ((at? p0.2.1 a1).bind fun v9 => ((colophonref22_Gate_Live.f (some (p0.1, p0.2.1, p0.2.2)) a1).bind fun r11 => (if (r11 == v9.2) then some (220, p0) else (if ((p0.2.2.length : Int) == p0.1) then some (221, p0) else ((app? 17592186044416 p0.2.2 ([a1] : List Int)).bind fun y27 => some (0, (p0.1, p0.2.1, y27)))))))))
def colophonref22_Gate_Enter.post (B : Rf) (b0 : Nat) (p0 : Int × (List (Int × Int)) × (List Int)) (w : World) (r : Int × (Int × (List (Int × Int)) × (List Int))) (v : Value) (w' : World) : Prop := v = (.int .i64 r.1 : Value) ∧ Sat w' B [O42 b0 r.2]
theorem colophonref22_Gate_Enter.calls (B : Rf) (w0 : World) (b0 : Nat) (p0 : Int × (List (Int × Int)) × (List Int)) (hS : Sat w0 B [O42 b0 p0]) (a1 : Int) (r : Int × (Int × (List (Int × Int)) × (List Int))) (H : colophonref22_Gate_Enter.f p0 a1 = some r) :
    Calls Try.prog 13 #[.pointer (some ⟨b0, 0, none⟩), .int .i64 a1] w0 (fun e w' => ∃ v, e = .returned v ∧ colophonref22_Gate_Enter.post B b0 p0 w0 r v w') := by
  unfold colophonref22_Gate_Enter.f at H
  refine calls_of_WC (vs := [.pointer (some ⟨b0, 0, none⟩), .int .i64 a1]) Try.func13 (c := C13) (n := 48) (by kernel_rfl) (by kernel_rfl) (by kernel_rfl) ?_
  refine WC.seq (by kernel_rfl) ?_
  refine WC.reg [0] (by kernel_rfl) (by kernel_rfl) ?_
  refine WR.runk [0] [] [0, 1] (L' := [(0, .pointer (some ⟨b0, 0, none⟩)), (1, .int .i64 a1)]) (w' := w0) (by kernel_rfl) ?_
  refine WR.nil ?_
  refine At.go ?_
  refine WC.seq (by kernel_rfl) ?_
  refine WC.seq (by kernel_rfl) ?_
  refine WC.reg [0, 1, 2, 3, 4, 5, 6, 7, 8, 9, 10] (by kernel_rfl) (by kernel_rfl) ?_
  refine WR.runk [0, 1, 2] [3, 4, 5, 6, 7, 8, 9, 10] [0, 1, 7] (L' := [(0, .pointer (some ⟨b0, 0, none⟩)), (1, .int .i64 a1), (7, .bool (decide (a1 < 0)))]) (w' := w0) (by kernel_rfl) ?_
  refine WR.split 7 (b := decide (a1 < 0)) (by kernel_rfl) (fun hb1 => ?_) (fun hb1 => ?_)
  · replace H := ite_t H hb1
    refine WR.runk [3, 4, 5, 6, 7, 8, 9, 10] [] [0, 1, 15] (L' := [(0, .pointer (some ⟨b0, 0, none⟩)), (1, .int .i64 a1), (15, .bool true)]) (w' := w0) (by kernel_rfl) ?_
    refine WR.nil ?_
    refine At.go ?_
    refine WC.condT (by kernel_rfl) (by kernel_rfl) (by kernel_rfl) ?_
    refine WC.seq (by kernel_rfl) ?_
    refine WC.reg [0] (by kernel_rfl) (by kernel_rfl) ?_
    refine WR.runk [0] [] [4] (L' := [(4, .int .i64 222)]) (w' := w0) (by kernel_rfl) ?_
    refine WR.nil ?_
    refine At.go ?_
    refine WC.ret (by kernel_rfl) ?_
    refine At.thenRet ?_
    obtain rfl := Option.some.inj H
    have hS : Sat w0 B [O42 b0 p0] := hS.sel [0] (by kernel_rfl)
    exact At.body [.int .i64 222] (by kernel_rfl) ⟨_, rfl, rfl, hS⟩
  · replace H := ite_f H hb1
    refine WR.runk [3, 4, 5, 6] [7, 8, 9, 10] [0, 1, 7, 8, 11] (L' := [(0, .pointer (some ⟨b0, 0, none⟩)), (1, .int .i64 a1), (7, .bool false), (8, .int .i64 a1), (11, .pointer (some ⟨b0, 1, none⟩))]) (w' := w0) (by kernel_rfl) ?_
    obtain ⟨A2, c3, A4, c5, hS⟩ := O42.open hS
    have hS : Sat w0 B [pts b0 (.cells #[.int .i64 p0.1, .slice A2 p0.2.1.length c3, .slice A4 p0.2.2.length c5] 42 (0, 0)), osl 27 (r0 (.pair (.int .i64) (.int .i64))) 2 A2 c3 p0.2.1, osl 3 (r0 (.int .i64)) 1 A4 c5 p0.2.2] := hS
    refine WR.st (St.ofR (RSt.loadObj (t := 25) (k := 1) (v := .slice A2 p0.2.1.length c3) (.tmp 11) (by kernel_rfl) (by kernel_rfl) (by kernel_rfl) 0 hS rfl (by kernel_rfl) rfl ?_))
    refine WR.runk [8, 9, 10] [] [0, 1, 15] (L' := [(0, .pointer (some ⟨b0, 0, none⟩)), (1, .int .i64 a1), (15, .bool (decide (a1 ≥ (p0.2.1.length : Int))))]) (w' := w0) (by kernel_rfl) ?_
    refine WR.nil ?_
    refine At.go ?_
    refine WC.cond (by kernel_rfl) (decide (a1 ≥ (p0.2.1.length : Int))) (by kernel_rfl) (by kernel_rfl) (fun hb6 => ?_) (fun hb6 => ?_)
    · replace H := ite_t H hb6
      refine WC.seq (by kernel_rfl) ?_
      refine WC.reg [0] (by kernel_rfl) (by kernel_rfl) ?_
      refine WR.runk [0] [] [4] (L' := [(4, .int .i64 222)]) (w' := w0) (by kernel_rfl) ?_
      refine WR.nil ?_
      refine At.go ?_
      refine WC.ret (by kernel_rfl) ?_
      refine At.thenRet ?_
      obtain rfl := Option.some.inj H
      have hS : Sat w0 B [pts b0 (.cells #[.int .i64 p0.1, .slice A2 p0.2.1.length c3, .slice A4 p0.2.2.length c5] 42 (0, 0)), osl 27 (r0 (.pair (.int .i64) (.int .i64))) 2 A2 c3 p0.2.1, osl 3 (r0 (.int .i64)) 1 A4 c5 p0.2.2] := hS.sel [0, 1, 2] (by kernel_rfl)
      have hS : Sat w0 B [O42 b0 p0] := O42.close p0 A2 c3 A4 c5 hS
      have hS : Sat w0 B [O42 b0 p0] := hS.sel [0] (by kernel_rfl)
      exact At.body [.int .i64 222] (by kernel_rfl) ⟨_, rfl, rfl, hS⟩
    · replace H := ite_f H hb6
      refine WC.skip (by kernel_rfl) ?_
      refine At.go ?_
      refine WC.seq (by kernel_rfl) ?_
      refine WC.seq (by kernel_rfl) ?_
      refine WC.drawn (by kernel_rfl) (by kernel_rfl) 12 (by kernel_rfl) (fun w7 hw8 => ?_)
      have hS := hS.heap hw8.1 hw8.2
      refine WD.weaken [0, 1] (L' := [(0, .pointer (some ⟨b0, 0, none⟩)), (1, .int .i64 a1)]) (by kernel_rfl) ?_
      refine WD.pure (i := 0) (v := .pointer (some ⟨b0, 0, none⟩)) (by kernel_rfl) (by kernel_rfl) (fun _ => by kernel_rfl) ?_
      refine WD.weaken [0, 1, 16] (L' := [(0, .pointer (some ⟨b0, 0, none⟩)), (1, .int .i64 a1), (16, .pointer (some ⟨b0, 0, none⟩))]) (by kernel_rfl) ?_
      refine WD.pure (i := 1) (v := .int .i64 a1) (by kernel_rfl) (by kernel_rfl) (fun _ => by kernel_rfl) ?_
      refine WD.weaken [0, 1, 16, 17] (L' := [(0, .pointer (some ⟨b0, 0, none⟩)), (1, .int .i64 a1), (16, .pointer (some ⟨b0, 0, none⟩)), (17, .int .i64 a1)]) (by kernel_rfl) ?_
      refine WD.pure (i := 3) (v := .pointer (some ⟨b0, 0, none⟩)) (by kernel_rfl) (by kernel_rfl) (fun _ => by kernel_rfl) ?_
      refine WD.weaken [0, 1, 16, 17, 19] (L' := [(0, .pointer (some ⟨b0, 0, none⟩)), (1, .int .i64 a1), (16, .pointer (some ⟨b0, 0, none⟩)), (17, .int .i64 a1), (19, .pointer (some ⟨b0, 0, none⟩))]) (by kernel_rfl) ?_
      refine WD.pure (i := 4) (v := .pointer (some ⟨b0, 0, none⟩)) (by kernel_rfl) (by kernel_rfl) (fun _ => by kernel_rfl) ?_
      refine WD.weaken [0, 1, 16, 17, 20] (L' := [(0, .pointer (some ⟨b0, 0, none⟩)), (1, .int .i64 a1), (16, .pointer (some ⟨b0, 0, none⟩)), (17, .int .i64 a1), (20, .pointer (some ⟨b0, 0, none⟩))]) (by kernel_rfl) ?_
      refine WD.pure (i := 5) (v := .pointer (some ⟨b0, 1, none⟩)) (by kernel_rfl) (by kernel_rfl) (fun _ => by kernel_rfl) ?_
      refine WD.weaken [0, 1, 16, 17, 21] (L' := [(0, .pointer (some ⟨b0, 0, none⟩)), (1, .int .i64 a1), (16, .pointer (some ⟨b0, 0, none⟩)), (17, .int .i64 a1), (21, .pointer (some ⟨b0, 1, none⟩))]) (by kernel_rfl) ?_
      refine WD.ofR (i := 6) (by kernel_rfl) (RSt.loadObj (t := 25) (k := 1) (v := .slice A2 p0.2.1.length c3) (.tmp 21) (by kernel_rfl) (by kernel_rfl) (by kernel_rfl) 0 hS rfl (by kernel_rfl) rfl ?_)
      refine WD.weaken [0, 1, 16, 17, 22] (L' := [(0, .pointer (some ⟨b0, 0, none⟩)), (1, .int .i64 a1), (16, .pointer (some ⟨b0, 0, none⟩)), (17, .int .i64 a1), (22, .slice A2 p0.2.1.length c3)]) (by kernel_rfl) ?_
      refine WD.pure (i := 7) (v := .int .i64 a1) (by kernel_rfl) (by kernel_rfl) (fun _ => by kernel_rfl) ?_
      refine WD.weaken [0, 1, 16, 17, 22, 23] (L' := [(0, .pointer (some ⟨b0, 0, none⟩)), (1, .int .i64 a1), (16, .pointer (some ⟨b0, 0, none⟩)), (17, .int .i64 a1), (22, .slice A2 p0.2.1.length c3), (23, .int .i64 a1)]) (by kernel_rfl) ?_
      obtain ⟨v9, e10, H⟩ := bind_ex H
      refine WD.ofP (i := 8) (by kernel_rfl) (PSt.idx (k := .i64) (.tmp 22) (.tmp 23) (by kernel_rfl) (by kernel_rfl) E25 (by kernel_rfl) (by kernel_rfl) (Sat.rdAt 1 hS rfl) e10 ?_)
      refine WD.weaken [0, 1, 16, 17, 24] (L' := [(0, .pointer (some ⟨b0, 0, none⟩)), (1, .int .i64 a1), (16, .pointer (some ⟨b0, 0, none⟩)), (17, .int .i64 a1), (24, .pointer (some (adr A2 a1.toNat 2)))]) (by kernel_rfl) ?_
      refine WD.pure (i := 9) (v := .pointer (some ((adr A2 a1.toNat 2).add 1))) (by kernel_rfl) (by kernel_rfl) (fun _ => by kernel_rfl) ?_
      refine WD.weaken [0, 1, 16, 17, 25] (L' := [(0, .pointer (some ⟨b0, 0, none⟩)), (1, .int .i64 a1), (16, .pointer (some ⟨b0, 0, none⟩)), (17, .int .i64 a1), (25, .pointer (some ((adr A2 a1.toNat 2).add 1)))]) (by kernel_rfl) ?_
      refine WD.ofR (i := 10) (by kernel_rfl) (RSt.loadPart (t := 3) (κ := (.pair (.int .i64) (.int .i64))) (.tmp 25) 1 (by kernel_rfl) (by kernel_rfl) (by kernel_rfl) (by kernel_rfl) (by kernel_rfl) (Sat.rdAt 1 hS rfl) e10 (u := .int .i64 v9.2) (by kernel_rfl) ?_)
      refine WD.weaken [0, 1, 16, 17, 26] (L' := [(0, .pointer (some ⟨b0, 0, none⟩)), (1, .int .i64 a1), (16, .pointer (some ⟨b0, 0, none⟩)), (17, .int .i64 a1), (26, .int .i64 v9.2)]) (by kernel_rfl) ?_
      obtain ⟨r11, e12, H⟩ := bind_ex H
      refine WD.act (i := 2) (by kernel_rfl) (St.call (by kernel_rfl) (f := 15) (args := #[.pointer (some ⟨b0, 0, none⟩), .int .i64 a1]) (by kernel_rfl) (colophonref22_Gate_Live.calls w7 (.pointer (some ⟨b0, 0, none⟩)) (some (p0.1, p0.2.1, p0.2.2)) (P42.mk (y := (p0.1, p0.2.1, p0.2.2)) (Sat.blockAt 0 hS rfl) (Sat.rdAt 1 hS rfl) (Sat.rdAt 2 hS rfl)) a1 r11 e12) ?_)
      rintro _ w18 ⟨rfl, hS19⟩
      have hS : Sat w18 B [pts b0 (.cells #[.int .i64 p0.1, .slice A2 p0.2.1.length c3, .slice A4 p0.2.2.length c5] 42 (0, 0)), osl 27 (r0 (.pair (.int .i64) (.int .i64))) 2 A2 c3 p0.2.1, osl 3 (r0 (.int .i64)) 1 A4 c5 p0.2.2] := hS.ext hS19
      refine ⟨(asked.cons (RSt.run (n := 48) (RSt.loadPart (t := 3) (κ := (.pair (.int .i64) (.int .i64))) (.tmp 25) 1 (by kernel_rfl) (by kernel_rfl) (by kernel_rfl) (by kernel_rfl) (by kernel_rfl) (Sat.rdAt 1 hS rfl) e10 (u := .int .i64 v9.2) (by kernel_rfl) rfl)) (asked.cons (RSt.run (n := 48) (RSt.loadObj (t := 25) (k := 1) (v := .slice A2 p0.2.1.length c3) (.tmp 21) (by kernel_rfl) (by kernel_rfl) (by kernel_rfl) 0 hS rfl (by kernel_rfl) rfl rfl)) (asked.nil _ _))), ?_⟩
      refine WD.weaken [0, 1, 18, 26] (L' := [(0, .pointer (some ⟨b0, 0, none⟩)), (1, .int .i64 a1), (18, .int .i64 r11), (26, .int .i64 v9.2)]) (by kernel_rfl) ?_
      refine WD.pure (i := 11) (v := .bool (r11 == v9.2)) (by kernel_rfl) (by kernel_rfl) (fun _ => by kernel_rfl) ?_
      refine WD.weaken [0, 1, 27] (L' := [(0, .pointer (some ⟨b0, 0, none⟩)), (1, .int .i64 a1), (27, .bool (r11 == v9.2))]) (by kernel_rfl) ?_
      refine WD.nil (by kernel_rfl) ?_
      refine At.go ?_
      refine WC.cond (by kernel_rfl) (r11 == v9.2) (by kernel_rfl) (by kernel_rfl) (fun hb20 => ?_) (fun hb20 => ?_)
      · replace H := ite_t H hb20
        refine WC.seq (by kernel_rfl) ?_
        refine WC.reg [0] (by kernel_rfl) (by kernel_rfl) ?_
        refine WR.runk [0] [] [4] (L' := [(4, .int .i64 220)]) (w' := w18) (by kernel_rfl) ?_
        refine WR.nil ?_
        refine At.go ?_
        refine WC.ret (by kernel_rfl) ?_
        refine At.thenRet ?_
        obtain rfl := Option.some.inj H
        have hS : Sat w18 B [pts b0 (.cells #[.int .i64 p0.1, .slice A2 p0.2.1.length c3, .slice A4 p0.2.2.length c5] 42 (0, 0)), osl 27 (r0 (.pair (.int .i64) (.int .i64))) 2 A2 c3 p0.2.1, osl 3 (r0 (.int .i64)) 1 A4 c5 p0.2.2] := hS.sel [0, 1, 2] (by kernel_rfl)
        have hS : Sat w18 B [O42 b0 p0] := O42.close p0 A2 c3 A4 c5 hS
        have hS : Sat w18 B [O42 b0 p0] := hS.sel [0] (by kernel_rfl)
        exact At.body [.int .i64 220] (by kernel_rfl) ⟨_, rfl, rfl, hS⟩
      · replace H := ite_f H hb20
        refine WC.skip (by kernel_rfl) ?_
        refine At.go ?_
        refine WC.seq (by kernel_rfl) ?_
        refine WC.seq (by kernel_rfl) ?_
        refine WC.drawn (by kernel_rfl) (by kernel_rfl) 10 (by kernel_rfl) (fun w21 hw22 => ?_)
        have hS := hS.heap hw22.1 hw22.2
        refine WD.weaken [0, 1] (L' := [(0, .pointer (some ⟨b0, 0, none⟩)), (1, .int .i64 a1)]) (by kernel_rfl) ?_
        refine WD.pure (i := 0) (v := .pointer (some ⟨b0, 0, none⟩)) (by kernel_rfl) (by kernel_rfl) (fun _ => by kernel_rfl) ?_
        refine WD.weaken [0, 1, 28] (L' := [(0, .pointer (some ⟨b0, 0, none⟩)), (1, .int .i64 a1), (28, .pointer (some ⟨b0, 0, none⟩))]) (by kernel_rfl) ?_
        refine WD.pure (i := 1) (v := .pointer (some ⟨b0, 0, none⟩)) (by kernel_rfl) (by kernel_rfl) (fun _ => by kernel_rfl) ?_
        refine WD.weaken [0, 1, 29] (L' := [(0, .pointer (some ⟨b0, 0, none⟩)), (1, .int .i64 a1), (29, .pointer (some ⟨b0, 0, none⟩))]) (by kernel_rfl) ?_
        refine WD.pure (i := 2) (v := .pointer (some ⟨b0, 2, none⟩)) (by kernel_rfl) (by kernel_rfl) (fun _ => by kernel_rfl) ?_
        refine WD.weaken [0, 1, 30] (L' := [(0, .pointer (some ⟨b0, 0, none⟩)), (1, .int .i64 a1), (30, .pointer (some ⟨b0, 2, none⟩))]) (by kernel_rfl) ?_
        refine WD.ofR (i := 3) (by kernel_rfl) (RSt.loadObj (t := 23) (k := 2) (v := .slice A4 p0.2.2.length c5) (.tmp 30) (by kernel_rfl) (by kernel_rfl) (by kernel_rfl) 0 hS rfl (by kernel_rfl) rfl ?_)
        refine WD.weaken [0, 1, 31] (L' := [(0, .pointer (some ⟨b0, 0, none⟩)), (1, .int .i64 a1), (31, .slice A4 p0.2.2.length c5)]) (by kernel_rfl) ?_
        refine WD.pure (i := 4) (v := .int .i64 (p0.2.2.length : Int)) (by kernel_rfl) (by kernel_rfl) (fun _ => by kernel_rfl) ?_
        refine WD.weaken [0, 1, 32] (L' := [(0, .pointer (some ⟨b0, 0, none⟩)), (1, .int .i64 a1), (32, .int .i64 (p0.2.2.length : Int))]) (by kernel_rfl) ?_
        refine WD.pure (i := 5) (v := .pointer (some ⟨b0, 0, none⟩)) (by kernel_rfl) (by kernel_rfl) (fun _ => by kernel_rfl) ?_
        refine WD.weaken [0, 1, 32, 33] (L' := [(0, .pointer (some ⟨b0, 0, none⟩)), (1, .int .i64 a1), (32, .int .i64 (p0.2.2.length : Int)), (33, .pointer (some ⟨b0, 0, none⟩))]) (by kernel_rfl) ?_
        refine WD.pure (i := 6) (v := .pointer (some ⟨b0, 0, none⟩)) (by kernel_rfl) (by kernel_rfl) (fun _ => by kernel_rfl) ?_
        refine WD.weaken [0, 1, 32, 34] (L' := [(0, .pointer (some ⟨b0, 0, none⟩)), (1, .int .i64 a1), (32, .int .i64 (p0.2.2.length : Int)), (34, .pointer (some ⟨b0, 0, none⟩))]) (by kernel_rfl) ?_
        refine WD.pure (i := 7) (v := .pointer (some ⟨b0, 0, none⟩)) (by kernel_rfl) (by kernel_rfl) (fun _ => by kernel_rfl) ?_
        refine WD.weaken [0, 1, 32, 35] (L' := [(0, .pointer (some ⟨b0, 0, none⟩)), (1, .int .i64 a1), (32, .int .i64 (p0.2.2.length : Int)), (35, .pointer (some ⟨b0, 0, none⟩))]) (by kernel_rfl) ?_
        refine WD.ofR (i := 8) (by kernel_rfl) (RSt.loadObj (t := 3) (k := 0) (v := .int .i64 p0.1) (.tmp 35) (by kernel_rfl) (by kernel_rfl) (by kernel_rfl) 0 hS rfl (by kernel_rfl) rfl ?_)
        refine WD.weaken [0, 1, 32, 36] (L' := [(0, .pointer (some ⟨b0, 0, none⟩)), (1, .int .i64 a1), (32, .int .i64 (p0.2.2.length : Int)), (36, .int .i64 p0.1)]) (by kernel_rfl) ?_
        refine WD.pure (i := 9) (v := .bool ((p0.2.2.length : Int) == p0.1)) (by kernel_rfl) (by kernel_rfl) (fun _ => by kernel_rfl) ?_
        refine WD.weaken [0, 1, 37] (L' := [(0, .pointer (some ⟨b0, 0, none⟩)), (1, .int .i64 a1), (37, .bool ((p0.2.2.length : Int) == p0.1))]) (by kernel_rfl) ?_
        refine WD.nil (by kernel_rfl) ?_
        refine At.go ?_
        refine WC.cond (by kernel_rfl) ((p0.2.2.length : Int) == p0.1) (by kernel_rfl) (by kernel_rfl) (fun hb23 => ?_) (fun hb23 => ?_)
        · replace H := ite_t H hb23
          refine WC.seq (by kernel_rfl) ?_
          refine WC.reg [0] (by kernel_rfl) (by kernel_rfl) ?_
          refine WR.runk [0] [] [4] (L' := [(4, .int .i64 221)]) (w' := w21) (by kernel_rfl) ?_
          refine WR.nil ?_
          refine At.go ?_
          refine WC.ret (by kernel_rfl) ?_
          refine At.thenRet ?_
          obtain rfl := Option.some.inj H
          have hS : Sat w21 B [pts b0 (.cells #[.int .i64 p0.1, .slice A2 p0.2.1.length c3, .slice A4 p0.2.2.length c5] 42 (0, 0)), osl 27 (r0 (.pair (.int .i64) (.int .i64))) 2 A2 c3 p0.2.1, osl 3 (r0 (.int .i64)) 1 A4 c5 p0.2.2] := hS.sel [0, 1, 2] (by kernel_rfl)
          have hS : Sat w21 B [O42 b0 p0] := O42.close p0 A2 c3 A4 c5 hS
          have hS : Sat w21 B [O42 b0 p0] := hS.sel [0] (by kernel_rfl)
          exact At.body [.int .i64 221] (by kernel_rfl) ⟨_, rfl, rfl, hS⟩
        · replace H := ite_f H hb23
          refine WC.skip (by kernel_rfl) ?_
          refine At.go ?_
          refine WC.seq (by kernel_rfl) ?_
          refine WC.reg [0, 1, 2, 3, 4, 5, 6, 7, 8, 9, 10] (by kernel_rfl) (by kernel_rfl) ?_
          refine WR.runk [0, 1, 2, 3] [4, 5, 6, 7, 8, 9, 10] [1, 38, 41] (L' := [(1, .int .i64 a1), (38, .pointer (some ⟨b0, 0, none⟩)), (41, .pointer (some ⟨b0, 2, none⟩))]) (w' := w21) (by kernel_rfl) ?_
          refine WR.st (St.ofR (RSt.loadObj (t := 23) (k := 2) (v := .slice A4 p0.2.2.length c5) (.tmp 41) (by kernel_rfl) (by kernel_rfl) (by kernel_rfl) 0 hS rfl (by kernel_rfl) rfl ?_))
          refine WR.runk [5] [6, 7, 8, 9, 10] [38, 42, 43] (L' := [(38, .pointer (some ⟨b0, 0, none⟩)), (42, .slice A4 p0.2.2.length c5), (43, .int .i64 a1)]) (w' := w21) (by kernel_rfl) ?_
          refine WR.st (St.box hS (by kernel_rfl) (.cells #[.int .i64 a1] 3) (fun b24 => .slice (some ⟨b24, 0, none⟩) 1 1) (fun _ => by kernel_rfl) (fun b24 w25 hS => ?_))
          refine WR.runk [] [7, 8, 9, 10] [38, 42, 44] (L' := [(38, .pointer (some ⟨b0, 0, none⟩)), (42, .slice A4 p0.2.2.length c5), (44, .slice (some ⟨b24, 0, none⟩) 1 1)]) (w' := w25) (by kernel_rfl) ?_
          have hS : Sat w25 B [osl 3 (r0 (.int .i64)) 1 A4 c5 p0.2.2, pts b24 (.cells #[.int .i64 a1] 3 (0, 0)), pts b0 (.cells #[.int .i64 p0.1, .slice A2 p0.2.1.length c3, .slice A4 p0.2.2.length c5] 42 (0, 0)), osl 27 (r0 (.pair (.int .i64) (.int .i64))) 2 A2 c3 p0.2.1] := hS.sel [3, 0, 1, 2] (by kernel_rfl)
          obtain ⟨y27, e26, H⟩ := bind_ex H
          refine WR.st (St.append' (.tmp 42) (.tmp 44) (by kernel_rfl) (by kernel_rfl) E23 (r0_one _) hS (by kernel_rfl) (by kernel_rfl) (Sat.ptsAt 1 (r0 (.int .i64)) 1 ([a1] : List Int) hS rfl rfl (rdL.cons1 rfl (rdL.nil _ _))) 17592186044416 (by kernel_rfl) (by kernel_rfl) e26 (fun A28 c29 w30 hS => ?_))
          refine WR.runk [8, 9] [10] [45, 47] (L' := [(45, .slice A28 y27.length c29), (47, .pointer (some ⟨b0, 2, none⟩))]) (w' := w30) (by kernel_rfl) ?_
          have hS : Sat w30 B [pts b0 (.cells #[.int .i64 p0.1, .slice A2 p0.2.1.length c3, .slice A4 p0.2.2.length c5] 42 (0, 0)), osl 3 (r0 (.int .i64)) 1 A28 c29 y27, pts b24 (.cells #[.int .i64 a1] 3 (0, 0)), osl 27 (r0 (.pair (.int .i64) (.int .i64))) 2 A2 c3 p0.2.1] := hS.sel [2, 0, 1, 3] (by kernel_rfl)
          refine WR.st (St.storeObj (t := 23) (k := 2) (cur' := #[.int .i64 p0.1, .slice A2 p0.2.1.length c3, .slice A28 y27.length c29]) (.tmp 47) (.tmp 45) (by kernel_rfl) (by kernel_rfl) (by kernel_rfl) hS (by kernel_rfl) (by kernel_rfl) (by kernel_rfl) rfl rfl (fun w31 hS => ?_))
          refine WR.runk [] [] [] (L' := []) (w' := w31) (by kernel_rfl) ?_
          refine WR.nil ?_
          refine At.go ?_
          refine WC.seq (by kernel_rfl) ?_
          refine WC.reg [0] (by kernel_rfl) (by kernel_rfl) ?_
          refine WR.runk [0] [] [4] (L' := [(4, .int .i64 0)]) (w' := w31) (by kernel_rfl) ?_
          refine WR.nil ?_
          refine At.go ?_
          refine WC.ret (by kernel_rfl) ?_
          obtain rfl := Option.some.inj H
          have hS : Sat w31 B [pts b0 (.cells #[.int .i64 p0.1, .slice A2 p0.2.1.length c3, .slice A28 y27.length c29] 42 (0, 0)), osl 27 (r0 (.pair (.int .i64) (.int .i64))) 2 A2 c3 p0.2.1, osl 3 (r0 (.int .i64)) 1 A28 c29 y27, pts b24 (.cells #[.int .i64 a1] 3 (0, 0))] := hS.sel [0, 3, 1, 2] (by kernel_rfl)
          have hS : Sat w31 B [O42 b0 (p0.1, p0.2.1, y27), pts b24 (.cells #[.int .i64 a1] 3 (0, 0))] := O42.close (p0.1, p0.2.1, y27) A2 c3 A28 c29 hS
          have hS : Sat w31 B [O42 b0 (p0.1, p0.2.1, y27)] := hS.sel [0] (by kernel_rfl)
          exact At.body [.int .i64 0] (by kernel_rfl) ⟨_, rfl, rfl, hS⟩
/-! ### 13 (*colophon/colophonref22.Gate).Enter -/
def colophonref22_Gate_Enter_r0_1.f (p0 : Int × (List (Int × Int)) × (List Int)) (a1 : Int) : Option (Int × (Int × (List (Int × Int)) × (List Int))) := (if decide (a1 < 0) then some (222, p0) else (if decide (a1 ≥ (p0.2.1.length : Int)) then some (222, p0) else ((at? p0.2.1 a1).bind fun v11 => ((colophonref22_Gate_Live.f (some (p0.1, p0.2.1, p0.2.2)) a1).bind fun r13 => (if (r13 == v11.2) then some (220, p0) else (if ((p0.2.2.length : Int) == p0.1) then some (221, p0) else ((app? 17592186044416 p0.2.2 ([a1] : List Int)).bind fun y29 => some (0, (p0.1, p0.2.1, y29)))))))))
def colophonref22_Gate_Enter_r0_1.post (B : Rf) (b0 : Nat) (p0 : Int × (List (Int × Int)) × (List Int)) (G0 : Heap) (w : World) (r : Int × (Int × (List (Int × Int)) × (List Int))) (v : Value) (w' : World) : Prop := v = (.int .i64 r.1 : Value) ∧ Sat w' B [O42r1 G0 b0 r.2]
theorem colophonref22_Gate_Enter_r0_1.calls (B : Rf) (w0 : World) (b0 : Nat) (p0 : Int × (List (Int × Int)) × (List Int)) (G0 : Heap) (hG0 : Sub G0 B.heap) (hS : Sat w0 B [O42r1 G0 b0 p0]) (a1 : Int) (r : Int × (Int × (List (Int × Int)) × (List Int))) (H : colophonref22_Gate_Enter_r0_1.f p0 a1 = some r) :
    Calls Try.prog 13 #[.pointer (some ⟨b0, 0, none⟩), .int .i64 a1] w0 (fun e w' => ∃ v, e = .returned v ∧ colophonref22_Gate_Enter_r0_1.post B b0 p0 G0 w0 r v w') := by
  unfold colophonref22_Gate_Enter_r0_1.f at H
  refine calls_of_WC (vs := [.pointer (some ⟨b0, 0, none⟩), .int .i64 a1]) Try.func13 (c := C13) (n := 48) (by kernel_rfl) (by kernel_rfl) (by kernel_rfl) ?_
  refine WC.seq (by kernel_rfl) ?_
  refine WC.reg [0] (by kernel_rfl) (by kernel_rfl) ?_
  refine WR.runk [0] [] [0, 1] (L' := [(0, .pointer (some ⟨b0, 0, none⟩)), (1, .int .i64 a1)]) (w' := w0) (by kernel_rfl) ?_
  refine WR.nil ?_
  refine At.go ?_
  refine WC.seq (by kernel_rfl) ?_
  refine WC.seq (by kernel_rfl) ?_
  refine WC.reg [0, 1, 2, 3, 4, 5, 6, 7, 8, 9, 10] (by kernel_rfl) (by kernel_rfl) ?_
  refine WR.runk [0, 1, 2] [3, 4, 5, 6, 7, 8, 9, 10] [0, 1, 7] (L' := [(0, .pointer (some ⟨b0, 0, none⟩)), (1, .int .i64 a1), (7, .bool (decide (a1 < 0)))]) (w' := w0) (by kernel_rfl) ?_
  refine WR.split 7 (b := decide (a1 < 0)) (by kernel_rfl) (fun hb1 => ?_) (fun hb1 => ?_)
  · replace H := ite_t H hb1
    refine WR.runk [3, 4, 5, 6, 7, 8, 9, 10] [] [0, 1, 15] (L' := [(0, .pointer (some ⟨b0, 0, none⟩)), (1, .int .i64 a1), (15, .bool true)]) (w' := w0) (by kernel_rfl) ?_
    refine WR.nil ?_
    refine At.go ?_
    refine WC.condT (by kernel_rfl) (by kernel_rfl) (by kernel_rfl) ?_
    refine WC.seq (by kernel_rfl) ?_
    refine WC.reg [0] (by kernel_rfl) (by kernel_rfl) ?_
    refine WR.runk [0] [] [4] (L' := [(4, .int .i64 222)]) (w' := w0) (by kernel_rfl) ?_
    refine WR.nil ?_
    refine At.go ?_
    refine WC.ret (by kernel_rfl) ?_
    refine At.thenRet ?_
    obtain rfl := Option.some.inj H
    have hS : Sat w0 B [O42r1 G0 b0 p0] := hS.sel [0] (by kernel_rfl)
    exact At.body [.int .i64 222] (by kernel_rfl) ⟨_, rfl, rfl, hS⟩
  · replace H := ite_f H hb1
    refine WR.runk [3, 4, 5, 6] [7, 8, 9, 10] [0, 1, 7, 8, 11] (L' := [(0, .pointer (some ⟨b0, 0, none⟩)), (1, .int .i64 a1), (7, .bool false), (8, .int .i64 a1), (11, .pointer (some ⟨b0, 1, none⟩))]) (w' := w0) (by kernel_rfl) ?_
    obtain ⟨A2, c3, A6, c7, R4, hS⟩ := O42r1.open hS
    replace R4 : rdS (r0 (.pair (.int .i64) (.int .i64))) 2 G0 A2 c3 p0.2.1 := R4
    have R5 : rdS (r0 (.pair (.int .i64) (.int .i64))) 2 B.heap A2 c3 p0.2.1 := rdS.up R4 hG0
    have hS : Sat w0 B [pts b0 (.cells #[.int .i64 p0.1, .slice A2 p0.2.1.length c3, .slice A6 p0.2.2.length c7] 42 (0, 0)), osl 3 (r0 (.int .i64)) 1 A6 c7 p0.2.2] := hS
    refine WR.st (St.ofR (RSt.loadObj (t := 25) (k := 1) (v := .slice A2 p0.2.1.length c3) (.tmp 11) (by kernel_rfl) (by kernel_rfl) (by kernel_rfl) 0 hS rfl (by kernel_rfl) rfl ?_))
    refine WR.runk [8, 9, 10] [] [0, 1, 15] (L' := [(0, .pointer (some ⟨b0, 0, none⟩)), (1, .int .i64 a1), (15, .bool (decide (a1 ≥ (p0.2.1.length : Int))))]) (w' := w0) (by kernel_rfl) ?_
    refine WR.nil ?_
    refine At.go ?_
    refine WC.cond (by kernel_rfl) (decide (a1 ≥ (p0.2.1.length : Int))) (by kernel_rfl) (by kernel_rfl) (fun hb8 => ?_) (fun hb8 => ?_)
    · replace H := ite_t H hb8
      refine WC.seq (by kernel_rfl) ?_
      refine WC.reg [0] (by kernel_rfl) (by kernel_rfl) ?_
      refine WR.runk [0] [] [4] (L' := [(4, .int .i64 222)]) (w' := w0) (by kernel_rfl) ?_
      refine WR.nil ?_
      refine At.go ?_
      refine WC.ret (by kernel_rfl) ?_
      refine At.thenRet ?_
      obtain rfl := Option.some.inj H
      have hS : Sat w0 B [pts b0 (.cells #[.int .i64 p0.1, .slice A2 p0.2.1.length c3, .slice A6 p0.2.2.length c7] 42 (0, 0)), osl 3 (r0 (.int .i64)) 1 A6 c7 p0.2.2] := hS.sel [0, 1] (by kernel_rfl)
      have hS : Sat w0 B [O42r1 G0 b0 p0] := O42r1.close G0 p0 A2 c3 A6 c7 R4 hS
      have hS : Sat w0 B [O42r1 G0 b0 p0] := hS.sel [0] (by kernel_rfl)
      exact At.body [.int .i64 222] (by kernel_rfl) ⟨_, rfl, rfl, hS⟩
    · replace H := ite_f H hb8
      refine WC.skip (by kernel_rfl) ?_
      refine At.go ?_
      refine WC.seq (by kernel_rfl) ?_
      refine WC.seq (by kernel_rfl) ?_
      refine WC.drawn (by kernel_rfl) (by kernel_rfl) 12 (by kernel_rfl) (fun w9 hw10 => ?_)
      have hS := hS.heap hw10.1 hw10.2
      refine WD.weaken [0, 1] (L' := [(0, .pointer (some ⟨b0, 0, none⟩)), (1, .int .i64 a1)]) (by kernel_rfl) ?_
      refine WD.pure (i := 0) (v := .pointer (some ⟨b0, 0, none⟩)) (by kernel_rfl) (by kernel_rfl) (fun _ => by kernel_rfl) ?_
      refine WD.weaken [0, 1, 16] (L' := [(0, .pointer (some ⟨b0, 0, none⟩)), (1, .int .i64 a1), (16, .pointer (some ⟨b0, 0, none⟩))]) (by kernel_rfl) ?_
      refine WD.pure (i := 1) (v := .int .i64 a1) (by kernel_rfl) (by kernel_rfl) (fun _ => by kernel_rfl) ?_
      refine WD.weaken [0, 1, 16, 17] (L' := [(0, .pointer (some ⟨b0, 0, none⟩)), (1, .int .i64 a1), (16, .pointer (some ⟨b0, 0, none⟩)), (17, .int .i64 a1)]) (by kernel_rfl) ?_
      refine WD.pure (i := 3) (v := .pointer (some ⟨b0, 0, none⟩)) (by kernel_rfl) (by kernel_rfl) (fun _ => by kernel_rfl) ?_
      refine WD.weaken [0, 1, 16, 17, 19] (L' := [(0, .pointer (some ⟨b0, 0, none⟩)), (1, .int .i64 a1), (16, .pointer (some ⟨b0, 0, none⟩)), (17, .int .i64 a1), (19, .pointer (some ⟨b0, 0, none⟩))]) (by kernel_rfl) ?_
      refine WD.pure (i := 4) (v := .pointer (some ⟨b0, 0, none⟩)) (by kernel_rfl) (by kernel_rfl) (fun _ => by kernel_rfl) ?_
      refine WD.weaken [0, 1, 16, 17, 20] (L' := [(0, .pointer (some ⟨b0, 0, none⟩)), (1, .int .i64 a1), (16, .pointer (some ⟨b0, 0, none⟩)), (17, .int .i64 a1), (20, .pointer (some ⟨b0, 0, none⟩))]) (by kernel_rfl) ?_
      refine WD.pure (i := 5) (v := .pointer (some ⟨b0, 1, none⟩)) (by kernel_rfl) (by kernel_rfl) (fun _ => by kernel_rfl) ?_
      refine WD.weaken [0, 1, 16, 17, 21] (L' := [(0, .pointer (some ⟨b0, 0, none⟩)), (1, .int .i64 a1), (16, .pointer (some ⟨b0, 0, none⟩)), (17, .int .i64 a1), (21, .pointer (some ⟨b0, 1, none⟩))]) (by kernel_rfl) ?_
      refine WD.ofR (i := 6) (by kernel_rfl) (RSt.loadObj (t := 25) (k := 1) (v := .slice A2 p0.2.1.length c3) (.tmp 21) (by kernel_rfl) (by kernel_rfl) (by kernel_rfl) 0 hS rfl (by kernel_rfl) rfl ?_)
      refine WD.weaken [0, 1, 16, 17, 22] (L' := [(0, .pointer (some ⟨b0, 0, none⟩)), (1, .int .i64 a1), (16, .pointer (some ⟨b0, 0, none⟩)), (17, .int .i64 a1), (22, .slice A2 p0.2.1.length c3)]) (by kernel_rfl) ?_
      refine WD.pure (i := 7) (v := .int .i64 a1) (by kernel_rfl) (by kernel_rfl) (fun _ => by kernel_rfl) ?_
      refine WD.weaken [0, 1, 16, 17, 22, 23] (L' := [(0, .pointer (some ⟨b0, 0, none⟩)), (1, .int .i64 a1), (16, .pointer (some ⟨b0, 0, none⟩)), (17, .int .i64 a1), (22, .slice A2 p0.2.1.length c3), (23, .int .i64 a1)]) (by kernel_rfl) ?_
      obtain ⟨v11, e12, H⟩ := bind_ex H
      refine WD.ofP (i := 8) (by kernel_rfl) (PSt.idx (k := .i64) (.tmp 22) (.tmp 23) (by kernel_rfl) (by kernel_rfl) E25 (by kernel_rfl) (by kernel_rfl) (rdS.up R5 hS.sub0) e12 ?_)
      refine WD.weaken [0, 1, 16, 17, 24] (L' := [(0, .pointer (some ⟨b0, 0, none⟩)), (1, .int .i64 a1), (16, .pointer (some ⟨b0, 0, none⟩)), (17, .int .i64 a1), (24, .pointer (some (adr A2 a1.toNat 2)))]) (by kernel_rfl) ?_
      refine WD.pure (i := 9) (v := .pointer (some ((adr A2 a1.toNat 2).add 1))) (by kernel_rfl) (by kernel_rfl) (fun _ => by kernel_rfl) ?_
      refine WD.weaken [0, 1, 16, 17, 25] (L' := [(0, .pointer (some ⟨b0, 0, none⟩)), (1, .int .i64 a1), (16, .pointer (some ⟨b0, 0, none⟩)), (17, .int .i64 a1), (25, .pointer (some ((adr A2 a1.toNat 2).add 1)))]) (by kernel_rfl) ?_
      refine WD.ofR (i := 10) (by kernel_rfl) (RSt.loadPart (t := 3) (κ := (.pair (.int .i64) (.int .i64))) (.tmp 25) 1 (by kernel_rfl) (by kernel_rfl) (by kernel_rfl) (by kernel_rfl) (by kernel_rfl) (rdS.up R5 hS.sub0) e12 (u := .int .i64 v11.2) (by kernel_rfl) ?_)
      refine WD.weaken [0, 1, 16, 17, 26] (L' := [(0, .pointer (some ⟨b0, 0, none⟩)), (1, .int .i64 a1), (16, .pointer (some ⟨b0, 0, none⟩)), (17, .int .i64 a1), (26, .int .i64 v11.2)]) (by kernel_rfl) ?_
      obtain ⟨r13, e14, H⟩ := bind_ex H
      refine WD.act (i := 2) (by kernel_rfl) (St.call (by kernel_rfl) (f := 15) (args := #[.pointer (some ⟨b0, 0, none⟩), .int .i64 a1]) (by kernel_rfl) (colophonref22_Gate_Live.calls w9 (.pointer (some ⟨b0, 0, none⟩)) (some (p0.1, p0.2.1, p0.2.2)) (P42.mk (y := (p0.1, p0.2.1, p0.2.2)) (Sat.blockAt 0 hS rfl) (rdS.up R5 hS.sub0) (Sat.rdAt 1 hS rfl)) a1 r13 e14) ?_)
      rintro _ w20 ⟨rfl, hS21⟩
      have hS : Sat w20 B [pts b0 (.cells #[.int .i64 p0.1, .slice A2 p0.2.1.length c3, .slice A6 p0.2.2.length c7] 42 (0, 0)), osl 3 (r0 (.int .i64)) 1 A6 c7 p0.2.2] := hS.ext hS21
      refine ⟨(asked.cons (RSt.run (n := 48) (RSt.loadPart (t := 3) (κ := (.pair (.int .i64) (.int .i64))) (.tmp 25) 1 (by kernel_rfl) (by kernel_rfl) (by kernel_rfl) (by kernel_rfl) (by kernel_rfl) (rdS.up R5 hS.sub0) e12 (u := .int .i64 v11.2) (by kernel_rfl) rfl)) (asked.cons (RSt.run (n := 48) (RSt.loadObj (t := 25) (k := 1) (v := .slice A2 p0.2.1.length c3) (.tmp 21) (by kernel_rfl) (by kernel_rfl) (by kernel_rfl) 0 hS rfl (by kernel_rfl) rfl rfl)) (asked.nil _ _))), ?_⟩
      refine WD.weaken [0, 1, 18, 26] (L' := [(0, .pointer (some ⟨b0, 0, none⟩)), (1, .int .i64 a1), (18, .int .i64 r13), (26, .int .i64 v11.2)]) (by kernel_rfl) ?_
      refine WD.pure (i := 11) (v := .bool (r13 == v11.2)) (by kernel_rfl) (by kernel_rfl) (fun _ => by kernel_rfl) ?_
      refine WD.weaken [0, 1, 27] (L' := [(0, .pointer (some ⟨b0, 0, none⟩)), (1, .int .i64 a1), (27, .bool (r13 == v11.2))]) (by kernel_rfl) ?_
      refine WD.nil (by kernel_rfl) ?_
      refine At.go ?_
      refine WC.cond (by kernel_rfl) (r13 == v11.2) (by kernel_rfl) (by kernel_rfl) (fun hb22 => ?_) (fun hb22 => ?_)
      · replace H := ite_t H hb22
        refine WC.seq (by kernel_rfl) ?_
        refine WC.reg [0] (by kernel_rfl) (by kernel_rfl) ?_
        refine WR.runk [0] [] [4] (L' := [(4, .int .i64 220)]) (w' := w20) (by kernel_rfl) ?_
        refine WR.nil ?_
        refine At.go ?_
        refine WC.ret (by kernel_rfl) ?_
        refine At.thenRet ?_
        obtain rfl := Option.some.inj H
        have hS : Sat w20 B [pts b0 (.cells #[.int .i64 p0.1, .slice A2 p0.2.1.length c3, .slice A6 p0.2.2.length c7] 42 (0, 0)), osl 3 (r0 (.int .i64)) 1 A6 c7 p0.2.2] := hS.sel [0, 1] (by kernel_rfl)
        have hS : Sat w20 B [O42r1 G0 b0 p0] := O42r1.close G0 p0 A2 c3 A6 c7 R4 hS
        have hS : Sat w20 B [O42r1 G0 b0 p0] := hS.sel [0] (by kernel_rfl)
        exact At.body [.int .i64 220] (by kernel_rfl) ⟨_, rfl, rfl, hS⟩
      · replace H := ite_f H hb22
        refine WC.skip (by kernel_rfl) ?_
        refine At.go ?_
        refine WC.seq (by kernel_rfl) ?_
        refine WC.seq (by kernel_rfl) ?_
        refine WC.drawn (by kernel_rfl) (by kernel_rfl) 10 (by kernel_rfl) (fun w23 hw24 => ?_)
        have hS := hS.heap hw24.1 hw24.2
        refine WD.weaken [0, 1] (L' := [(0, .pointer (some ⟨b0, 0, none⟩)), (1, .int .i64 a1)]) (by kernel_rfl) ?_
        refine WD.pure (i := 0) (v := .pointer (some ⟨b0, 0, none⟩)) (by kernel_rfl) (by kernel_rfl) (fun _ => by kernel_rfl) ?_
        refine WD.weaken [0, 1, 28] (L' := [(0, .pointer (some ⟨b0, 0, none⟩)), (1, .int .i64 a1), (28, .pointer (some ⟨b0, 0, none⟩))]) (by kernel_rfl) ?_
        refine WD.pure (i := 1) (v := .pointer (some ⟨b0, 0, none⟩)) (by kernel_rfl) (by kernel_rfl) (fun _ => by kernel_rfl) ?_
        refine WD.weaken [0, 1, 29] (L' := [(0, .pointer (some ⟨b0, 0, none⟩)), (1, .int .i64 a1), (29, .pointer (some ⟨b0, 0, none⟩))]) (by kernel_rfl) ?_
        refine WD.pure (i := 2) (v := .pointer (some ⟨b0, 2, none⟩)) (by kernel_rfl) (by kernel_rfl) (fun _ => by kernel_rfl) ?_
        refine WD.weaken [0, 1, 30] (L' := [(0, .pointer (some ⟨b0, 0, none⟩)), (1, .int .i64 a1), (30, .pointer (some ⟨b0, 2, none⟩))]) (by kernel_rfl) ?_
        refine WD.ofR (i := 3) (by kernel_rfl) (RSt.loadObj (t := 23) (k := 2) (v := .slice A6 p0.2.2.length c7) (.tmp 30) (by kernel_rfl) (by kernel_rfl) (by kernel_rfl) 0 hS rfl (by kernel_rfl) rfl ?_)
        refine WD.weaken [0, 1, 31] (L' := [(0, .pointer (some ⟨b0, 0, none⟩)), (1, .int .i64 a1), (31, .slice A6 p0.2.2.length c7)]) (by kernel_rfl) ?_
        refine WD.pure (i := 4) (v := .int .i64 (p0.2.2.length : Int)) (by kernel_rfl) (by kernel_rfl) (fun _ => by kernel_rfl) ?_
        refine WD.weaken [0, 1, 32] (L' := [(0, .pointer (some ⟨b0, 0, none⟩)), (1, .int .i64 a1), (32, .int .i64 (p0.2.2.length : Int))]) (by kernel_rfl) ?_
        refine WD.pure (i := 5) (v := .pointer (some ⟨b0, 0, none⟩)) (by kernel_rfl) (by kernel_rfl) (fun _ => by kernel_rfl) ?_
        refine WD.weaken [0, 1, 32, 33] (L' := [(0, .pointer (some ⟨b0, 0, none⟩)), (1, .int .i64 a1), (32, .int .i64 (p0.2.2.length : Int)), (33, .pointer (some ⟨b0, 0, none⟩))]) (by kernel_rfl) ?_
        refine WD.pure (i := 6) (v := .pointer (some ⟨b0, 0, none⟩)) (by kernel_rfl) (by kernel_rfl) (fun _ => by kernel_rfl) ?_
        refine WD.weaken [0, 1, 32, 34] (L' := [(0, .pointer (some ⟨b0, 0, none⟩)), (1, .int .i64 a1), (32, .int .i64 (p0.2.2.length : Int)), (34, .pointer (some ⟨b0, 0, none⟩))]) (by kernel_rfl) ?_
        refine WD.pure (i := 7) (v := .pointer (some ⟨b0, 0, none⟩)) (by kernel_rfl) (by kernel_rfl) (fun _ => by kernel_rfl) ?_
        refine WD.weaken [0, 1, 32, 35] (L' := [(0, .pointer (some ⟨b0, 0, none⟩)), (1, .int .i64 a1), (32, .int .i64 (p0.2.2.length : Int)), (35, .pointer (some ⟨b0, 0, none⟩))]) (by kernel_rfl) ?_
        refine WD.ofR (i := 8) (by kernel_rfl) (RSt.loadObj (t := 3) (k := 0) (v := .int .i64 p0.1) (.tmp 35) (by kernel_rfl) (by kernel_rfl) (by kernel_rfl) 0 hS rfl (by kernel_rfl) rfl ?_)
        refine WD.weaken [0, 1, 32, 36] (L' := [(0, .pointer (some ⟨b0, 0, none⟩)), (1, .int .i64 a1), (32, .int .i64 (p0.2.2.length : Int)), (36, .int .i64 p0.1)]) (by kernel_rfl) ?_
        refine WD.pure (i := 9) (v := .bool ((p0.2.2.length : Int) == p0.1)) (by kernel_rfl) (by kernel_rfl) (fun _ => by kernel_rfl) ?_
        refine WD.weaken [0, 1, 37] (L' := [(0, .pointer (some ⟨b0, 0, none⟩)), (1, .int .i64 a1), (37, .bool ((p0.2.2.length : Int) == p0.1))]) (by kernel_rfl) ?_
        refine WD.nil (by kernel_rfl) ?_
        refine At.go ?_
        refine WC.cond (by kernel_rfl) ((p0.2.2.length : Int) == p0.1) (by kernel_rfl) (by kernel_rfl) (fun hb25 => ?_) (fun hb25 => ?_)
        · replace H := ite_t H hb25
          refine WC.seq (by kernel_rfl) ?_
          refine WC.reg [0] (by kernel_rfl) (by kernel_rfl) ?_
          refine WR.runk [0] [] [4] (L' := [(4, .int .i64 221)]) (w' := w23) (by kernel_rfl) ?_
          refine WR.nil ?_
          refine At.go ?_
          refine WC.ret (by kernel_rfl) ?_
          refine At.thenRet ?_
          obtain rfl := Option.some.inj H
          have hS : Sat w23 B [pts b0 (.cells #[.int .i64 p0.1, .slice A2 p0.2.1.length c3, .slice A6 p0.2.2.length c7] 42 (0, 0)), osl 3 (r0 (.int .i64)) 1 A6 c7 p0.2.2] := hS.sel [0, 1] (by kernel_rfl)
          have hS : Sat w23 B [O42r1 G0 b0 p0] := O42r1.close G0 p0 A2 c3 A6 c7 R4 hS
          have hS : Sat w23 B [O42r1 G0 b0 p0] := hS.sel [0] (by kernel_rfl)
          exact At.body [.int .i64 221] (by kernel_rfl) ⟨_, rfl, rfl, hS⟩
        · replace H := ite_f H hb25
          refine WC.skip (by kernel_rfl) ?_
          refine At.go ?_
          refine WC.seq (by kernel_rfl) ?_
          refine WC.reg [0, 1, 2, 3, 4, 5, 6, 7, 8, 9, 10] (by kernel_rfl) (by kernel_rfl) ?_
          refine WR.runk [0, 1, 2, 3] [4, 5, 6, 7, 8, 9, 10] [1, 38, 41] (L' := [(1, .int .i64 a1), (38, .pointer (some ⟨b0, 0, none⟩)), (41, .pointer (some ⟨b0, 2, none⟩))]) (w' := w23) (by kernel_rfl) ?_
          refine WR.st (St.ofR (RSt.loadObj (t := 23) (k := 2) (v := .slice A6 p0.2.2.length c7) (.tmp 41) (by kernel_rfl) (by kernel_rfl) (by kernel_rfl) 0 hS rfl (by kernel_rfl) rfl ?_))
          refine WR.runk [5] [6, 7, 8, 9, 10] [38, 42, 43] (L' := [(38, .pointer (some ⟨b0, 0, none⟩)), (42, .slice A6 p0.2.2.length c7), (43, .int .i64 a1)]) (w' := w23) (by kernel_rfl) ?_
          refine WR.st (St.box hS (by kernel_rfl) (.cells #[.int .i64 a1] 3) (fun b26 => .slice (some ⟨b26, 0, none⟩) 1 1) (fun _ => by kernel_rfl) (fun b26 w27 hS => ?_))
          refine WR.runk [] [7, 8, 9, 10] [38, 42, 44] (L' := [(38, .pointer (some ⟨b0, 0, none⟩)), (42, .slice A6 p0.2.2.length c7), (44, .slice (some ⟨b26, 0, none⟩) 1 1)]) (w' := w27) (by kernel_rfl) ?_
          have hS : Sat w27 B [osl 3 (r0 (.int .i64)) 1 A6 c7 p0.2.2, pts b26 (.cells #[.int .i64 a1] 3 (0, 0)), pts b0 (.cells #[.int .i64 p0.1, .slice A2 p0.2.1.length c3, .slice A6 p0.2.2.length c7] 42 (0, 0))] := hS.sel [2, 0, 1] (by kernel_rfl)
          obtain ⟨y29, e28, H⟩ := bind_ex H
          refine WR.st (St.append' (.tmp 42) (.tmp 44) (by kernel_rfl) (by kernel_rfl) E23 (r0_one _) hS (by kernel_rfl) (by kernel_rfl) (Sat.ptsAt 1 (r0 (.int .i64)) 1 ([a1] : List Int) hS rfl rfl (rdL.cons1 rfl (rdL.nil _ _))) 17592186044416 (by kernel_rfl) (by kernel_rfl) e28 (fun A30 c31 w32 hS => ?_))
          refine WR.runk [8, 9] [10] [45, 47] (L' := [(45, .slice A30 y29.length c31), (47, .pointer (some ⟨b0, 2, none⟩))]) (w' := w32) (by kernel_rfl) ?_
          have hS : Sat w32 B [pts b0 (.cells #[.int .i64 p0.1, .slice A2 p0.2.1.length c3, .slice A6 p0.2.2.length c7] 42 (0, 0)), osl 3 (r0 (.int .i64)) 1 A30 c31 y29, pts b26 (.cells #[.int .i64 a1] 3 (0, 0))] := hS.sel [2, 0, 1] (by kernel_rfl)
          refine WR.st (St.storeObj (t := 23) (k := 2) (cur' := #[.int .i64 p0.1, .slice A2 p0.2.1.length c3, .slice A30 y29.length c31]) (.tmp 47) (.tmp 45) (by kernel_rfl) (by kernel_rfl) (by kernel_rfl) hS (by kernel_rfl) (by kernel_rfl) (by kernel_rfl) rfl rfl (fun w33 hS => ?_))
          refine WR.runk [] [] [] (L' := []) (w' := w33) (by kernel_rfl) ?_
          refine WR.nil ?_
          refine At.go ?_
          refine WC.seq (by kernel_rfl) ?_
          refine WC.reg [0] (by kernel_rfl) (by kernel_rfl) ?_
          refine WR.runk [0] [] [4] (L' := [(4, .int .i64 0)]) (w' := w33) (by kernel_rfl) ?_
          refine WR.nil ?_
          refine At.go ?_
          refine WC.ret (by kernel_rfl) ?_
          obtain rfl := Option.some.inj H
          have hS : Sat w33 B [pts b0 (.cells #[.int .i64 p0.1, .slice A2 p0.2.1.length c3, .slice A30 y29.length c31] 42 (0, 0)), osl 3 (r0 (.int .i64)) 1 A30 c31 y29, pts b26 (.cells #[.int .i64 a1] 3 (0, 0))] := hS.sel [0, 1, 2] (by kernel_rfl)
          have hS : Sat w33 B [O42r1 G0 b0 (p0.1, p0.2.1, y29), pts b26 (.cells #[.int .i64 a1] 3 (0, 0))] := O42r1.close G0 (p0.1, p0.2.1, y29) A2 c3 A30 c31 R4 hS
          have hS : Sat w33 B [O42r1 G0 b0 (p0.1, p0.2.1, y29)] := hS.sel [0] (by kernel_rfl)
          exact At.body [.int .i64 0] (by kernel_rfl) ⟨_, rfl, rfl, hS⟩
/-! ### 14 (*colophon/colophonref22.Gate).Leave -/
def colophonref22_Gate_Leave.l1 (p0 : Int × (List (Int × Int)) × (List Int)) (a1 : Int) : Nat → Int → Option (Sum (Bool × (List Int)) Unit)
  | 0, _ => none
  | k + 1, x12_l1 => (if decide (x12_l1 < (p0.2.2.length : Int)) then ((at? p0.2.2 x12_l1).bind fun v6 => (if (v6 == a1) then ((sub? p0.2.2 0 x12_l1).bind fun y11 => ((sub? p0.2.2 (wi (x12_l1 + 1)) (p0.2.2.length : Int)).bind fun y16 => ((app? 17592186044416 (([] : List Int) : List Int) y11).bind fun y24 => ((app? 17592186044416 y24 y16).bind fun y29 => some (.inl (true, y29)))))) else colophonref22_Gate_Leave.l1 p0 a1 k (wi (x12_l1 + 1)))) else some (.inr ()))
def colophonref22_Gate_Leave.f (p0 : Int × (List (Int × Int)) × (List Int)) (a1 : Int) : Option (Bool × (Int × (List (Int × Int)) × (List Int))) := ((colophonref22_Gate_Leave.l1 p0 a1 FU 0).bind fun o34 => (match o34 with | .inl o36 => some (o36.1, (p0.1, p0.2.1, o36.2)) | .inr o40 => some (false, p0)))
def colophonref22_Gate_Leave.post (B : Rf) (b0 : Nat) (p0 : Int × (List (Int × Int)) × (List Int)) (w : World) (r : Bool × (Int × (List (Int × Int)) × (List Int))) (v : Value) (w' : World) : Prop := v = (.bool r.1 : Value) ∧ Sat w' B [O42 b0 r.2]
theorem colophonref22_Gate_Leave.l1_ok {Q} (B : Rf) (b0 : Nat) (p0 : Int × (List (Int × Int)) × (List Int)) (a1 : Int) (A1 : Option Addr) (c2 : Nat) (A3 : Option Addr) (c4 : Nat) (out : Sum (Bool × (List Int)) Unit) (hn0 : ∀ (o0 : Bool × (List Int)) (Aq0p2_q : Option Addr) (cq0p2_q : Nat) (w : World), out = (.inl o0) → Sat w B [pts b0 (.cells #[.int .i64 p0.1, .slice A1 p0.2.1.length c2, .slice Aq0p2_q o0.2.length cq0p2_q] 42 (0, 0)), osl 3 (r0 (.int .i64)) 1 Aq0p2_q cq0p2_q o0.2, osl 27 (r0 (.pair (.int .i64) (.int .i64))) 2 A1 c2 p0.2.1] → At Q .ret 40 [(4, .bool o0.1)] w) (hn1 : ∀ (o1 : Unit) (w : World), out = (.inr o1) → Sat w B [pts b0 (.cells #[.int .i64 p0.1, .slice A1 p0.2.1.length c2, .slice A3 p0.2.2.length c4] 42 (0, 0)), osl 27 (r0 (.pair (.int .i64) (.int .i64))) 2 A1 c2 p0.2.1, osl 3 (r0 (.int .i64)) 1 A3 c4 p0.2.2] → At Q (.exit 0) 40 [] w) :
    ∀ (k : Nat) (x12_l1 : Int) (w : World), Sat w B [osl 3 (r0 (.int .i64)) 1 A3 c4 p0.2.2, pts b0 (.cells #[.int .i64 p0.1, .slice A1 p0.2.1.length c2, .slice A3 p0.2.2.length c4] 42 (0, 0)), osl 27 (r0 (.pair (.int .i64) (.int .i64))) 2 A1 c2 p0.2.1] → colophonref22_Gate_Leave.l1 p0 a1 k x12_l1 = some out → WL Try.prog (cbody (cbody (cr (cl (cr C14))))) Q 40 [(0, .pointer (some ⟨b0, 0, none⟩)), (1, .int .i64 a1), (10, .slice A3 p0.2.2.length c4), (11, .int .i64 (p0.2.2.length : Int)), (12, .int .i64 x12_l1)] w := by
  intro k
  induction k with
  | zero => intro x12_l1 w hS H; exact absurd (show none = some out from H) (by simp)
  | succ k ih =>
    intro x12_l1 w hS H
    unfold colophonref22_Gate_Leave.l1 at H
    refine WL.round ?_
    refine WC.seq (by kernel_rfl) ?_
    refine WC.reg [0] (by kernel_rfl) (by kernel_rfl) ?_
    refine WR.runk [0] [] [0, 1, 10, 11, 12, 13] (L' := [(0, .pointer (some ⟨b0, 0, none⟩)), (1, .int .i64 a1), (10, .slice A3 p0.2.2.length c4), (11, .int .i64 (p0.2.2.length : Int)), (12, .int .i64 x12_l1), (13, .bool (decide (x12_l1 < (p0.2.2.length : Int))))]) (w' := w) (by kernel_rfl) ?_
    refine WR.nil ?_
    refine At.go ?_
    refine WC.seq (by kernel_rfl) ?_
    refine WC.cond (by kernel_rfl) (decide (x12_l1 < (p0.2.2.length : Int))) (by kernel_rfl) (by kernel_rfl) (fun hb5 => ?_) (fun hb5 => ?_)
    · replace H := ite_t H hb5
      refine WC.skip (by kernel_rfl) ?_
      refine At.go ?_
      refine WC.seq (by kernel_rfl) ?_
      refine WC.block (by kernel_rfl) ?_
      refine WC.seq (by kernel_rfl) ?_
      refine WC.reg [0, 1, 2, 3, 4] (by kernel_rfl) (by kernel_rfl) ?_
      refine WR.runk [0] [1, 2, 3, 4] [0, 1, 10, 11, 12, 14] (L' := [(0, .pointer (some ⟨b0, 0, none⟩)), (1, .int .i64 a1), (10, .slice A3 p0.2.2.length c4), (11, .int .i64 (p0.2.2.length : Int)), (12, .int .i64 x12_l1), (14, .int .i64 x12_l1)]) (w' := w) (by kernel_rfl) ?_
      obtain ⟨v6, e7, H⟩ := bind_ex H
      refine WR.st (St.ofP (PSt.idx (k := .i64) (.tmp 10) (.tmp 12) (by kernel_rfl) (by kernel_rfl) E23 (by kernel_rfl) (by kernel_rfl) (Sat.rdAt 0 hS rfl) e7 ?_))
      refine WR.runk [] [2, 3, 4] [0, 1, 10, 11, 12, 14, 15] (L' := [(0, .pointer (some ⟨b0, 0, none⟩)), (1, .int .i64 a1), (10, .slice A3 p0.2.2.length c4), (11, .int .i64 (p0.2.2.length : Int)), (12, .int .i64 x12_l1), (14, .int .i64 x12_l1), (15, .pointer (some (adr A3 x12_l1.toNat 1)))]) (w' := w) (by kernel_rfl) ?_
      refine WR.st (St.ofR (RSt.loadInt (t := 3) (.tmp 15) (by kernel_rfl) (by kernel_rfl) (by kernel_rfl) (by kernel_rfl) (Sat.rdAt 0 hS rfl) e7 ?_))
      refine WR.runk [3, 4] [] [0, 1, 5, 6, 10, 11, 12] (L' := [(0, .pointer (some ⟨b0, 0, none⟩)), (1, .int .i64 a1), (5, .int .i64 x12_l1), (6, .int .i64 v6), (10, .slice A3 p0.2.2.length c4), (11, .int .i64 (p0.2.2.length : Int)), (12, .int .i64 x12_l1)]) (w' := w) (by kernel_rfl) ?_
      refine WR.nil ?_
      refine At.go ?_
      refine WC.seq (by kernel_rfl) ?_
      refine WC.reg [0, 1, 2] (by kernel_rfl) (by kernel_rfl) ?_
      refine WR.runk [0, 1, 2] [] [0, 1, 5, 10, 11, 12, 19] (L' := [(0, .pointer (some ⟨b0, 0, none⟩)), (1, .int .i64 a1), (5, .int .i64 x12_l1), (10, .slice A3 p0.2.2.length c4), (11, .int .i64 (p0.2.2.length : Int)), (12, .int .i64 x12_l1), (19, .bool (v6 == a1))]) (w' := w) (by kernel_rfl) ?_
      refine WR.nil ?_
      refine At.go ?_
      refine WC.cond (by kernel_rfl) (v6 == a1) (by kernel_rfl) (by kernel_rfl) (fun hb8 => ?_) (fun hb8 => ?_)
      · replace H := ite_t H hb8
        refine WC.seq (by kernel_rfl) ?_
        refine WC.drawn (by kernel_rfl) (by kernel_rfl) 20 (by kernel_rfl) (fun w9 hw10 => ?_)
        have hS := hS.heap hw10.1 hw10.2
        refine WD.weaken [0, 5] (L' := [(0, .pointer (some ⟨b0, 0, none⟩)), (5, .int .i64 x12_l1)]) (by kernel_rfl) ?_
        refine WD.pure (i := 0) (v := .pointer (some ⟨b0, 0, none⟩)) (by kernel_rfl) (by kernel_rfl) (fun _ => by kernel_rfl) ?_
        refine WD.weaken [0, 5, 20] (L' := [(0, .pointer (some ⟨b0, 0, none⟩)), (5, .int .i64 x12_l1), (20, .pointer (some ⟨b0, 0, none⟩))]) (by kernel_rfl) ?_
        refine WD.pure (i := 2) (v := .pointer (some ⟨b0, 0, none⟩)) (by kernel_rfl) (by kernel_rfl) (fun _ => by kernel_rfl) ?_
        refine WD.weaken [0, 5, 20, 22] (L' := [(0, .pointer (some ⟨b0, 0, none⟩)), (5, .int .i64 x12_l1), (20, .pointer (some ⟨b0, 0, none⟩)), (22, .pointer (some ⟨b0, 0, none⟩))]) (by kernel_rfl) ?_
        refine WD.pure (i := 3) (v := .pointer (some ⟨b0, 0, none⟩)) (by kernel_rfl) (by kernel_rfl) (fun _ => by kernel_rfl) ?_
        refine WD.weaken [0, 5, 20, 23] (L' := [(0, .pointer (some ⟨b0, 0, none⟩)), (5, .int .i64 x12_l1), (20, .pointer (some ⟨b0, 0, none⟩)), (23, .pointer (some ⟨b0, 0, none⟩))]) (by kernel_rfl) ?_
        refine WD.pure (i := 4) (v := .pointer (some ⟨b0, 2, none⟩)) (by kernel_rfl) (by kernel_rfl) (fun _ => by kernel_rfl) ?_
        refine WD.weaken [0, 5, 20, 24] (L' := [(0, .pointer (some ⟨b0, 0, none⟩)), (5, .int .i64 x12_l1), (20, .pointer (some ⟨b0, 0, none⟩)), (24, .pointer (some ⟨b0, 2, none⟩))]) (by kernel_rfl) ?_
        refine WD.ofR (i := 5) (by kernel_rfl) (RSt.loadObj (t := 23) (k := 2) (v := .slice A3 p0.2.2.length c4) (.tmp 24) (by kernel_rfl) (by kernel_rfl) (by kernel_rfl) 1 hS rfl (by kernel_rfl) rfl ?_)
        refine WD.weaken [0, 5, 20, 25] (L' := [(0, .pointer (some ⟨b0, 0, none⟩)), (5, .int .i64 x12_l1), (20, .pointer (some ⟨b0, 0, none⟩)), (25, .slice A3 p0.2.2.length c4)]) (by kernel_rfl) ?_
        refine WD.pure (i := 6) (v := .int .i64 x12_l1) (by kernel_rfl) (by kernel_rfl) (fun _ => by kernel_rfl) ?_
        refine WD.weaken [0, 5, 20, 25, 26] (L' := [(0, .pointer (some ⟨b0, 0, none⟩)), (5, .int .i64 x12_l1), (20, .pointer (some ⟨b0, 0, none⟩)), (25, .slice A3 p0.2.2.length c4), (26, .int .i64 x12_l1)]) (by kernel_rfl) ?_
        obtain ⟨y11, e12, H⟩ := bind_ex H
        refine WD.ofP (i := 7) (by kernel_rfl) (PSt.sub (A := A3) (c := c4) (.tmp 25) none (some (.tmp 26)) none (by kernel_rfl) (by kernel_rfl) E23 (by kernel_rfl) (Sat.rdAt 0 hS rfl).1 e12 rfl (Exists.intro IntKind.i64 (by kernel_rfl)) trivial (fun A13 c14 T15 => ?_))
        refine WD.weaken [0, 5, 20, 27] (L' := [(0, .pointer (some ⟨b0, 0, none⟩)), (5, .int .i64 x12_l1), (20, .pointer (some ⟨b0, 0, none⟩)), (27, .slice A13 y11.length c14)]) (by kernel_rfl) ?_
        refine WD.pure (i := 9) (v := .pointer (some ⟨b0, 0, none⟩)) (by kernel_rfl) (by kernel_rfl) (fun _ => by kernel_rfl) ?_
        refine WD.weaken [5, 20, 27, 29] (L' := [(5, .int .i64 x12_l1), (20, .pointer (some ⟨b0, 0, none⟩)), (27, .slice A13 y11.length c14), (29, .pointer (some ⟨b0, 0, none⟩))]) (by kernel_rfl) ?_
        refine WD.pure (i := 10) (v := .pointer (some ⟨b0, 0, none⟩)) (by kernel_rfl) (by kernel_rfl) (fun _ => by kernel_rfl) ?_
        refine WD.weaken [5, 20, 27, 30] (L' := [(5, .int .i64 x12_l1), (20, .pointer (some ⟨b0, 0, none⟩)), (27, .slice A13 y11.length c14), (30, .pointer (some ⟨b0, 0, none⟩))]) (by kernel_rfl) ?_
        refine WD.pure (i := 11) (v := .pointer (some ⟨b0, 2, none⟩)) (by kernel_rfl) (by kernel_rfl) (fun _ => by kernel_rfl) ?_
        refine WD.weaken [5, 20, 27, 31] (L' := [(5, .int .i64 x12_l1), (20, .pointer (some ⟨b0, 0, none⟩)), (27, .slice A13 y11.length c14), (31, .pointer (some ⟨b0, 2, none⟩))]) (by kernel_rfl) ?_
        refine WD.ofR (i := 12) (by kernel_rfl) (RSt.loadObj (t := 23) (k := 2) (v := .slice A3 p0.2.2.length c4) (.tmp 31) (by kernel_rfl) (by kernel_rfl) (by kernel_rfl) 1 hS rfl (by kernel_rfl) rfl ?_)
        refine WD.weaken [5, 20, 27, 32] (L' := [(5, .int .i64 x12_l1), (20, .pointer (some ⟨b0, 0, none⟩)), (27, .slice A13 y11.length c14), (32, .slice A3 p0.2.2.length c4)]) (by kernel_rfl) ?_
        refine WD.pure (i := 13) (v := .int .i64 x12_l1) (by kernel_rfl) (by kernel_rfl) (fun _ => by kernel_rfl) ?_
        refine WD.weaken [20, 27, 32, 33] (L' := [(20, .pointer (some ⟨b0, 0, none⟩)), (27, .slice A13 y11.length c14), (32, .slice A3 p0.2.2.length c4), (33, .int .i64 x12_l1)]) (by kernel_rfl) ?_
        refine WD.pure (i := 14) (v := .int .i64 (wi (x12_l1 + 1))) (by kernel_rfl) (by kernel_rfl) (fun _ => by kernel_rfl) ?_
        refine WD.weaken [20, 27, 32, 34] (L' := [(20, .pointer (some ⟨b0, 0, none⟩)), (27, .slice A13 y11.length c14), (32, .slice A3 p0.2.2.length c4), (34, .int .i64 (wi (x12_l1 + 1)))]) (by kernel_rfl) ?_
        obtain ⟨y16, e17, H⟩ := bind_ex H
        refine WD.ofP (i := 15) (by kernel_rfl) (PSt.sub (A := A3) (c := c4) (.tmp 32) (some (.tmp 34)) none none (by kernel_rfl) (by kernel_rfl) E23 (by kernel_rfl) (Sat.rdAt 0 hS rfl).1 e17 (Exists.intro IntKind.i64 (by kernel_rfl)) ⟨rfl, rfl⟩ trivial (fun A18 c19 T20 => ?_))
        refine WD.weaken [20, 27, 35] (L' := [(20, .pointer (some ⟨b0, 0, none⟩)), (27, .slice A13 y11.length c14), (35, .slice A18 y16.length c19)]) (by kernel_rfl) ?_
        refine WD.act (i := 1) (by kernel_rfl) (St.box hS (by kernel_rfl) (.cells #[] 3) (fun b21 => .slice (some ⟨b21, 0, none⟩) 0 0) (fun _ => by kernel_rfl) (fun b21 w22 hS => ?_))
        refine ⟨(asked.cons (RSt.run (n := 40) (RSt.loadObj (t := 23) (k := 2) (v := .slice A3 p0.2.2.length c4) (.tmp 31) (by kernel_rfl) (by kernel_rfl) (by kernel_rfl) 2 hS rfl (by kernel_rfl) rfl rfl)) (asked.cons (RSt.run (n := 40) (RSt.loadObj (t := 23) (k := 2) (v := .slice A3 p0.2.2.length c4) (.tmp 24) (by kernel_rfl) (by kernel_rfl) (by kernel_rfl) 2 hS rfl (by kernel_rfl) rfl rfl)) (asked.nil _ _))), ?_⟩
        refine WD.weaken [20, 21, 27, 35] (L' := [(20, .pointer (some ⟨b0, 0, none⟩)), (21, .slice (some ⟨b21, 0, none⟩) 0 0), (27, .slice A13 y11.length c14), (35, .slice A18 y16.length c19)]) (by kernel_rfl) ?_
        have hS : Sat w22 B [osl 3 (r0 (.int .i64)) 1 (some ⟨b21, 0, none⟩) (([] : List Int) : List Int).length (([] : List Int) : List Int), osl 3 (r0 (.int .i64)) 1 A3 c4 p0.2.2, pts b0 (.cells #[.int .i64 p0.1, .slice A1 p0.2.1.length c2, .slice A3 p0.2.2.length c4] 42 (0, 0)), osl 27 (r0 (.pair (.int .i64) (.int .i64))) 2 A1 c2 p0.2.1] := Sat.toOsl' (r0 (.int .i64)) 1 (([] : List Int) : List Int) hS rfl (rdL.nil _ _)
        obtain ⟨y24, e23, H⟩ := bind_ex H
        refine WD.act (i := 8) (by kernel_rfl) (St.append' (.tmp 21) (.tmp 27) (by kernel_rfl) (by kernel_rfl) E23 (r0_one _) hS (by kernel_rfl) (by kernel_rfl) (T15.rd _ _ (Sat.rdAt 1 hS rfl)) 17592186044416 (by kernel_rfl) (by kernel_rfl) e23 (fun A25 c26 w27 hS => ?_))
        refine ⟨(asked.cons (RSt.run (n := 40) (RSt.loadObj (t := 23) (k := 2) (v := .slice A3 p0.2.2.length c4) (.tmp 31) (by kernel_rfl) (by kernel_rfl) (by kernel_rfl) 2 hS rfl (by kernel_rfl) rfl rfl)) (asked.anc (by kernel_rfl) (asked.nil _ _))), ?_⟩
        refine WD.weaken [20, 28, 35] (L' := [(20, .pointer (some ⟨b0, 0, none⟩)), (28, .slice A25 y24.length c26), (35, .slice A18 y16.length c19)]) (by kernel_rfl) ?_
        obtain ⟨y29, e28, H⟩ := bind_ex H
        refine WD.act (i := 16) (by kernel_rfl) (St.append' (.tmp 28) (.tmp 35) (by kernel_rfl) (by kernel_rfl) E23 (r0_one _) hS (by kernel_rfl) (by kernel_rfl) (T20.rd _ _ (Sat.rdAt 1 hS rfl)) 17592186044416 (by kernel_rfl) (by kernel_rfl) e28 (fun A30 c31 w32 hS => ?_))
        refine ⟨(asked.anc (by kernel_rfl) (asked.anc (by kernel_rfl) (asked.nil _ _))), ?_⟩
        refine WD.weaken [20, 36] (L' := [(20, .pointer (some ⟨b0, 0, none⟩)), (36, .slice A30 y29.length c31)]) (by kernel_rfl) ?_
        refine WD.pure (i := 17) (v := .pointer (some ⟨b0, 0, none⟩)) (by kernel_rfl) (by kernel_rfl) (fun _ => by kernel_rfl) ?_
        refine WD.weaken [36, 37] (L' := [(36, .slice A30 y29.length c31), (37, .pointer (some ⟨b0, 0, none⟩))]) (by kernel_rfl) ?_
        refine WD.pure (i := 18) (v := .pointer (some ⟨b0, 2, none⟩)) (by kernel_rfl) (by kernel_rfl) (fun _ => by kernel_rfl) ?_
        refine WD.weaken [36, 38] (L' := [(36, .slice A30 y29.length c31), (38, .pointer (some ⟨b0, 2, none⟩))]) (by kernel_rfl) ?_
        have hS : Sat w32 B [pts b0 (.cells #[.int .i64 p0.1, .slice A1 p0.2.1.length c2, .slice A3 p0.2.2.length c4] 42 (0, 0)), osl 3 (r0 (.int .i64)) 1 A30 c31 y29, osl 3 (r0 (.int .i64)) 1 A3 c4 p0.2.2, osl 27 (r0 (.pair (.int .i64) (.int .i64))) 2 A1 c2 p0.2.1] := hS.sel [2, 0, 1, 3] (by kernel_rfl)
        refine WD.act (i := 19) (by kernel_rfl) (St.storeObj (t := 23) (k := 2) (cur' := #[.int .i64 p0.1, .slice A1 p0.2.1.length c2, .slice A30 y29.length c31]) (.tmp 38) (.tmp 36) (by kernel_rfl) (by kernel_rfl) (by kernel_rfl) hS (by kernel_rfl) (by kernel_rfl) (by kernel_rfl) rfl rfl (fun w33 hS => ?_))
        refine ⟨(asked.anc (by kernel_rfl) (asked.anc (by kernel_rfl) (asked.nil _ _))), ?_⟩
        refine WD.weaken [] (L' := []) (by kernel_rfl) ?_
        refine WD.nil (by kernel_rfl) ?_
        refine At.go ?_
        refine WC.seq (by kernel_rfl) ?_
        refine WC.reg [0] (by kernel_rfl) (by kernel_rfl) ?_
        refine WR.runk [0] [] [4] (L' := [(4, .bool true)]) (w' := w33) (by kernel_rfl) ?_
        refine WR.nil ?_
        refine At.go ?_
        refine WC.ret (by kernel_rfl) ?_
        refine At.blockRet ?_
        refine At.thenRet ?_
        refine At.thenRet ?_
        obtain rfl := Option.some.inj H
        have hS : Sat w33 B [pts b0 (.cells #[.int .i64 p0.1, .slice A1 p0.2.1.length c2, .slice A30 y29.length c31] 42 (0, 0)), osl 3 (r0 (.int .i64)) 1 A30 c31 y29, osl 27 (r0 (.pair (.int .i64) (.int .i64))) 2 A1 c2 p0.2.1] := hS.sel [0, 1, 3] (by kernel_rfl)
        refine At.weaken [4] (L' := [(4, .bool true)]) (by kernel_rfl) ?_
        exact hn0 (true, y29) A30 c31 _ rfl hS
      · replace H := ite_f H hb8
        refine WC.skip (by kernel_rfl) ?_
        refine At.blockNormal ?_
        refine At.go ?_
        refine WC.reg [0, 1] (by kernel_rfl) (by kernel_rfl) ?_
        refine WR.runk [0, 1] [] [0, 1, 10, 11, 12] (L' := [(0, .pointer (some ⟨b0, 0, none⟩)), (1, .int .i64 a1), (10, .slice A3 p0.2.2.length c4), (11, .int .i64 (p0.2.2.length : Int)), (12, .int .i64 (wi (x12_l1 + 1)))]) (w' := w) (by kernel_rfl) ?_
        refine WR.nil ?_
        have hS : Sat w B [osl 3 (r0 (.int .i64)) 1 A3 c4 p0.2.2, pts b0 (.cells #[.int .i64 p0.1, .slice A1 p0.2.1.length c2, .slice A3 p0.2.2.length c4] 42 (0, 0)), osl 27 (r0 (.pair (.int .i64) (.int .i64))) 2 A1 c2 p0.2.1] := hS.sel [0, 1, 2] (by kernel_rfl)
        refine At.again ?_
        refine WL.weaken [0, 1, 10, 11, 12] (L' := [(0, .pointer (some ⟨b0, 0, none⟩)), (1, .int .i64 a1), (10, .slice A3 p0.2.2.length c4), (11, .int .i64 (p0.2.2.length : Int)), (12, .int .i64 (wi (x12_l1 + 1)))]) (by kernel_rfl) ?_
        exact ih (wi (x12_l1 + 1)) _ hS H
    · replace H := ite_f H hb5
      refine WC.exit (by kernel_rfl) ?_
      refine At.thenExit ?_
      refine At.thenExit ?_
      obtain rfl := Option.some.inj H
      have hS : Sat w B [pts b0 (.cells #[.int .i64 p0.1, .slice A1 p0.2.1.length c2, .slice A3 p0.2.2.length c4] 42 (0, 0)), osl 27 (r0 (.pair (.int .i64) (.int .i64))) 2 A1 c2 p0.2.1, osl 3 (r0 (.int .i64)) 1 A3 c4 p0.2.2] := hS.sel [1, 2, 0] (by kernel_rfl)
      refine At.weaken [] (L' := []) (by kernel_rfl) ?_
      exact hn1 () _ rfl hS
theorem colophonref22_Gate_Leave.calls (B : Rf) (w0 : World) (b0 : Nat) (p0 : Int × (List (Int × Int)) × (List Int)) (hS : Sat w0 B [O42 b0 p0]) (a1 : Int) (r : Bool × (Int × (List (Int × Int)) × (List Int))) (H : colophonref22_Gate_Leave.f p0 a1 = some r) :
    Calls Try.prog 14 #[.pointer (some ⟨b0, 0, none⟩), .int .i64 a1] w0 (fun e w' => ∃ v, e = .returned v ∧ colophonref22_Gate_Leave.post B b0 p0 w0 r v w') := by
  unfold colophonref22_Gate_Leave.f at H
  refine calls_of_WC (vs := [.pointer (some ⟨b0, 0, none⟩), .int .i64 a1]) Try.func14 (c := C14) (n := 40) (by kernel_rfl) (by kernel_rfl) (by kernel_rfl) ?_
  refine WC.seq (by kernel_rfl) ?_
  refine WC.reg [0] (by kernel_rfl) (by kernel_rfl) ?_
  refine WR.runk [0] [] [0, 1] (L' := [(0, .pointer (some ⟨b0, 0, none⟩)), (1, .int .i64 a1)]) (w' := w0) (by kernel_rfl) ?_
  refine WR.nil ?_
  refine At.go ?_
  refine WC.seq (by kernel_rfl) ?_
  refine WC.seq (by kernel_rfl) ?_
  refine WC.reg [0, 1, 2, 3, 4, 5] (by kernel_rfl) (by kernel_rfl) ?_
  refine WR.runk [0, 1, 2] [3, 4, 5] [0, 1, 9] (L' := [(0, .pointer (some ⟨b0, 0, none⟩)), (1, .int .i64 a1), (9, .pointer (some ⟨b0, 2, none⟩))]) (w' := w0) (by kernel_rfl) ?_
  obtain ⟨A1, c2, A3, c4, hS⟩ := O42.open hS
  have hS : Sat w0 B [pts b0 (.cells #[.int .i64 p0.1, .slice A1 p0.2.1.length c2, .slice A3 p0.2.2.length c4] 42 (0, 0)), osl 27 (r0 (.pair (.int .i64) (.int .i64))) 2 A1 c2 p0.2.1, osl 3 (r0 (.int .i64)) 1 A3 c4 p0.2.2] := hS
  refine WR.st (St.ofR (RSt.loadObj (t := 23) (k := 2) (v := .slice A3 p0.2.2.length c4) (.tmp 9) (by kernel_rfl) (by kernel_rfl) (by kernel_rfl) 0 hS rfl (by kernel_rfl) rfl ?_))
  refine WR.runk [4, 5] [] [0, 1, 10, 11, 12] (L' := [(0, .pointer (some ⟨b0, 0, none⟩)), (1, .int .i64 a1), (10, .slice A3 p0.2.2.length c4), (11, .int .i64 (p0.2.2.length : Int)), (12, .int .i64 0)]) (w' := w0) (by kernel_rfl) ?_
  refine WR.nil ?_
  refine At.go ?_
  refine WC.block (by kernel_rfl) ?_
  have hS : Sat w0 B [osl 3 (r0 (.int .i64)) 1 A3 c4 p0.2.2, pts b0 (.cells #[.int .i64 p0.1, .slice A1 p0.2.1.length c2, .slice A3 p0.2.2.length c4] 42 (0, 0)), osl 27 (r0 (.pair (.int .i64) (.int .i64))) 2 A1 c2 p0.2.1] := hS.sel [2, 0, 1] (by kernel_rfl)
  obtain ⟨o34, e35, H⟩ := bind_ex H
  refine WC.loop (by kernel_rfl) ?_
  refine WL.weaken [0, 1, 10, 11, 12] (L' := [(0, .pointer (some ⟨b0, 0, none⟩)), (1, .int .i64 a1), (10, .slice A3 p0.2.2.length c4), (11, .int .i64 (p0.2.2.length : Int)), (12, .int .i64 0)]) (by kernel_rfl) ?_
  refine colophonref22_Gate_Leave.l1_ok B b0 p0 a1 A1 c2 A3 c4 o34 (fun o36 Aq0p2_q37 cq0p2_q37 w38 ho39 hS => ?_) (fun o40 w42 ho43 hS => ?_) FU 0 _ hS e35
  · subst ho39
    dsimp only at H
    refine At.blockRet ?_
    refine At.thenRet ?_
    obtain rfl := Option.some.inj H
    have hS : Sat w38 B [pts b0 (.cells #[.int .i64 p0.1, .slice A1 p0.2.1.length c2, .slice Aq0p2_q37 o36.2.length cq0p2_q37] 42 (0, 0)), osl 27 (r0 (.pair (.int .i64) (.int .i64))) 2 A1 c2 p0.2.1, osl 3 (r0 (.int .i64)) 1 Aq0p2_q37 cq0p2_q37 o36.2] := hS.sel [0, 2, 1] (by kernel_rfl)
    have hS : Sat w38 B [O42 b0 (p0.1, p0.2.1, o36.2)] := O42.close (p0.1, p0.2.1, o36.2) A1 c2 Aq0p2_q37 cq0p2_q37 hS
    have hS : Sat w38 B [O42 b0 (p0.1, p0.2.1, o36.2)] := hS.sel [0] (by kernel_rfl)
    exact At.body [.bool o36.1] (by kernel_rfl) ⟨_, rfl, rfl, hS⟩
  · subst ho43
    dsimp only at H
    refine At.hit ?_
    refine At.go ?_
    refine WC.seq (by kernel_rfl) ?_
    refine WC.reg [0] (by kernel_rfl) (by kernel_rfl) ?_
    refine WR.runk [0] [] [4] (L' := [(4, .bool false)]) (w' := w42) (by kernel_rfl) ?_
    refine WR.nil ?_
    refine At.go ?_
    refine WC.ret (by kernel_rfl) ?_
    obtain rfl := Option.some.inj H
    have hS : Sat w42 B [pts b0 (.cells #[.int .i64 p0.1, .slice A1 p0.2.1.length c2, .slice A3 p0.2.2.length c4] 42 (0, 0)), osl 27 (r0 (.pair (.int .i64) (.int .i64))) 2 A1 c2 p0.2.1, osl 3 (r0 (.int .i64)) 1 A3 c4 p0.2.2] := hS.sel [0, 1, 2] (by kernel_rfl)
    have hS : Sat w42 B [O42 b0 p0] := O42.close p0 A1 c2 A3 c4 hS
    have hS : Sat w42 B [O42 b0 p0] := hS.sel [0] (by kernel_rfl)
    exact At.body [.bool false] (by kernel_rfl) ⟨_, rfl, rfl, hS⟩
/-! ### 14 (*colophon/colophonref22.Gate).Leave -/
def colophonref22_Gate_Leave_r0_1.l1 (p0 : Int × (List (Int × Int)) × (List Int)) (a1 : Int) : Nat → Int → Option (Sum (Bool × (List Int)) Unit)
  | 0, _ => none
  | k + 1, x12_l1 => (if decide (x12_l1 < (p0.2.2.length : Int)) then ((at? p0.2.2 x12_l1).bind fun v8 => (if (v8 == a1) then ((sub? p0.2.2 0 x12_l1).bind fun y13 => ((sub? p0.2.2 (wi (x12_l1 + 1)) (p0.2.2.length : Int)).bind fun y18 => ((app? 17592186044416 (([] : List Int) : List Int) y13).bind fun y26 => ((app? 17592186044416 y26 y18).bind fun y31 => some (.inl (true, y31)))))) else colophonref22_Gate_Leave_r0_1.l1 p0 a1 k (wi (x12_l1 + 1)))) else some (.inr ()))
def colophonref22_Gate_Leave_r0_1.f (p0 : Int × (List (Int × Int)) × (List Int)) (a1 : Int) : Option (Bool × (Int × (List (Int × Int)) × (List Int))) := ((colophonref22_Gate_Leave_r0_1.l1 p0 a1 FU 0).bind fun o36 => (match o36 with | .inl o38 => some (o38.1, (p0.1, p0.2.1, o38.2)) | .inr o42 => some (false, p0)))
def colophonref22_Gate_Leave_r0_1.post (B : Rf) (b0 : Nat) (p0 : Int × (List (Int × Int)) × (List Int)) (G0 : Heap) (w : World) (r : Bool × (Int × (List (Int × Int)) × (List Int))) (v : Value) (w' : World) : Prop := v = (.bool r.1 : Value) ∧ Sat w' B [O42r1 G0 b0 r.2]
theorem colophonref22_Gate_Leave_r0_1.l1_ok {Q} (B : Rf) (b0 : Nat) (p0 : Int × (List (Int × Int)) × (List Int)) (a1 : Int) (A1 : Option Addr) (c2 : Nat) (A5 : Option Addr) (c6 : Nat) (out : Sum (Bool × (List Int)) Unit) (hn0 : ∀ (o0 : Bool × (List Int)) (Aq0p2_q : Option Addr) (cq0p2_q : Nat) (w : World), out = (.inl o0) → Sat w B [pts b0 (.cells #[.int .i64 p0.1, .slice A1 p0.2.1.length c2, .slice Aq0p2_q o0.2.length cq0p2_q] 42 (0, 0)), osl 3 (r0 (.int .i64)) 1 Aq0p2_q cq0p2_q o0.2] → At Q .ret 40 [(4, .bool o0.1)] w) (hn1 : ∀ (o1 : Unit) (w : World), out = (.inr o1) → Sat w B [pts b0 (.cells #[.int .i64 p0.1, .slice A1 p0.2.1.length c2, .slice A5 p0.2.2.length c6] 42 (0, 0)), osl 3 (r0 (.int .i64)) 1 A5 c6 p0.2.2] → At Q (.exit 0) 40 [] w) :
    ∀ (k : Nat) (x12_l1 : Int) (w : World), Sat w B [osl 3 (r0 (.int .i64)) 1 A5 c6 p0.2.2, pts b0 (.cells #[.int .i64 p0.1, .slice A1 p0.2.1.length c2, .slice A5 p0.2.2.length c6] 42 (0, 0))] → colophonref22_Gate_Leave_r0_1.l1 p0 a1 k x12_l1 = some out → WL Try.prog (cbody (cbody (cr (cl (cr C14))))) Q 40 [(0, .pointer (some ⟨b0, 0, none⟩)), (1, .int .i64 a1), (10, .slice A5 p0.2.2.length c6), (11, .int .i64 (p0.2.2.length : Int)), (12, .int .i64 x12_l1)] w := by
  intro k
  induction k with
  | zero => intro x12_l1 w hS H; exact absurd (show none = some out from H) (by simp)
  | succ k ih =>
    intro x12_l1 w hS H
    unfold colophonref22_Gate_Leave_r0_1.l1 at H
    refine WL.round ?_
    refine WC.seq (by kernel_rfl) ?_
    refine WC.reg [0] (by kernel_rfl) (by kernel_rfl) ?_
    refine WR.runk [0] [] [0, 1, 10, 11, 12, 13] (L' := [(0, .pointer (some ⟨b0, 0, none⟩)), (1, .int .i64 a1), (10, .slice A5 p0.2.2.length c6), (11, .int .i64 (p0.2.2.length : Int)), (12, .int .i64 x12_l1), (13, .bool (decide (x12_l1 < (p0.2.2.length : Int))))]) (w' := w) (by kernel_rfl) ?_
    refine WR.nil ?_
    refine At.go ?_
    refine WC.seq (by kernel_rfl) ?_
    refine WC.cond (by kernel_rfl) (decide (x12_l1 < (p0.2.2.length : Int))) (by kernel_rfl) (by kernel_rfl) (fun hb7 => ?_) (fun hb7 => ?_)
    · replace H := ite_t H hb7
      refine WC.skip (by kernel_rfl) ?_
      refine At.go ?_
      refine WC.seq (by kernel_rfl) ?_
      refine WC.block (by kernel_rfl) ?_
      refine WC.seq (by kernel_rfl) ?_
      refine WC.reg [0, 1, 2, 3, 4] (by kernel_rfl) (by kernel_rfl) ?_
      refine WR.runk [0] [1, 2, 3, 4] [0, 1, 10, 11, 12, 14] (L' := [(0, .pointer (some ⟨b0, 0, none⟩)), (1, .int .i64 a1), (10, .slice A5 p0.2.2.length c6), (11, .int .i64 (p0.2.2.length : Int)), (12, .int .i64 x12_l1), (14, .int .i64 x12_l1)]) (w' := w) (by kernel_rfl) ?_
      obtain ⟨v8, e9, H⟩ := bind_ex H
      refine WR.st (St.ofP (PSt.idx (k := .i64) (.tmp 10) (.tmp 12) (by kernel_rfl) (by kernel_rfl) E23 (by kernel_rfl) (by kernel_rfl) (Sat.rdAt 0 hS rfl) e9 ?_))
      refine WR.runk [] [2, 3, 4] [0, 1, 10, 11, 12, 14, 15] (L' := [(0, .pointer (some ⟨b0, 0, none⟩)), (1, .int .i64 a1), (10, .slice A5 p0.2.2.length c6), (11, .int .i64 (p0.2.2.length : Int)), (12, .int .i64 x12_l1), (14, .int .i64 x12_l1), (15, .pointer (some (adr A5 x12_l1.toNat 1)))]) (w' := w) (by kernel_rfl) ?_
      refine WR.st (St.ofR (RSt.loadInt (t := 3) (.tmp 15) (by kernel_rfl) (by kernel_rfl) (by kernel_rfl) (by kernel_rfl) (Sat.rdAt 0 hS rfl) e9 ?_))
      refine WR.runk [3, 4] [] [0, 1, 5, 6, 10, 11, 12] (L' := [(0, .pointer (some ⟨b0, 0, none⟩)), (1, .int .i64 a1), (5, .int .i64 x12_l1), (6, .int .i64 v8), (10, .slice A5 p0.2.2.length c6), (11, .int .i64 (p0.2.2.length : Int)), (12, .int .i64 x12_l1)]) (w' := w) (by kernel_rfl) ?_
      refine WR.nil ?_
      refine At.go ?_
      refine WC.seq (by kernel_rfl) ?_
      refine WC.reg [0, 1, 2] (by kernel_rfl) (by kernel_rfl) ?_
      refine WR.runk [0, 1, 2] [] [0, 1, 5, 10, 11, 12, 19] (L' := [(0, .pointer (some ⟨b0, 0, none⟩)), (1, .int .i64 a1), (5, .int .i64 x12_l1), (10, .slice A5 p0.2.2.length c6), (11, .int .i64 (p0.2.2.length : Int)), (12, .int .i64 x12_l1), (19, .bool (v8 == a1))]) (w' := w) (by kernel_rfl) ?_
      refine WR.nil ?_
      refine At.go ?_
      refine WC.cond (by kernel_rfl) (v8 == a1) (by kernel_rfl) (by kernel_rfl) (fun hb10 => ?_) (fun hb10 => ?_)
      · replace H := ite_t H hb10
        refine WC.seq (by kernel_rfl) ?_
        refine WC.drawn (by kernel_rfl) (by kernel_rfl) 20 (by kernel_rfl) (fun w11 hw12 => ?_)
        have hS := hS.heap hw12.1 hw12.2
        refine WD.weaken [0, 5] (L' := [(0, .pointer (some ⟨b0, 0, none⟩)), (5, .int .i64 x12_l1)]) (by kernel_rfl) ?_
        refine WD.pure (i := 0) (v := .pointer (some ⟨b0, 0, none⟩)) (by kernel_rfl) (by kernel_rfl) (fun _ => by kernel_rfl) ?_
        refine WD.weaken [0, 5, 20] (L' := [(0, .pointer (some ⟨b0, 0, none⟩)), (5, .int .i64 x12_l1), (20, .pointer (some ⟨b0, 0, none⟩))]) (by kernel_rfl) ?_
        refine WD.pure (i := 2) (v := .pointer (some ⟨b0, 0, none⟩)) (by kernel_rfl) (by kernel_rfl) (fun _ => by kernel_rfl) ?_
        refine WD.weaken [0, 5, 20, 22] (L' := [(0, .pointer (some ⟨b0, 0, none⟩)), (5, .int .i64 x12_l1), (20, .pointer (some ⟨b0, 0, none⟩)), (22, .pointer (some ⟨b0, 0, none⟩))]) (by kernel_rfl) ?_
        refine WD.pure (i := 3) (v := .pointer (some ⟨b0, 0, none⟩)) (by kernel_rfl) (by kernel_rfl) (fun _ => by kernel_rfl) ?_
        refine WD.weaken [0, 5, 20, 23] (L' := [(0, .pointer (some ⟨b0, 0, none⟩)), (5, .int .i64 x12_l1), (20, .pointer (some ⟨b0, 0, none⟩)), (23, .pointer (some ⟨b0, 0, none⟩))]) (by kernel_rfl) ?_
        refine WD.pure (i := 4) (v := .pointer (some ⟨b0, 2, none⟩)) (by kernel_rfl) (by kernel_rfl) (fun _ => by kernel_rfl) ?_
        refine WD.weaken [0, 5, 20, 24] (L' := [(0, .pointer (some ⟨b0, 0, none⟩)), (5, .int .i64 x12_l1), (20, .pointer (some ⟨b0, 0, none⟩)), (24, .pointer (some ⟨b0, 2, none⟩))]) (by kernel_rfl) ?_
        refine WD.ofR (i := 5) (by kernel_rfl) (RSt.loadObj (t := 23) (k := 2) (v := .slice A5 p0.2.2.length c6) (.tmp 24) (by kernel_rfl) (by kernel_rfl) (by kernel_rfl) 1 hS rfl (by kernel_rfl) rfl ?_)
        refine WD.weaken [0, 5, 20, 25] (L' := [(0, .pointer (some ⟨b0, 0, none⟩)), (5, .int .i64 x12_l1), (20, .pointer (some ⟨b0, 0, none⟩)), (25, .slice A5 p0.2.2.length c6)]) (by kernel_rfl) ?_
        refine WD.pure (i := 6) (v := .int .i64 x12_l1) (by kernel_rfl) (by kernel_rfl) (fun _ => by kernel_rfl) ?_
        refine WD.weaken [0, 5, 20, 25, 26] (L' := [(0, .pointer (some ⟨b0, 0, none⟩)), (5, .int .i64 x12_l1), (20, .pointer (some ⟨b0, 0, none⟩)), (25, .slice A5 p0.2.2.length c6), (26, .int .i64 x12_l1)]) (by kernel_rfl) ?_
        obtain ⟨y13, e14, H⟩ := bind_ex H
        refine WD.ofP (i := 7) (by kernel_rfl) (PSt.sub (A := A5) (c := c6) (.tmp 25) none (some (.tmp 26)) none (by kernel_rfl) (by kernel_rfl) E23 (by kernel_rfl) (Sat.rdAt 0 hS rfl).1 e14 rfl (Exists.intro IntKind.i64 (by kernel_rfl)) trivial (fun A15 c16 T17 => ?_))
        refine WD.weaken [0, 5, 20, 27] (L' := [(0, .pointer (some ⟨b0, 0, none⟩)), (5, .int .i64 x12_l1), (20, .pointer (some ⟨b0, 0, none⟩)), (27, .slice A15 y13.length c16)]) (by kernel_rfl) ?_
        refine WD.pure (i := 9) (v := .pointer (some ⟨b0, 0, none⟩)) (by kernel_rfl) (by kernel_rfl) (fun _ => by kernel_rfl) ?_
        refine WD.weaken [5, 20, 27, 29] (L' := [(5, .int .i64 x12_l1), (20, .pointer (some ⟨b0, 0, none⟩)), (27, .slice A15 y13.length c16), (29, .pointer (some ⟨b0, 0, none⟩))]) (by kernel_rfl) ?_
        refine WD.pure (i := 10) (v := .pointer (some ⟨b0, 0, none⟩)) (by kernel_rfl) (by kernel_rfl) (fun _ => by kernel_rfl) ?_
        refine WD.weaken [5, 20, 27, 30] (L' := [(5, .int .i64 x12_l1), (20, .pointer (some ⟨b0, 0, none⟩)), (27, .slice A15 y13.length c16), (30, .pointer (some ⟨b0, 0, none⟩))]) (by kernel_rfl) ?_
        refine WD.pure (i := 11) (v := .pointer (some ⟨b0, 2, none⟩)) (by kernel_rfl) (by kernel_rfl) (fun _ => by kernel_rfl) ?_
        refine WD.weaken [5, 20, 27, 31] (L' := [(5, .int .i64 x12_l1), (20, .pointer (some ⟨b0, 0, none⟩)), (27, .slice A15 y13.length c16), (31, .pointer (some ⟨b0, 2, none⟩))]) (by kernel_rfl) ?_
        refine WD.ofR (i := 12) (by kernel_rfl) (RSt.loadObj (t := 23) (k := 2) (v := .slice A5 p0.2.2.length c6) (.tmp 31) (by kernel_rfl) (by kernel_rfl) (by kernel_rfl) 1 hS rfl (by kernel_rfl) rfl ?_)
        refine WD.weaken [5, 20, 27, 32] (L' := [(5, .int .i64 x12_l1), (20, .pointer (some ⟨b0, 0, none⟩)), (27, .slice A15 y13.length c16), (32, .slice A5 p0.2.2.length c6)]) (by kernel_rfl) ?_
        refine WD.pure (i := 13) (v := .int .i64 x12_l1) (by kernel_rfl) (by kernel_rfl) (fun _ => by kernel_rfl) ?_
        refine WD.weaken [20, 27, 32, 33] (L' := [(20, .pointer (some ⟨b0, 0, none⟩)), (27, .slice A15 y13.length c16), (32, .slice A5 p0.2.2.length c6), (33, .int .i64 x12_l1)]) (by kernel_rfl) ?_
        refine WD.pure (i := 14) (v := .int .i64 (wi (x12_l1 + 1))) (by kernel_rfl) (by kernel_rfl) (fun _ => by kernel_rfl) ?_
        refine WD.weaken [20, 27, 32, 34] (L' := [(20, .pointer (some ⟨b0, 0, none⟩)), (27, .slice A15 y13.length c16), (32, .slice A5 p0.2.2.length c6), (34, .int .i64 (wi (x12_l1 + 1)))]) (by kernel_rfl) ?_
        obtain ⟨y18, e19, H⟩ := bind_ex H
        refine WD.ofP (i := 15) (by kernel_rfl) (PSt.sub (A := A5) (c := c6) (.tmp 32) (some (.tmp 34)) none none (by kernel_rfl) (by kernel_rfl) E23 (by kernel_rfl) (Sat.rdAt 0 hS rfl).1 e19 (Exists.intro IntKind.i64 (by kernel_rfl)) ⟨rfl, rfl⟩ trivial (fun A20 c21 T22 => ?_))
        refine WD.weaken [20, 27, 35] (L' := [(20, .pointer (some ⟨b0, 0, none⟩)), (27, .slice A15 y13.length c16), (35, .slice A20 y18.length c21)]) (by kernel_rfl) ?_
        refine WD.act (i := 1) (by kernel_rfl) (St.box hS (by kernel_rfl) (.cells #[] 3) (fun b23 => .slice (some ⟨b23, 0, none⟩) 0 0) (fun _ => by kernel_rfl) (fun b23 w24 hS => ?_))
        refine ⟨(asked.cons (RSt.run (n := 40) (RSt.loadObj (t := 23) (k := 2) (v := .slice A5 p0.2.2.length c6) (.tmp 31) (by kernel_rfl) (by kernel_rfl) (by kernel_rfl) 2 hS rfl (by kernel_rfl) rfl rfl)) (asked.cons (RSt.run (n := 40) (RSt.loadObj (t := 23) (k := 2) (v := .slice A5 p0.2.2.length c6) (.tmp 24) (by kernel_rfl) (by kernel_rfl) (by kernel_rfl) 2 hS rfl (by kernel_rfl) rfl rfl)) (asked.nil _ _))), ?_⟩
        refine WD.weaken [20, 21, 27, 35] (L' := [(20, .pointer (some ⟨b0, 0, none⟩)), (21, .slice (some ⟨b23, 0, none⟩) 0 0), (27, .slice A15 y13.length c16), (35, .slice A20 y18.length c21)]) (by kernel_rfl) ?_
        have hS : Sat w24 B [osl 3 (r0 (.int .i64)) 1 (some ⟨b23, 0, none⟩) (([] : List Int) : List Int).length (([] : List Int) : List Int), osl 3 (r0 (.int .i64)) 1 A5 c6 p0.2.2, pts b0 (.cells #[.int .i64 p0.1, .slice A1 p0.2.1.length c2, .slice A5 p0.2.2.length c6] 42 (0, 0))] := Sat.toOsl' (r0 (.int .i64)) 1 (([] : List Int) : List Int) hS rfl (rdL.nil _ _)
        obtain ⟨y26, e25, H⟩ := bind_ex H
        refine WD.act (i := 8) (by kernel_rfl) (St.append' (.tmp 21) (.tmp 27) (by kernel_rfl) (by kernel_rfl) E23 (r0_one _) hS (by kernel_rfl) (by kernel_rfl) (T17.rd _ _ (Sat.rdAt 1 hS rfl)) 17592186044416 (by kernel_rfl) (by kernel_rfl) e25 (fun A27 c28 w29 hS => ?_))
        refine ⟨(asked.cons (RSt.run (n := 40) (RSt.loadObj (t := 23) (k := 2) (v := .slice A5 p0.2.2.length c6) (.tmp 31) (by kernel_rfl) (by kernel_rfl) (by kernel_rfl) 2 hS rfl (by kernel_rfl) rfl rfl)) (asked.anc (by kernel_rfl) (asked.nil _ _))), ?_⟩
        refine WD.weaken [20, 28, 35] (L' := [(20, .pointer (some ⟨b0, 0, none⟩)), (28, .slice A27 y26.length c28), (35, .slice A20 y18.length c21)]) (by kernel_rfl) ?_
        obtain ⟨y31, e30, H⟩ := bind_ex H
        refine WD.act (i := 16) (by kernel_rfl) (St.append' (.tmp 28) (.tmp 35) (by kernel_rfl) (by kernel_rfl) E23 (r0_one _) hS (by kernel_rfl) (by kernel_rfl) (T22.rd _ _ (Sat.rdAt 1 hS rfl)) 17592186044416 (by kernel_rfl) (by kernel_rfl) e30 (fun A32 c33 w34 hS => ?_))
        refine ⟨(asked.anc (by kernel_rfl) (asked.anc (by kernel_rfl) (asked.nil _ _))), ?_⟩
        refine WD.weaken [20, 36] (L' := [(20, .pointer (some ⟨b0, 0, none⟩)), (36, .slice A32 y31.length c33)]) (by kernel_rfl) ?_
        refine WD.pure (i := 17) (v := .pointer (some ⟨b0, 0, none⟩)) (by kernel_rfl) (by kernel_rfl) (fun _ => by kernel_rfl) ?_
        refine WD.weaken [36, 37] (L' := [(36, .slice A32 y31.length c33), (37, .pointer (some ⟨b0, 0, none⟩))]) (by kernel_rfl) ?_
        refine WD.pure (i := 18) (v := .pointer (some ⟨b0, 2, none⟩)) (by kernel_rfl) (by kernel_rfl) (fun _ => by kernel_rfl) ?_
        refine WD.weaken [36, 38] (L' := [(36, .slice A32 y31.length c33), (38, .pointer (some ⟨b0, 2, none⟩))]) (by kernel_rfl) ?_
        have hS : Sat w34 B [pts b0 (.cells #[.int .i64 p0.1, .slice A1 p0.2.1.length c2, .slice A5 p0.2.2.length c6] 42 (0, 0)), osl 3 (r0 (.int .i64)) 1 A32 c33 y31, osl 3 (r0 (.int .i64)) 1 A5 c6 p0.2.2] := hS.sel [2, 0, 1] (by kernel_rfl)
        refine WD.act (i := 19) (by kernel_rfl) (St.storeObj (t := 23) (k := 2) (cur' := #[.int .i64 p0.1, .slice A1 p0.2.1.length c2, .slice A32 y31.length c33]) (.tmp 38) (.tmp 36) (by kernel_rfl) (by kernel_rfl) (by kernel_rfl) hS (by kernel_rfl) (by kernel_rfl) (by kernel_rfl) rfl rfl (fun w35 hS => ?_))
        refine ⟨(asked.anc (by kernel_rfl) (asked.anc (by kernel_rfl) (asked.nil _ _))), ?_⟩
        refine WD.weaken [] (L' := []) (by kernel_rfl) ?_
        refine WD.nil (by kernel_rfl) ?_
        refine At.go ?_
        refine WC.seq (by kernel_rfl) ?_
        refine WC.reg [0] (by kernel_rfl) (by kernel_rfl) ?_
        refine WR.runk [0] [] [4] (L' := [(4, .bool true)]) (w' := w35) (by kernel_rfl) ?_
        refine WR.nil ?_
        refine At.go ?_
        refine WC.ret (by kernel_rfl) ?_
        refine At.blockRet ?_
        refine At.thenRet ?_
        refine At.thenRet ?_
        obtain rfl := Option.some.inj H
        have hS : Sat w35 B [pts b0 (.cells #[.int .i64 p0.1, .slice A1 p0.2.1.length c2, .slice A32 y31.length c33] 42 (0, 0)), osl 3 (r0 (.int .i64)) 1 A32 c33 y31] := hS.sel [0, 1] (by kernel_rfl)
        refine At.weaken [4] (L' := [(4, .bool true)]) (by kernel_rfl) ?_
        exact hn0 (true, y31) A32 c33 _ rfl hS
      · replace H := ite_f H hb10
        refine WC.skip (by kernel_rfl) ?_
        refine At.blockNormal ?_
        refine At.go ?_
        refine WC.reg [0, 1] (by kernel_rfl) (by kernel_rfl) ?_
        refine WR.runk [0, 1] [] [0, 1, 10, 11, 12] (L' := [(0, .pointer (some ⟨b0, 0, none⟩)), (1, .int .i64 a1), (10, .slice A5 p0.2.2.length c6), (11, .int .i64 (p0.2.2.length : Int)), (12, .int .i64 (wi (x12_l1 + 1)))]) (w' := w) (by kernel_rfl) ?_
        refine WR.nil ?_
        have hS : Sat w B [osl 3 (r0 (.int .i64)) 1 A5 c6 p0.2.2, pts b0 (.cells #[.int .i64 p0.1, .slice A1 p0.2.1.length c2, .slice A5 p0.2.2.length c6] 42 (0, 0))] := hS.sel [0, 1] (by kernel_rfl)
        refine At.again ?_
        refine WL.weaken [0, 1, 10, 11, 12] (L' := [(0, .pointer (some ⟨b0, 0, none⟩)), (1, .int .i64 a1), (10, .slice A5 p0.2.2.length c6), (11, .int .i64 (p0.2.2.length : Int)), (12, .int .i64 (wi (x12_l1 + 1)))]) (by kernel_rfl) ?_
        exact ih (wi (x12_l1 + 1)) _ hS H
    · replace H := ite_f H hb7
      refine WC.exit (by kernel_rfl) ?_
      refine At.thenExit ?_
      refine At.thenExit ?_
      obtain rfl := Option.some.inj H
      have hS : Sat w B [pts b0 (.cells #[.int .i64 p0.1, .slice A1 p0.2.1.length c2, .slice A5 p0.2.2.length c6] 42 (0, 0)), osl 3 (r0 (.int .i64)) 1 A5 c6 p0.2.2] := hS.sel [1, 0] (by kernel_rfl)
      refine At.weaken [] (L' := []) (by kernel_rfl) ?_
      exact hn1 () _ rfl hS
theorem colophonref22_Gate_Leave_r0_1.calls (B : Rf) (w0 : World) (b0 : Nat) (p0 : Int × (List (Int × Int)) × (List Int)) (G0 : Heap) (hG0 : Sub G0 B.heap) (hS : Sat w0 B [O42r1 G0 b0 p0]) (a1 : Int) (r : Bool × (Int × (List (Int × Int)) × (List Int))) (H : colophonref22_Gate_Leave_r0_1.f p0 a1 = some r) :
    Calls Try.prog 14 #[.pointer (some ⟨b0, 0, none⟩), .int .i64 a1] w0 (fun e w' => ∃ v, e = .returned v ∧ colophonref22_Gate_Leave_r0_1.post B b0 p0 G0 w0 r v w') := by
  unfold colophonref22_Gate_Leave_r0_1.f at H
  refine calls_of_WC (vs := [.pointer (some ⟨b0, 0, none⟩), .int .i64 a1]) Try.func14 (c := C14) (n := 40) (by kernel_rfl) (by kernel_rfl) (by kernel_rfl) ?_
  refine WC.seq (by kernel_rfl) ?_
  refine WC.reg [0] (by kernel_rfl) (by kernel_rfl) ?_
  refine WR.runk [0] [] [0, 1] (L' := [(0, .pointer (some ⟨b0, 0, none⟩)), (1, .int .i64 a1)]) (w' := w0) (by kernel_rfl) ?_
  refine WR.nil ?_
  refine At.go ?_
  refine WC.seq (by kernel_rfl) ?_
  refine WC.seq (by kernel_rfl) ?_
  refine WC.reg [0, 1, 2, 3, 4, 5] (by kernel_rfl) (by kernel_rfl) ?_
  refine WR.runk [0, 1, 2] [3, 4, 5] [0, 1, 9] (L' := [(0, .pointer (some ⟨b0, 0, none⟩)), (1, .int .i64 a1), (9, .pointer (some ⟨b0, 2, none⟩))]) (w' := w0) (by kernel_rfl) ?_
  obtain ⟨A1, c2, A5, c6, R3, hS⟩ := O42r1.open hS
  replace R3 : rdS (r0 (.pair (.int .i64) (.int .i64))) 2 G0 A1 c2 p0.2.1 := R3
  have R4 : rdS (r0 (.pair (.int .i64) (.int .i64))) 2 B.heap A1 c2 p0.2.1 := rdS.up R3 hG0
  have hS : Sat w0 B [pts b0 (.cells #[.int .i64 p0.1, .slice A1 p0.2.1.length c2, .slice A5 p0.2.2.length c6] 42 (0, 0)), osl 3 (r0 (.int .i64)) 1 A5 c6 p0.2.2] := hS
  refine WR.st (St.ofR (RSt.loadObj (t := 23) (k := 2) (v := .slice A5 p0.2.2.length c6) (.tmp 9) (by kernel_rfl) (by kernel_rfl) (by kernel_rfl) 0 hS rfl (by kernel_rfl) rfl ?_))
  refine WR.runk [4, 5] [] [0, 1, 10, 11, 12] (L' := [(0, .pointer (some ⟨b0, 0, none⟩)), (1, .int .i64 a1), (10, .slice A5 p0.2.2.length c6), (11, .int .i64 (p0.2.2.length : Int)), (12, .int .i64 0)]) (w' := w0) (by kernel_rfl) ?_
  refine WR.nil ?_
  refine At.go ?_
  refine WC.block (by kernel_rfl) ?_
  have hS : Sat w0 B [osl 3 (r0 (.int .i64)) 1 A5 c6 p0.2.2, pts b0 (.cells #[.int .i64 p0.1, .slice A1 p0.2.1.length c2, .slice A5 p0.2.2.length c6] 42 (0, 0))] := hS.sel [1, 0] (by kernel_rfl)
  obtain ⟨o36, e37, H⟩ := bind_ex H
  refine WC.loop (by kernel_rfl) ?_
  refine WL.weaken [0, 1, 10, 11, 12] (L' := [(0, .pointer (some ⟨b0, 0, none⟩)), (1, .int .i64 a1), (10, .slice A5 p0.2.2.length c6), (11, .int .i64 (p0.2.2.length : Int)), (12, .int .i64 0)]) (by kernel_rfl) ?_
  refine colophonref22_Gate_Leave_r0_1.l1_ok B b0 p0 a1 A1 c2 A5 c6 o36 (fun o38 Aq0p2_q39 cq0p2_q39 w40 ho41 hS => ?_) (fun o42 w44 ho45 hS => ?_) FU 0 _ hS e37
  · subst ho41
    dsimp only at H
    refine At.blockRet ?_
    refine At.thenRet ?_
    obtain rfl := Option.some.inj H
    have hS : Sat w40 B [pts b0 (.cells #[.int .i64 p0.1, .slice A1 p0.2.1.length c2, .slice Aq0p2_q39 o38.2.length cq0p2_q39] 42 (0, 0)), osl 3 (r0 (.int .i64)) 1 Aq0p2_q39 cq0p2_q39 o38.2] := hS.sel [0, 1] (by kernel_rfl)
    have hS : Sat w40 B [O42r1 G0 b0 (p0.1, p0.2.1, o38.2)] := O42r1.close G0 (p0.1, p0.2.1, o38.2) A1 c2 Aq0p2_q39 cq0p2_q39 R3 hS
    have hS : Sat w40 B [O42r1 G0 b0 (p0.1, p0.2.1, o38.2)] := hS.sel [0] (by kernel_rfl)
    exact At.body [.bool o38.1] (by kernel_rfl) ⟨_, rfl, rfl, hS⟩
  · subst ho45
    dsimp only at H
    refine At.hit ?_
    refine At.go ?_
    refine WC.seq (by kernel_rfl) ?_
    refine WC.reg [0] (by kernel_rfl) (by kernel_rfl) ?_
    refine WR.runk [0] [] [4] (L' := [(4, .bool false)]) (w' := w44) (by kernel_rfl) ?_
    refine WR.nil ?_
    refine At.go ?_
    refine WC.ret (by kernel_rfl) ?_
    obtain rfl := Option.some.inj H
    have hS : Sat w44 B [pts b0 (.cells #[.int .i64 p0.1, .slice A1 p0.2.1.length c2, .slice A5 p0.2.2.length c6] 42 (0, 0)), osl 3 (r0 (.int .i64)) 1 A5 c6 p0.2.2] := hS.sel [0, 1] (by kernel_rfl)
    have hS : Sat w44 B [O42r1 G0 b0 p0] := O42r1.close G0 p0 A1 c2 A5 c6 R3 hS
    have hS : Sat w44 B [O42r1 G0 b0 p0] := hS.sel [0] (by kernel_rfl)
    exact At.body [.bool false] (by kernel_rfl) ⟨_, rfl, rfl, hS⟩
end Go.Proofs.Ythlbebgmphnniaa
