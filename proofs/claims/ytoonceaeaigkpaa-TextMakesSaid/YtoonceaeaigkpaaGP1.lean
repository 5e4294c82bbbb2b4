/-
  Printed by gen.py (my own tool): for each Go function a plain Lean function and the proof that a call of it does what that function says.
-/
import Derived.Test.YtoonceaeaigkpaaProg
import Derived.Test.YtoonceaeaigkpaaGY
import Derived.Test.YtoonceaeaigkpaaGM
set_option linter.unusedVariables false
set_option linter.unusedSimpArgs false
set_option maxRecDepth 100000
namespace Go.Proofs.Ytoonceaeaigkpaa
open Go Go.Gol
theorem E22 : ElemInfo Try.prog 22 24 1 24 := ElemInfo.mk' (.slice none 0 0) (by kernel_rfl) (by kernel_rfl) rfl
theorem E30 : ElemInfo Try.prog 30 3 1 8 := ElemInfo.mk' (.int .i64 0) (by kernel_rfl) (by kernel_rfl) rfl
theorem E24 : ElemInfo Try.prog 24 5 1 1 := ElemInfo.mk' (.int .u8 0) (by kernel_rfl) (by kernel_rfl) rfl
noncomputable abbrev C22 : Code := Try.f22.body.getD .skip
noncomputable abbrev C8 : Code := Try.f8.body.getD .skip
noncomputable abbrev C12 : Code := Try.f12.body.getD .skip
noncomputable abbrev C24 : Code := Try.f24.body.getD .skip
noncomputable abbrev C25 : Code := Try.f25.body.getD .skip
noncomputable abbrev C23 : Code := Try.f23.body.getD .skip
noncomputable abbrev C16 : Code := Try.f16.body.getD .skip
noncomputable abbrev C11 : Code := Try.f11.body.getD .skip
noncomputable abbrev C21 : Code := Try.f21.body.getD .skip
noncomputable abbrev C15 : Code := Try.f15.body.getD .skip
noncomputable abbrev C14 : Code := Try.f14.body.getD .skip
noncomputable abbrev C13 : Code := Try.f13.body.getD .skip
noncomputable abbrev C18 : Code := Try.f18.body.getD .skip
noncomputable abbrev C19 : Code := Try.f19.body.getD .skip
noncomputable abbrev C7 : Code := Try.f7.body.getD .skip
noncomputable abbrev C9 : Code := Try.f9.body.getD .skip
noncomputable abbrev C10 : Code := Try.f10.body.getD .skip
noncomputable abbrev C17 : Code := Try.f17.body.getD .skip
noncomputable abbrev C3 : Code := Try.f3.body.getD .skip
def O45 (b : Nat) (x : (List (List Int)) × (List Int) × Int) : HP := fun H => ∃ a : (Option Addr × Nat) × (Option Addr × Nat), SepL [pts b (.cells #[.slice a.1.1 x.1.length a.1.2, .slice a.2.1 x.2.1.length a.2.2, .int .i64 x.2.2] 45 (0, 0)), orw 24 (Esl 5 (.int .u8)) 1 a.1.1 a.1.2 x.1, osl 3 (r0 (.int .i64)) 1 a.2.1 a.2.2 x.2.1] H
theorem O45.open {w : World} {B : Rf} {cs : List HP} {b : Nat} {x : (List (List Int)) × (List Int) × Int} (h : Sat w B (O45 b x :: cs)) : ∃ (A0 : Option Addr) (c0 : Nat) (A1 : Option Addr) (c1 : Nat), Sat w B ([pts b (.cells #[.slice A0 x.1.length c0, .slice A1 x.2.1.length c1, .int .i64 x.2.2] 45 (0, 0)), orw 24 (Esl 5 (.int .u8)) 1 A0 c0 x.1, osl 3 (r0 (.int .i64)) 1 A1 c1 x.2.1] ++ cs) := by
  obtain ⟨a, h⟩ := Sat.ex h
  exact ⟨a.1.1, a.1.2, a.2.1, a.2.2, Sat.op h⟩
theorem O45.close {w : World} {B : Rf} {cs : List HP} {b : Nat} (x : (List (List Int)) × (List Int) × Int) (A0 : Option Addr) (c0 : Nat) (A1 : Option Addr) (c1 : Nat) (h : Sat w B ([pts b (.cells #[.slice A0 x.1.length c0, .slice A1 x.2.1.length c1, .int .i64 x.2.2] 45 (0, 0)), orw 24 (Esl 5 (.int .u8)) 1 A0 c0 x.1, osl 3 (r0 (.int .i64)) 1 A1 c1 x.2.1] ++ cs)) : Sat w B (O45 b x :: cs) := Sat.mono1 (c := SepL [pts b (.cells #[.slice A0 x.1.length c0, .slice A1 x.2.1.length c1, .int .i64 x.2.2] 45 (0, 0)), orw 24 (Esl 5 (.int .u8)) 1 A0 c0 x.1, osl 3 (r0 (.int .i64)) 1 A1 c1 x.2.1]) (fun H h => ⟨((A0, c0), (A1, c1)), h⟩) (Sat.cl _ h)
theorem P45.open {H : Heap} {v : Value} {o : Option ((List (List Int)) × (List Int) × Int)} (h : Gol.rd H (.ptr 45 (.pair (.slice 24 (.slice 5 (.int .u8))) (.pair (.slice 3 (.int .i64)) (.int .i64)))) [v] o) {y : (List (List Int)) × (List Int) × Int} (e : o = some y) : ∃ (b : Nat) (fr : Nat × Nat) (A0 : Option Addr) (c0 : Nat) (A1 : Option Addr) (c1 : Nat), v = .pointer (some ⟨b, 0, none⟩) ∧ H b = some (.cells #[.slice A0 y.1.length c0, .slice A1 y.2.1.length c1, .int .i64 y.2.2] 45 fr) ∧ rdS (Gol.rd H (.slice 5 (.int .u8))) 1 H A0 c0 y.1 ∧ rdS (r0 (.int .i64)) 1 H A1 c1 y.2.1 := by
  obtain ⟨b, cells, fr, hv, hb, hr⟩ := rd_ptr_some h e
  obtain ⟨_, _, e0, g0, ⟨A0, c0, z0, R0⟩, ⟨_, _, e1, g1, ⟨A1, c1, z1, R1⟩, z2⟩⟩ := hr
  have z0' := z0; replace z0' : _ = ([.slice A0 y.1.length c0] : List Value) := z0'
  have z1' := z1; replace z1' : _ = ([.slice A1 y.2.1.length c1] : List Value) := z1'
  have z2' := z2; replace z2' : _ = ([.int .i64 y.2.2] : List Value) := z2'
  have hc : cells = #[.slice A0 y.1.length c0, .slice A1 y.2.1.length c1, .int .i64 y.2.2] := by apply Array.ext'; rw [e0, z0', e1, z1', z2']; rfl
  subst hc
  exact ⟨b, fr, A0, c0, A1, c1, hv, hb, R0, R1⟩
theorem P45.mk {H : Heap} {b : Nat} {fr : Nat × Nat} {y : (List (List Int)) × (List Int) × Int} {A0 : Option Addr} {c0 : Nat} {A1 : Option Addr} {c1 : Nat} (hb : H b = some (.cells #[.slice A0 y.1.length c0, .slice A1 y.2.1.length c1, .int .i64 y.2.2] 45 fr)) (R0 : rdS (Gol.rd H (.slice 5 (.int .u8))) 1 H A0 c0 y.1) (R1 : rdS (r0 (.int .i64)) 1 H A1 c1 y.2.1) : Gol.rd H (.ptr 45 (.pair (.slice 24 (.slice 5 (.int .u8))) (.pair (.slice 3 (.int .i64)) (.int .i64)))) [.pointer (some ⟨b, 0, none⟩)] (some y) := ⟨b, _, fr, rfl, hb, ⟨[.slice A0 y.1.length c0], [.slice A1 y.2.1.length c1, .int .i64 y.2.2], rfl, rfl, ⟨A0, c0, rfl, R0⟩, ⟨[.slice A1 y.2.1.length c1], [.int .i64 y.2.2], rfl, rfl, ⟨A1, c1, rfl, (rdS.r0up R1)⟩, rfl⟩⟩⟩
theorem O45.rd (b : Nat) (x : (List (List Int)) × (List Int) × Int) (H : Heap) (h : O45 b x H) : Gol.rd H (.ptr 45 (.pair (.slice 24 (.slice 5 (.int .u8))) (.pair (.slice 3 (.int .i64)) (.int .i64)))) [.pointer (some ⟨b, 0, none⟩)] (some x) := by
  obtain ⟨a, h⟩ := h
  exact P45.mk (SepL.blockAt 0 h rfl) (SepL.rdAnyS 1 h rfl (fun _ h => orw.rdS (κ := (.slice 5 (.int .u8))) (Esl.rd (e := 5) (κ := (.int .u8))) h)) (SepL.rdAt 2 h rfl)
/-! ### 22 slices.Clone[[]byte,byte] -/
def slices_Clone.f (l0 : List Int) : Option (List Int) := ((app? 140737488355328 (([] : List Int) : List Int) l0).bind fun y5 => some y5)
def slices_Clone.post (w : World) (r : (List Int)) (v : Value) (w' : World) : Prop := ∃ (A0' : Option Addr) (c0' : Nat), v = (.slice A0' r.length c0' : Value) ∧ Sat w' (rf w) [osl 5 (r0 (.int .u8)) 1 A0' c0' r]
theorem slices_Clone.calls (w0 : World) (A0 : Option Addr) (c0 : Nat) (l0 : List Int) (R0 : rdS (r0 (.int .u8)) 1 (hp w0) A0 c0 l0) (r : (List Int)) (H : slices_Clone.f l0 = some r) :
    Calls Try.prog 22 #[.slice A0 l0.length c0] w0 (fun e w' => ∃ v, e = .returned v ∧ slices_Clone.post w0 r v w') := by
  have hS : Sat w0 (rf w0) [] := Sat.start w0
  unfold slices_Clone.f at H
  refine calls_of_WC (vs := [.slice A0 l0.length c0]) Try.func22 (c := C22) (n := 8) (by kernel_rfl) (by kernel_rfl) (by kernel_rfl) ?_
  refine WC.seq (by kernel_rfl) ?_
  refine WC.reg [0] (by kernel_rfl) (by kernel_rfl) ?_
  refine WR.runk [0] [] [0] (L' := [(0, .slice A0 l0.length c0)]) (w' := w0) (by kernel_rfl) ?_
  refine WR.nil ?_
  refine At.go ?_
  refine WC.seq (by kernel_rfl) ?_
  refine WC.seq (by kernel_rfl) ?_
  refine WC.reg [0, 1] (by kernel_rfl) (by kernel_rfl) ?_
  refine WR.runk [0] [1] [0, 3] (L' := [(0, .slice A0 l0.length c0), (3, .slice A0 l0.length c0)]) (w' := w0) (by kernel_rfl) ?_
  refine WR.st (St.ofP (PSt.eqNil (t := 24) (t2 := 24) (e := 5) (A := A0) (m := l0.length) (c := c0) .eql (by decide) (.tmp 3) (by kernel_rfl) (by kernel_rfl) (by kernel_rfl) (by kernel_rfl) ?_))
  refine WR.runk [] [] [0, 4] (L' := [(0, .slice A0 l0.length c0), (4, .bool A0.isNone)]) (w' := w0) (by kernel_rfl) ?_
  refine WR.nil ?_
  refine At.go ?_
  refine WC.cond (by kernel_rfl) A0.isNone (by kernel_rfl) (by kernel_rfl) (fun hb1 => ?_) (fun hb1 => ?_)
  · have hnl := rdS.isNone (rdS.up R0 hS.sub0) (by simpa using hb1)
    rw [hnl] at H
    refine WC.seq (by kernel_rfl) ?_
    refine WC.reg [0] (by kernel_rfl) (by kernel_rfl) ?_
    refine WR.runk [0] [] [2] (L' := [(2, .slice none 0 0)]) (w' := w0) (by kernel_rfl) ?_
    refine WR.nil ?_
    refine At.go ?_
    refine WC.ret (by kernel_rfl) ?_
    refine At.thenRet ?_
    obtain rfl := Option.some.inj (show some ([] : List Int) = some r from H)
    have hS := hS.addNil (α := Int) 5 (r0 (.int .u8)) 1
    have hS : Sat w0 (rf w0) [osl 5 (r0 (.int .u8)) 1 none 0 ([] : List Int)] := hS.sel [0] (by kernel_rfl)
    exact At.body [.slice none 0 0] (by kernel_rfl) ⟨_, rfl, _, _, rfl, hS⟩
  · refine WC.skip (by kernel_rfl) ?_
    refine At.go ?_
    refine WC.seq (by kernel_rfl) ?_
    refine WC.reg [0, 1, 2, 3] (by kernel_rfl) (by kernel_rfl) ?_
    refine WR.runk [] [0, 1, 2, 3] [0] (L' := [(0, .slice A0 l0.length c0)]) (w' := w0) (by kernel_rfl) ?_
    refine WR.st (St.box hS (by kernel_rfl) (.cells #[] 5) (fun b2 => .slice (some ⟨b2, 0, none⟩) 0 0) (fun _ => by kernel_rfl) (fun b2 w3 hS => ?_))
    refine WR.runk [1] [2, 3] [5, 6] (L' := [(5, .slice (some ⟨b2, 0, none⟩) 0 0), (6, .slice A0 l0.length c0)]) (w' := w3) (by kernel_rfl) ?_
    have hS : Sat w3 (rf w0) [osl 5 (r0 (.int .u8)) 1 (some ⟨b2, 0, none⟩) (([] : List Int) : List Int).length (([] : List Int) : List Int)] := Sat.toOsl' (r0 (.int .u8)) 1 (([] : List Int) : List Int) hS rfl (rdL.nil _ _)
    obtain ⟨y5, e4, H⟩ := bind_ex H
    refine WR.st (St.append' (.tmp 5) (.tmp 6) (by kernel_rfl) (by kernel_rfl) E24 (r0_one _) hS (by kernel_rfl) (by kernel_rfl) (rdS.up R0 hS.sub0) 140737488355328 (by kernel_rfl) (by kernel_rfl) e4 (fun A6 c7 w8 hS => ?_))
    refine WR.runk [3] [] [2] (L' := [(2, .slice A6 y5.length c7)]) (w' := w8) (by kernel_rfl) ?_
    refine WR.nil ?_
    refine At.go ?_
    refine WC.ret (by kernel_rfl) ?_
    obtain rfl := Option.some.inj H
    have hS : Sat w8 (rf w0) [osl 5 (r0 (.int .u8)) 1 A6 c7 y5] := hS.sel [0] (by kernel_rfl)
    exact At.body [.slice A6 y5.length c7] (by kernel_rfl) ⟨_, rfl, _, _, rfl, hS⟩
/-! ### 8 colophon/text.New -/
def text_New.l1 (l0 : List (List Int)) : Nat → Int → ((List (List Int)) × (List Int) × Int) → Option (Sum (Int × ((List (List Int)) × (List Int) × Int)) ((List (List Int)) × (List Int) × Int))
  | 0, _, _ => none
  | k + 1, x14_l1, q4_l1 => (if decide (x14_l1 < (l0.length : Int)) then ((at? l0 x14_l1).bind fun v6 => (if decide ((v6.length : Int) > wi (65536 - (wi (q4_l1.2.2 - (q4_l1.1.length : Int))))) then some (.inl (80, q4_l1)) else ((app? 17592186044416 q4_l1.2.1 ([q4_l1.2.2] : List Int)).bind fun y23 => ((slices_Clone.f v6).bind fun r30 => ((app? 5864062014805 q4_l1.1 [r30]).bind fun y44 => text_New.l1 l0 k (wi (x14_l1 + 1)) (y44, y23, wi (q4_l1.2.2 + (wi ((v6.length : Int) + 1))))))))) else some (.inr q4_l1))
def text_New.f (l0 : List (List Int)) : Option ((Option ((List (List Int)) × (List Int) × Int)) × Int) := (if decide ((l0.length : Int) > 256) then some (none, 80) else ((text_New.l1 l0 FU 0 (([] : List (List Int)), ([] : List Int), 0)).bind fun o55 => (match o55 with | .inl o57 => some (none, o57.1) | .inr o61 => some (some o61, 0))))
def text_New.post (w : World) (r : (Option ((List (List Int)) × (List Int) × Int)) × Int) (v : Value) (w' : World) : Prop := ∃ (v0 : Value), v = .tuple #[v0, .int .i64 r.2] ∧ Sat w' (rf w) [optP O45 v0 r.1]
theorem text_New.l1_ok {Q} (w0 : World) (A0 : Option Addr) (c0 : Nat) (l0 : List (List Int)) (b2 : Nat) (R0 : rdS (rd (hp w0) (.slice 5 (.int .u8))) 1 (hp w0) A0 c0 l0) (out : Sum (Int × ((List (List Int)) × (List Int) × Int)) ((List (List Int)) × (List Int) × Int)) (hn0 : ∀ (o0 : Int × ((List (List Int)) × (List Int) × Int)) (w : World), out = (.inl o0) → Sat w (rf w0) [O45 b2 o0.2] → At Q .ret 68 [(2, .pointer none), (3, .int .i64 o0.1)] w) (hn1 : ∀ (o1 : ((List (List Int)) × (List Int) × Int)) (w : World), out = (.inr o1) → Sat w (rf w0) [O45 b2 o1] → At Q (.exit 0) 68 [(4, .pointer (some ⟨b2, 0, none⟩))] w) :
    ∀ (k : Nat) (x14_l1 : Int) (q4_l1 : (List (List Int)) × (List Int) × Int) (w : World), Sat w (rf w0) [O45 b2 q4_l1] → text_New.l1 l0 k x14_l1 q4_l1 = some out → WL Try.prog (cbody (cbody (cr (cl (cr (cr (cr C8))))))) Q 68 [(4, .pointer (some ⟨b2, 0, none⟩)), (12, .slice A0 l0.length c0), (13, .int .i64 (l0.length : Int)), (14, .int .i64 x14_l1)] w := by
  intro k
  induction k with
  | zero => intro x14_l1 q4_l1 w hS H; exact absurd (show none = some out from H) (by simp)
  | succ k ih =>
    intro x14_l1 q4_l1 w hS H
    unfold text_New.l1 at H
    refine WL.round ?_
    refine WC.seq (by kernel_rfl) ?_
    refine WC.reg [0] (by kernel_rfl) (by kernel_rfl) ?_
    refine WR.runk [0] [] [4, 12, 13, 14, 15] (L' := [(4, .pointer (some ⟨b2, 0, none⟩)), (12, .slice A0 l0.length c0), (13, .int .i64 (l0.length : Int)), (14, .int .i64 x14_l1), (15, .bool (decide (x14_l1 < (l0.length : Int))))]) (w' := w) (by kernel_rfl) ?_
    refine WR.nil ?_
    refine At.go ?_
    refine WC.seq (by kernel_rfl) ?_
    refine WC.cond (by kernel_rfl) (decide (x14_l1 < (l0.length : Int))) (by kernel_rfl) (by kernel_rfl) (fun hb5 => ?_) (fun hb5 => ?_)
    · replace H := ite_t H hb5
      refine WC.skip (by kernel_rfl) ?_
      refine At.go ?_
      refine WC.seq (by kernel_rfl) ?_
      refine WC.block (by kernel_rfl) ?_
      refine WC.seq (by kernel_rfl) ?_
      refine WC.reg [0, 1, 2] (by kernel_rfl) (by kernel_rfl) ?_
      refine WR.runk [] [0, 1, 2] [4, 12, 13, 14] (L' := [(4, .pointer (some ⟨b2, 0, none⟩)), (12, .slice A0 l0.length c0), (13, .int .i64 (l0.length : Int)), (14, .int .i64 x14_l1)]) (w' := w) (by kernel_rfl) ?_
      obtain ⟨v6, e7, H⟩ := bind_ex H
      refine WR.st (St.ofP (PSt.idx (k := .i64) (.tmp 12) (.tmp 14) (by kernel_rfl) (by kernel_rfl) E22 (by kernel_rfl) (by kernel_rfl) (rdS.up R0 hS.sub0) e7 ?_))
      refine WR.runk [] [1, 2] [4, 12, 13, 14, 16] (L' := [(4, .pointer (some ⟨b2, 0, none⟩)), (12, .slice A0 l0.length c0), (13, .int .i64 (l0.length : Int)), (14, .int .i64 x14_l1), (16, .pointer (some (adr A0 x14_l1.toNat 1)))]) (w' := w) (by kernel_rfl) ?_
      refine WR.st (St.ofR (RSt.loadSl (t := 24) (.tmp 16) (by kernel_rfl) (by kernel_rfl) (by kernel_rfl) (by kernel_rfl) R0 e7 hS.sub0 (fun A8 c9 R10 => ?_)))
      replace R10 : rdS (r0 (.int .u8)) 1 (hp w0) A8 c9 v6 := R10
      refine WR.runk [2] [] [4, 6, 12, 13, 14] (L' := [(4, .pointer (some ⟨b2, 0, none⟩)), (6, .slice A8 v6.length c9), (12, .slice A0 l0.length c0), (13, .int .i64 (l0.length : Int)), (14, .int .i64 x14_l1)]) (w' := w) (by kernel_rfl) ?_
      refine WR.nil ?_
      refine At.go ?_
      refine WC.seq (by kernel_rfl) ?_
      refine WC.seq (by kernel_rfl) ?_
      refine WC.drawn (by kernel_rfl) (by kernel_rfl) 14 (by kernel_rfl) (fun w11 hw12 => ?_)
      have hS := hS.heap hw12.1 hw12.2
      refine WD.weaken [4, 6, 12, 13, 14] (L' := [(4, .pointer (some ⟨b2, 0, none⟩)), (6, .slice A8 v6.length c9), (12, .slice A0 l0.length c0), (13, .int .i64 (l0.length : Int)), (14, .int .i64 x14_l1)]) (by kernel_rfl) ?_
      refine WD.pure (i := 0) (v := .slice A8 v6.length c9) (by kernel_rfl) (by kernel_rfl) (fun _ => by kernel_rfl) ?_
      refine WD.weaken [4, 6, 12, 13, 14, 18] (L' := [(4, .pointer (some ⟨b2, 0, none⟩)), (6, .slice A8 v6.length c9), (12, .slice A0 l0.length c0), (13, .int .i64 (l0.length : Int)), (14, .int .i64 x14_l1), (18, .slice A8 v6.length c9)]) (by kernel_rfl) ?_
      refine WD.pure (i := 1) (v := .int .i64 (v6.length : Int)) (by kernel_rfl) (by kernel_rfl) (fun _ => by kernel_rfl) ?_
      refine WD.weaken [4, 6, 12, 13, 14, 19] (L' := [(4, .pointer (some ⟨b2, 0, none⟩)), (6, .slice A8 v6.length c9), (12, .slice A0 l0.length c0), (13, .int .i64 (l0.length : Int)), (14, .int .i64 x14_l1), (19, .int .i64 (v6.length : Int))]) (by kernel_rfl) ?_
      refine WD.pure (i := 2) (v := .pointer (some ⟨b2, 0, none⟩)) (by kernel_rfl) (by kernel_rfl) (fun _ => by kernel_rfl) ?_
      refine WD.weaken [4, 6, 12, 13, 14, 19, 20] (L' := [(4, .pointer (some ⟨b2, 0, none⟩)), (6, .slice A8 v6.length c9), (12, .slice A0 l0.length c0), (13, .int .i64 (l0.length : Int)), (14, .int .i64 x14_l1), (19, .int .i64 (v6.length : Int)), (20, .pointer (some ⟨b2, 0, none⟩))]) (by kernel_rfl) ?_
      refine WD.pure (i := 3) (v := .pointer (some ⟨b2, 0, none⟩)) (by kernel_rfl) (by kernel_rfl) (fun _ => by kernel_rfl) ?_
      refine WD.weaken [4, 6, 12, 13, 14, 19, 21] (L' := [(4, .pointer (some ⟨b2, 0, none⟩)), (6, .slice A8 v6.length c9), (12, .slice A0 l0.length c0), (13, .int .i64 (l0.length : Int)), (14, .int .i64 x14_l1), (19, .int .i64 (v6.length : Int)), (21, .pointer (some ⟨b2, 0, none⟩))]) (by kernel_rfl) ?_
      refine WD.pure (i := 4) (v := .pointer (some ⟨b2, 2, none⟩)) (by kernel_rfl) (by kernel_rfl) (fun _ => by kernel_rfl) ?_
      refine WD.weaken [4, 6, 12, 13, 14, 19, 22] (L' := [(4, .pointer (some ⟨b2, 0, none⟩)), (6, .slice A8 v6.length c9), (12, .slice A0 l0.length c0), (13, .int .i64 (l0.length : Int)), (14, .int .i64 x14_l1), (19, .int .i64 (v6.length : Int)), (22, .pointer (some ⟨b2, 2, none⟩))]) (by kernel_rfl) ?_
      obtain ⟨A13, c14, A15, c16, hS⟩ := O45.open hS
      have hS : Sat w11 (rf w0) [pts b2 (.cells #[.slice A13 q4_l1.1.length c14, .slice A15 q4_l1.2.1.length c16, .int .i64 q4_l1.2.2] 45 (0, 0)), orw 24 (Esl 5 (.int .u8)) 1 A13 c14 q4_l1.1, osl 3 (r0 (.int .i64)) 1 A15 c16 q4_l1.2.1] := hS
      refine WD.ofR (i := 5) (by kernel_rfl) (RSt.loadObj (t := 3) (k := 2) (v := .int .i64 q4_l1.2.2) (.tmp 22) (by kernel_rfl) (by kernel_rfl) (by kernel_rfl) 0 hS rfl (by kernel_rfl) rfl ?_)
      refine WD.weaken [4, 6, 12, 13, 14, 19, 23] (L' := [(4, .pointer (some ⟨b2, 0, none⟩)), (6, .slice A8 v6.length c9), (12, .slice A0 l0.length c0), (13, .int .i64 (l0.length : Int)), (14, .int .i64 x14_l1), (19, .int .i64 (v6.length : Int)), (23, .int .i64 q4_l1.2.2)]) (by kernel_rfl) ?_
      refine WD.pure (i := 6) (v := .pointer (some ⟨b2, 0, none⟩)) (by kernel_rfl) (by kernel_rfl) (fun _ => by kernel_rfl) ?_
      refine WD.weaken [4, 6, 12, 13, 14, 19, 23, 24] (L' := [(4, .pointer (some ⟨b2, 0, none⟩)), (6, .slice A8 v6.length c9), (12, .slice A0 l0.length c0), (13, .int .i64 (l0.length : Int)), (14, .int .i64 x14_l1), (19, .int .i64 (v6.length : Int)), (23, .int .i64 q4_l1.2.2), (24, .pointer (some ⟨b2, 0, none⟩))]) (by kernel_rfl) ?_
      refine WD.pure (i := 7) (v := .pointer (some ⟨b2, 0, none⟩)) (by kernel_rfl) (by kernel_rfl) (fun _ => by kernel_rfl) ?_
      refine WD.weaken [4, 6, 12, 13, 14, 19, 23, 25] (L' := [(4, .pointer (some ⟨b2, 0, none⟩)), (6, .slice A8 v6.length c9), (12, .slice A0 l0.length c0), (13, .int .i64 (l0.length : Int)), (14, .int .i64 x14_l1), (19, .int .i64 (v6.length : Int)), (23, .int .i64 q4_l1.2.2), (25, .pointer (some ⟨b2, 0, none⟩))]) (by kernel_rfl) ?_
      refine WD.pure (i := 8) (v := .pointer (some ⟨b2, 0, none⟩)) (by kernel_rfl) (by kernel_rfl) (fun _ => by kernel_rfl) ?_
      refine WD.weaken [4, 6, 12, 13, 14, 19, 23, 26] (L' := [(4, .pointer (some ⟨b2, 0, none⟩)), (6, .slice A8 v6.length c9), (12, .slice A0 l0.length c0), (13, .int .i64 (l0.length : Int)), (14, .int .i64 x14_l1), (19, .int .i64 (v6.length : Int)), (23, .int .i64 q4_l1.2.2), (26, .pointer (some ⟨b2, 0, none⟩))]) (by kernel_rfl) ?_
      refine WD.ofR (i := 9) (by kernel_rfl) (RSt.loadObj (t := 22) (k := 0) (v := .slice A13 q4_l1.1.length c14) (.tmp 26) (by kernel_rfl) (by kernel_rfl) (by kernel_rfl) 0 hS rfl (by kernel_rfl) rfl ?_)
      refine WD.weaken [4, 6, 12, 13, 14, 19, 23, 27] (L' := [(4, .pointer (some ⟨b2, 0, none⟩)), (6, .slice A8 v6.length c9), (12, .slice A0 l0.length c0), (13, .int .i64 (l0.length : Int)), (14, .int .i64 x14_l1), (19, .int .i64 (v6.length : Int)), (23, .int .i64 q4_l1.2.2), (27, .slice A13 q4_l1.1.length c14)]) (by kernel_rfl) ?_
      refine WD.pure (i := 10) (v := .int .i64 (q4_l1.1.length : Int)) (by kernel_rfl) (by kernel_rfl) (fun _ => by kernel_rfl) ?_
      refine WD.weaken [4, 6, 12, 13, 14, 19, 23, 28] (L' := [(4, .pointer (some ⟨b2, 0, none⟩)), (6, .slice A8 v6.length c9), (12, .slice A0 l0.length c0), (13, .int .i64 (l0.length : Int)), (14, .int .i64 x14_l1), (19, .int .i64 (v6.length : Int)), (23, .int .i64 q4_l1.2.2), (28, .int .i64 (q4_l1.1.length : Int))]) (by kernel_rfl) ?_
      refine WD.pure (i := 11) (v := .int .i64 (wi (q4_l1.2.2 - (q4_l1.1.length : Int)))) (by kernel_rfl) (by kernel_rfl) (fun _ => by kernel_rfl) ?_
      refine WD.weaken [4, 6, 12, 13, 14, 19, 29] (L' := [(4, .pointer (some ⟨b2, 0, none⟩)), (6, .slice A8 v6.length c9), (12, .slice A0 l0.length c0), (13, .int .i64 (l0.length : Int)), (14, .int .i64 x14_l1), (19, .int .i64 (v6.length : Int)), (29, .int .i64 (wi (q4_l1.2.2 - (q4_l1.1.length : Int))))]) (by kernel_rfl) ?_
      refine WD.pure (i := 12) (v := .int .i64 (wi (65536 - (wi (q4_l1.2.2 - (q4_l1.1.length : Int)))))) (by kernel_rfl) (by kernel_rfl) (fun _ => by kernel_rfl) ?_
      refine WD.weaken [4, 6, 12, 13, 14, 19, 30] (L' := [(4, .pointer (some ⟨b2, 0, none⟩)), (6, .slice A8 v6.length c9), (12, .slice A0 l0.length c0), (13, .int .i64 (l0.length : Int)), (14, .int .i64 x14_l1), (19, .int .i64 (v6.length : Int)), (30, .int .i64 (wi (65536 - (wi (q4_l1.2.2 - (q4_l1.1.length : Int))))))]) (by kernel_rfl) ?_
      refine WD.pure (i := 13) (v := .bool (decide ((v6.length : Int) > wi (65536 - (wi (q4_l1.2.2 - (q4_l1.1.length : Int))))))) (by kernel_rfl) (by kernel_rfl) (fun _ => by kernel_rfl) ?_
      refine WD.weaken [4, 6, 12, 13, 14, 31] (L' := [(4, .pointer (some ⟨b2, 0, none⟩)), (6, .slice A8 v6.length c9), (12, .slice A0 l0.length c0), (13, .int .i64 (l0.length : Int)), (14, .int .i64 x14_l1), (31, .bool (decide ((v6.length : Int) > wi (65536 - (wi (q4_l1.2.2 - (q4_l1.1.length : Int)))))))]) (by kernel_rfl) ?_
      refine WD.nil (by kernel_rfl) ?_
      refine At.go ?_
      refine WC.cond (by kernel_rfl) (decide ((v6.length : Int) > wi (65536 - (wi (q4_l1.2.2 - (q4_l1.1.length : Int)))))) (by kernel_rfl) (by kernel_rfl) (fun hb17 => ?_) (fun hb17 => ?_)
      · replace H := ite_t H hb17
        refine WC.seq (by kernel_rfl) ?_
        refine WC.reg [0, 1] (by kernel_rfl) (by kernel_rfl) ?_
        refine WR.runk [0, 1] [] [2, 3] (L' := [(2, .pointer none), (3, .int .i64 80)]) (w' := w11) (by kernel_rfl) ?_
        refine WR.nil ?_
        refine At.go ?_
        refine WC.ret (by kernel_rfl) ?_
        refine At.thenRet ?_
        refine At.blockRet ?_
        refine At.thenRet ?_
        refine At.thenRet ?_
        obtain rfl := Option.some.inj H
        have hS : Sat w11 (rf w0) [pts b2 (.cells #[.slice A13 q4_l1.1.length c14, .slice A15 q4_l1.2.1.length c16, .int .i64 q4_l1.2.2] 45 (0, 0)), orw 24 (Esl 5 (.int .u8)) 1 A13 c14 q4_l1.1, osl 3 (r0 (.int .i64)) 1 A15 c16 q4_l1.2.1] := hS.sel [0, 1, 2] (by kernel_rfl)
        have hS : Sat w11 (rf w0) [O45 b2 q4_l1] := O45.close q4_l1 A13 c14 A15 c16 hS
        have hS : Sat w11 (rf w0) [O45 b2 q4_l1] := hS.sel [0] (by kernel_rfl)
        refine At.weaken [2, 3] (L' := [(2, .pointer none), (3, .int .i64 80)]) (by kernel_rfl) ?_
        exact hn0 (80, q4_l1) _ rfl hS
      · replace H := ite_f H hb17
        refine WC.skip (by kernel_rfl) ?_
        refine At.go ?_
        refine WC.seq (by kernel_rfl) ?_
        refine WC.drawn (by kernel_rfl) (by kernel_rfl) 14 (by kernel_rfl) (fun w18 hw19 => ?_)
        have hS := hS.heap hw19.1 hw19.2
        refine WD.weaken [4, 6, 12, 13, 14] (L' := [(4, .pointer (some ⟨b2, 0, none⟩)), (6, .slice A8 v6.length c9), (12, .slice A0 l0.length c0), (13, .int .i64 (l0.length : Int)), (14, .int .i64 x14_l1)]) (by kernel_rfl) ?_
        refine WD.pure (i := 0) (v := .pointer (some ⟨b2, 0, none⟩)) (by kernel_rfl) (by kernel_rfl) (fun _ => by kernel_rfl) ?_
        refine WD.weaken [4, 6, 12, 13, 14, 32] (L' := [(4, .pointer (some ⟨b2, 0, none⟩)), (6, .slice A8 v6.length c9), (12, .slice A0 l0.length c0), (13, .int .i64 (l0.length : Int)), (14, .int .i64 x14_l1), (32, .pointer (some ⟨b2, 0, none⟩))]) (by kernel_rfl) ?_
        refine WD.pure (i := 1) (v := .pointer (some ⟨b2, 0, none⟩)) (by kernel_rfl) (by kernel_rfl) (fun _ => by kernel_rfl) ?_
        refine WD.weaken [4, 6, 12, 13, 14, 32, 33] (L' := [(4, .pointer (some ⟨b2, 0, none⟩)), (6, .slice A8 v6.length c9), (12, .slice A0 l0.length c0), (13, .int .i64 (l0.length : Int)), (14, .int .i64 x14_l1), (32, .pointer (some ⟨b2, 0, none⟩)), (33, .pointer (some ⟨b2, 0, none⟩))]) (by kernel_rfl) ?_
        refine WD.pure (i := 2) (v := .pointer (some ⟨b2, 0, none⟩)) (by kernel_rfl) (by kernel_rfl) (fun _ => by kernel_rfl) ?_
        refine WD.weaken [4, 6, 12, 13, 14, 32, 34] (L' := [(4, .pointer (some ⟨b2, 0, none⟩)), (6, .slice A8 v6.length c9), (12, .slice A0 l0.length c0), (13, .int .i64 (l0.length : Int)), (14, .int .i64 x14_l1), (32, .pointer (some ⟨b2, 0, none⟩)), (34, .pointer (some ⟨b2, 0, none⟩))]) (by kernel_rfl) ?_
        refine WD.pure (i := 3) (v := .pointer (some ⟨b2, 1, none⟩)) (by kernel_rfl) (by kernel_rfl) (fun _ => by kernel_rfl) ?_
        refine WD.weaken [4, 6, 12, 13, 14, 32, 35] (L' := [(4, .pointer (some ⟨b2, 0, none⟩)), (6, .slice A8 v6.length c9), (12, .slice A0 l0.length c0), (13, .int .i64 (l0.length : Int)), (14, .int .i64 x14_l1), (32, .pointer (some ⟨b2, 0, none⟩)), (35, .pointer (some ⟨b2, 1, none⟩))]) (by kernel_rfl) ?_
        refine WD.ofR (i := 4) (by kernel_rfl) (RSt.loadObj (t := 30) (k := 1) (v := .slice A15 q4_l1.2.1.length c16) (.tmp 35) (by kernel_rfl) (by kernel_rfl) (by kernel_rfl) 0 hS rfl (by kernel_rfl) rfl ?_)
        refine WD.weaken [4, 6, 12, 13, 14, 32, 36] (L' := [(4, .pointer (some ⟨b2, 0, none⟩)), (6, .slice A8 v6.length c9), (12, .slice A0 l0.length c0), (13, .int .i64 (l0.length : Int)), (14, .int .i64 x14_l1), (32, .pointer (some ⟨b2, 0, none⟩)), (36, .slice A15 q4_l1.2.1.length c16)]) (by kernel_rfl) ?_
        refine WD.pure (i := 5) (v := .pointer (some ⟨b2, 0, none⟩)) (by kernel_rfl) (by kernel_rfl) (fun _ => by kernel_rfl) ?_
        refine WD.weaken [4, 6, 12, 13, 14, 32, 36, 37] (L' := [(4, .pointer (some ⟨b2, 0, none⟩)), (6, .slice A8 v6.length c9), (12, .slice A0 l0.length c0), (13, .int .i64 (l0.length : Int)), (14, .int .i64 x14_l1), (32, .pointer (some ⟨b2, 0, none⟩)), (36, .slice A15 q4_l1.2.1.length c16), (37, .pointer (some ⟨b2, 0, none⟩))]) (by kernel_rfl) ?_
        refine WD.pure (i := 6) (v := .pointer (some ⟨b2, 0, none⟩)) (by kernel_rfl) (by kernel_rfl) (fun _ => by kernel_rfl) ?_
        refine WD.weaken [4, 6, 12, 13, 14, 32, 36, 38] (L' := [(4, .pointer (some ⟨b2, 0, none⟩)), (6, .slice A8 v6.length c9), (12, .slice A0 l0.length c0), (13, .int .i64 (l0.length : Int)), (14, .int .i64 x14_l1), (32, .pointer (some ⟨b2, 0, none⟩)), (36, .slice A15 q4_l1.2.1.length c16), (38, .pointer (some ⟨b2, 0, none⟩))]) (by kernel_rfl) ?_
        refine WD.pure (i := 7) (v := .pointer (some ⟨b2, 2, none⟩)) (by kernel_rfl) (by kernel_rfl) (fun _ => by kernel_rfl) ?_
        refine WD.weaken [4, 6, 12, 13, 14, 32, 36, 39] (L' := [(4, .pointer (some ⟨b2, 0, none⟩)), (6, .slice A8 v6.length c9), (12, .slice A0 l0.length c0), (13, .int .i64 (l0.length : Int)), (14, .int .i64 x14_l1), (32, .pointer (some ⟨b2, 0, none⟩)), (36, .slice A15 q4_l1.2.1.length c16), (39, .pointer (some ⟨b2, 2, none⟩))]) (by kernel_rfl) ?_
        refine WD.ofR (i := 8) (by kernel_rfl) (RSt.loadObj (t := 3) (k := 2) (v := .int .i64 q4_l1.2.2) (.tmp 39) (by kernel_rfl) (by kernel_rfl) (by kernel_rfl) 0 hS rfl (by kernel_rfl) rfl ?_)
        refine WD.weaken [4, 6, 12, 13, 14, 32, 36, 40] (L' := [(4, .pointer (some ⟨b2, 0, none⟩)), (6, .slice A8 v6.length c9), (12, .slice A0 l0.length c0), (13, .int .i64 (l0.length : Int)), (14, .int .i64 x14_l1), (32, .pointer (some ⟨b2, 0, none⟩)), (36, .slice A15 q4_l1.2.1.length c16), (40, .int .i64 q4_l1.2.2)]) (by kernel_rfl) ?_
        refine WD.act (i := 9) (by kernel_rfl) (St.box hS (by kernel_rfl) (.cells #[.int .i64 q4_l1.2.2] 3) (fun b20 => .slice (some ⟨b20, 0, none⟩) 1 1) (fun _ => by kernel_rfl) (fun b20 w21 hS => ?_))
        refine ⟨(asked.anc (by kernel_rfl) (asked.cons (RSt.run (n := 68) (RSt.loadObj (t := 30) (k := 1) (v := .slice A15 q4_l1.2.1.length c16) (.tmp 35) (by kernel_rfl) (by kernel_rfl) (by kernel_rfl) 1 hS rfl (by kernel_rfl) rfl rfl)) (asked.nil _ _))), ?_⟩
        refine WD.weaken [4, 6, 12, 13, 14, 32, 36, 41] (L' := [(4, .pointer (some ⟨b2, 0, none⟩)), (6, .slice A8 v6.length c9), (12, .slice A0 l0.length c0), (13, .int .i64 (l0.length : Int)), (14, .int .i64 x14_l1), (32, .pointer (some ⟨b2, 0, none⟩)), (36, .slice A15 q4_l1.2.1.length c16), (41, .slice (some ⟨b20, 0, none⟩) 1 1)]) (by kernel_rfl) ?_
        have hS : Sat w21 (rf w0) [osl 3 (r0 (.int .i64)) 1 A15 c16 q4_l1.2.1, pts b20 (.cells #[.int .i64 q4_l1.2.2] 3 (0, 0)), pts b2 (.cells #[.slice A13 q4_l1.1.length c14, .slice A15 q4_l1.2.1.length c16, .int .i64 q4_l1.2.2] 45 (0, 0)), orw 24 (Esl 5 (.int .u8)) 1 A13 c14 q4_l1.1] := hS.sel [3, 0, 1, 2] (by kernel_rfl)
        obtain ⟨y23, e22, H⟩ := bind_ex H
        refine WD.act (i := 10) (by kernel_rfl) (St.append' (.tmp 36) (.tmp 41) (by kernel_rfl) (by kernel_rfl) E30 (r0_one _) hS (by kernel_rfl) (by kernel_rfl) (Sat.ptsAt 1 (r0 (.int .i64)) 1 ([q4_l1.2.2] : List Int) hS rfl rfl (rdL.cons1 rfl (rdL.nil _ _))) 17592186044416 (by kernel_rfl) (by kernel_rfl) e22 (fun A24 c25 w26 hS => ?_))
        refine ⟨(asked.anc (by kernel_rfl) (asked.anc (by kernel_rfl) (asked.nil _ _))), ?_⟩
        refine WD.weaken [4, 6, 12, 13, 14, 32, 42] (L' := [(4, .pointer (some ⟨b2, 0, none⟩)), (6, .slice A8 v6.length c9), (12, .slice A0 l0.length c0), (13, .int .i64 (l0.length : Int)), (14, .int .i64 x14_l1), (32, .pointer (some ⟨b2, 0, none⟩)), (42, .slice A24 y23.length c25)]) (by kernel_rfl) ?_
        refine WD.pure (i := 11) (v := .pointer (some ⟨b2, 0, none⟩)) (by kernel_rfl) (by kernel_rfl) (fun _ => by kernel_rfl) ?_
        refine WD.weaken [4, 6, 12, 13, 14, 42, 43] (L' := [(4, .pointer (some ⟨b2, 0, none⟩)), (6, .slice A8 v6.length c9), (12, .slice A0 l0.length c0), (13, .int .i64 (l0.length : Int)), (14, .int .i64 x14_l1), (42, .slice A24 y23.length c25), (43, .pointer (some ⟨b2, 0, none⟩))]) (by kernel_rfl) ?_
        refine WD.pure (i := 12) (v := .pointer (some ⟨b2, 1, none⟩)) (by kernel_rfl) (by kernel_rfl) (fun _ => by kernel_rfl) ?_
        refine WD.weaken [4, 6, 12, 13, 14, 42, 44] (L' := [(4, .pointer (some ⟨b2, 0, none⟩)), (6, .slice A8 v6.length c9), (12, .slice A0 l0.length c0), (13, .int .i64 (l0.length : Int)), (14, .int .i64 x14_l1), (42, .slice A24 y23.length c25), (44, .pointer (some ⟨b2, 1, none⟩))]) (by kernel_rfl) ?_
        have hS : Sat w26 (rf w0) [pts b2 (.cells #[.slice A13 q4_l1.1.length c14, .slice A15 q4_l1.2.1.length c16, .int .i64 q4_l1.2.2] 45 (0, 0)), osl 3 (r0 (.int .i64)) 1 A24 c25 y23, pts b20 (.cells #[.int .i64 q4_l1.2.2] 3 (0, 0)), orw 24 (Esl 5 (.int .u8)) 1 A13 c14 q4_l1.1] := hS.sel [2, 0, 1, 3] (by kernel_rfl)
        refine WD.act (i := 13) (by kernel_rfl) (St.storeObj (t := 30) (k := 1) (cur' := #[.slice A13 q4_l1.1.length c14, .slice A24 y23.length c25, .int .i64 q4_l1.2.2]) (.tmp 44) (.tmp 42) (by kernel_rfl) (by kernel_rfl) (by kernel_rfl) hS (by kernel_rfl) (by kernel_rfl) (by kernel_rfl) rfl rfl (fun w27 hS => ?_))
        refine ⟨(asked.anc (by kernel_rfl) (asked.anc (by kernel_rfl) (asked.nil _ _))), ?_⟩
        refine WD.weaken [4, 6, 12, 13, 14] (L' := [(4, .pointer (some ⟨b2, 0, none⟩)), (6, .slice A8 v6.length c9), (12, .slice A0 l0.length c0), (13, .int .i64 (l0.length : Int)), (14, .int .i64 x14_l1)]) (by kernel_rfl) ?_
        refine WD.nil (by kernel_rfl) ?_
        refine At.go ?_
        refine WC.seq (by kernel_rfl) ?_
        refine WC.drawn (by kernel_rfl) (by kernel_rfl) 12 (by kernel_rfl) (fun w28 hw29 => ?_)
        have hS := hS.heap hw29.1 hw29.2
        refine WD.weaken [4, 6, 12, 13, 14] (L' := [(4, .pointer (some ⟨b2, 0, none⟩)), (6, .slice A8 v6.length c9), (12, .slice A0 l0.length c0), (13, .int .i64 (l0.length : Int)), (14, .int .i64 x14_l1)]) (by kernel_rfl) ?_
        refine WD.pure (i := 0) (v := .pointer (some ⟨b2, 0, none⟩)) (by kernel_rfl) (by kernel_rfl) (fun _ => by kernel_rfl) ?_
        refine WD.weaken [4, 6, 12, 13, 14, 45] (L' := [(4, .pointer (some ⟨b2, 0, none⟩)), (6, .slice A8 v6.length c9), (12, .slice A0 l0.length c0), (13, .int .i64 (l0.length : Int)), (14, .int .i64 x14_l1), (45, .pointer (some ⟨b2, 0, none⟩))]) (by kernel_rfl) ?_
        refine WD.pure (i := 1) (v := .pointer (some ⟨b2, 0, none⟩)) (by kernel_rfl) (by kernel_rfl) (fun _ => by kernel_rfl) ?_
        refine WD.weaken [4, 6, 12, 13, 14, 45, 46] (L' := [(4, .pointer (some ⟨b2, 0, none⟩)), (6, .slice A8 v6.length c9), (12, .slice A0 l0.length c0), (13, .int .i64 (l0.length : Int)), (14, .int .i64 x14_l1), (45, .pointer (some ⟨b2, 0, none⟩)), (46, .pointer (some ⟨b2, 0, none⟩))]) (by kernel_rfl) ?_
        refine WD.pure (i := 2) (v := .pointer (some ⟨b2, 0, none⟩)) (by kernel_rfl) (by kernel_rfl) (fun _ => by kernel_rfl) ?_
        refine WD.weaken [4, 6, 12, 13, 14, 45, 47] (L' := [(4, .pointer (some ⟨b2, 0, none⟩)), (6, .slice A8 v6.length c9), (12, .slice A0 l0.length c0), (13, .int .i64 (l0.length : Int)), (14, .int .i64 x14_l1), (45, .pointer (some ⟨b2, 0, none⟩)), (47, .pointer (some ⟨b2, 0, none⟩))]) (by kernel_rfl) ?_
        refine WD.pure (i := 3) (v := .pointer (some ⟨b2, 0, none⟩)) (by kernel_rfl) (by kernel_rfl) (fun _ => by kernel_rfl) ?_
        refine WD.weaken [4, 6, 12, 13, 14, 45, 48] (L' := [(4, .pointer (some ⟨b2, 0, none⟩)), (6, .slice A8 v6.length c9), (12, .slice A0 l0.length c0), (13, .int .i64 (l0.length : Int)), (14, .int .i64 x14_l1), (45, .pointer (some ⟨b2, 0, none⟩)), (48, .pointer (some ⟨b2, 0, none⟩))]) (by kernel_rfl) ?_
        refine WD.ofR (i := 4) (by kernel_rfl) (RSt.loadObj (t := 22) (k := 0) (v := .slice A13 q4_l1.1.length c14) (.tmp 48) (by kernel_rfl) (by kernel_rfl) (by kernel_rfl) 0 hS rfl (by kernel_rfl) rfl ?_)
        refine WD.weaken [4, 6, 12, 13, 14, 45, 49] (L' := [(4, .pointer (some ⟨b2, 0, none⟩)), (6, .slice A8 v6.length c9), (12, .slice A0 l0.length c0), (13, .int .i64 (l0.length : Int)), (14, .int .i64 x14_l1), (45, .pointer (some ⟨b2, 0, none⟩)), (49, .slice A13 q4_l1.1.length c14)]) (by kernel_rfl) ?_
        refine WD.pure (i := 5) (v := .slice A8 v6.length c9) (by kernel_rfl) (by kernel_rfl) (fun _ => by kernel_rfl) ?_
        refine WD.weaken [4, 6, 12, 13, 14, 45, 49, 50] (L' := [(4, .pointer (some ⟨b2, 0, none⟩)), (6, .slice A8 v6.length c9), (12, .slice A0 l0.length c0), (13, .int .i64 (l0.length : Int)), (14, .int .i64 x14_l1), (45, .pointer (some ⟨b2, 0, none⟩)), (49, .slice A13 q4_l1.1.length c14), (50, .slice A8 v6.length c9)]) (by kernel_rfl) ?_
        obtain ⟨r30, e31, H⟩ := bind_ex H
        refine WD.act (i := 6) (by kernel_rfl) (St.call (by kernel_rfl) (f := 22) (args := #[.slice A8 v6.length c9]) (by kernel_rfl) (slices_Clone.calls w28 A8 c9 v6 (rdS.up R10 hS.sub0) r30 e31) ?_)
        rintro _ w37 ⟨A39, c40, rfl, hS38⟩
        have hS : Sat w37 (rf w0) [osl 5 (r0 (.int .u8)) 1 A39 c40 r30, pts b2 (.cells #[.slice A13 q4_l1.1.length c14, .slice A24 y23.length c25, .int .i64 q4_l1.2.2] 45 (0, 0)), osl 3 (r0 (.int .i64)) 1 A24 c25 y23, pts b20 (.cells #[.int .i64 q4_l1.2.2] 3 (0, 0)), orw 24 (Esl 5 (.int .u8)) 1 A13 c14 q4_l1.1] := hS.ext hS38
        refine ⟨(asked.cons (RSt.run (n := 68) (RSt.loadObj (t := 22) (k := 0) (v := .slice A13 q4_l1.1.length c14) (.tmp 48) (by kernel_rfl) (by kernel_rfl) (by kernel_rfl) 1 hS rfl (by kernel_rfl) rfl rfl)) (asked.nil _ _)), ?_⟩
        refine WD.weaken [4, 6, 12, 13, 14, 45, 49, 51] (L' := [(4, .pointer (some ⟨b2, 0, none⟩)), (6, .slice A8 v6.length c9), (12, .slice A0 l0.length c0), (13, .int .i64 (l0.length : Int)), (14, .int .i64 x14_l1), (45, .pointer (some ⟨b2, 0, none⟩)), (49, .slice A13 q4_l1.1.length c14), (51, .slice A39 r30.length c40)]) (by kernel_rfl) ?_
        refine WD.act (i := 7) (by kernel_rfl) (St.box hS (by kernel_rfl) (.cells #[.slice A39 r30.length c40] 24) (fun b41 => .slice (some ⟨b41, 0, none⟩) 1 1) (fun _ => by kernel_rfl) (fun b41 w42 hS => ?_))
        refine ⟨(asked.cons (RSt.run (n := 68) (RSt.loadObj (t := 22) (k := 0) (v := .slice A13 q4_l1.1.length c14) (.tmp 48) (by kernel_rfl) (by kernel_rfl) (by kernel_rfl) 2 hS rfl (by kernel_rfl) rfl rfl)) (asked.nil _ _)), ?_⟩
        refine WD.weaken [4, 6, 12, 13, 14, 45, 49, 52] (L' := [(4, .pointer (some ⟨b2, 0, none⟩)), (6, .slice A8 v6.length c9), (12, .slice A0 l0.length c0), (13, .int .i64 (l0.length : Int)), (14, .int .i64 x14_l1), (45, .pointer (some ⟨b2, 0, none⟩)), (49, .slice A13 q4_l1.1.length c14), (52, .slice (some ⟨b41, 0, none⟩) 1 1)]) (by kernel_rfl) ?_
        have hS : Sat w42 (rf w0) [orw 24 (Esl 5 (.int .u8)) 1 A13 c14 q4_l1.1, pts b41 (.cells #[.slice A39 r30.length c40] 24 (0, 0)), osl 5 (r0 (.int .u8)) 1 A39 c40 r30, pts b2 (.cells #[.slice A13 q4_l1.1.length c14, .slice A24 y23.length c25, .int .i64 q4_l1.2.2] 45 (0, 0)), osl 3 (r0 (.int .i64)) 1 A24 c25 y23, pts b20 (.cells #[.int .i64 q4_l1.2.2] 3 (0, 0))] := hS.sel [5, 0, 1, 2, 3, 4] (by kernel_rfl)
        have hS : Sat w42 (rf w0) [osl 5 (r0 (.int .u8)) 1 A39 c40 r30, orw 24 (Esl 5 (.int .u8)) 1 A13 c14 q4_l1.1, pts b41 (.cells #[.slice A39 r30.length c40] 24 (0, 0)), pts b2 (.cells #[.slice A13 q4_l1.1.length c14, .slice A24 y23.length c25, .int .i64 q4_l1.2.2] 45 (0, 0)), osl 3 (r0 (.int .i64)) 1 A24 c25 y23, pts b20 (.cells #[.int .i64 q4_l1.2.2] 3 (0, 0))] := hS.sel [2, 0, 1, 3, 4, 5] (by kernel_rfl)
        have hS : Sat w42 (rf w0) [orw 24 (Esl 5 (.int .u8)) 1 A13 c14 q4_l1.1, osl 5 (r0 (.int .u8)) 1 A39 c40 r30, pts b41 (.cells #[.slice A39 r30.length c40] 24 (0, 0)), pts b2 (.cells #[.slice A13 q4_l1.1.length c14, .slice A24 y23.length c25, .int .i64 q4_l1.2.2] 45 (0, 0)), osl 3 (r0 (.int .i64)) 1 A24 c25 y23, pts b20 (.cells #[.int .i64 q4_l1.2.2] 3 (0, 0))] := hS.sel [1, 0, 2, 3, 4, 5] (by kernel_rfl)
        obtain ⟨y44, e43, H⟩ := bind_ex H
        refine WD.act (i := 8) (by kernel_rfl) (St.appendOwn (.tmp 49) (.tmp 52) (by kernel_rfl) (by kernel_rfl) E22 (fun H h => Esl.mk H h) hS 0 rfl (by kernel_rfl) (by kernel_rfl) (by kernel_rfl) (by kernel_rfl) 5864062014805 (by kernel_rfl) (by kernel_rfl) e43 (fun A45 c46 w47 K48 hS hK49 hM50 => ?_))
        refine ⟨(asked.anc (by kernel_rfl) (asked.nil _ _)), ?_⟩
        have R51 : rdS (rd K48 (.slice 5 (.int .u8))) 1 K48 A45 c46 y44 := orw.rdS (κ := (.slice 5 (.int .u8))) (Esl.rd (e := 5) (κ := (.int .u8))) hK49
        have R52 : rdS (r0 (.int .u8)) 1 K48 A39 c40 r30 := by obtain ⟨M, hM, hm⟩ := hM50; exact (osl.read hm).mono hM (fun _ _ h => h)
        refine WD.weaken [4, 6, 12, 13, 14, 45, 53] (L' := [(4, .pointer (some ⟨b2, 0, none⟩)), (6, .slice A8 v6.length c9), (12, .slice A0 l0.length c0), (13, .int .i64 (l0.length : Int)), (14, .int .i64 x14_l1), (45, .pointer (some ⟨b2, 0, none⟩)), (53, .slice A45 y44.length c46)]) (by kernel_rfl) ?_
        refine WD.pure (i := 9) (v := .pointer (some ⟨b2, 0, none⟩)) (by kernel_rfl) (by kernel_rfl) (fun _ => by kernel_rfl) ?_
        refine WD.weaken [4, 6, 12, 13, 14, 53, 54] (L' := [(4, .pointer (some ⟨b2, 0, none⟩)), (6, .slice A8 v6.length c9), (12, .slice A0 l0.length c0), (13, .int .i64 (l0.length : Int)), (14, .int .i64 x14_l1), (53, .slice A45 y44.length c46), (54, .pointer (some ⟨b2, 0, none⟩))]) (by kernel_rfl) ?_
        refine WD.pure (i := 10) (v := .pointer (some ⟨b2, 0, none⟩)) (by kernel_rfl) (by kernel_rfl) (fun _ => by kernel_rfl) ?_
        refine WD.weaken [4, 6, 12, 13, 14, 53, 55] (L' := [(4, .pointer (some ⟨b2, 0, none⟩)), (6, .slice A8 v6.length c9), (12, .slice A0 l0.length c0), (13, .int .i64 (l0.length : Int)), (14, .int .i64 x14_l1), (53, .slice A45 y44.length c46), (55, .pointer (some ⟨b2, 0, none⟩))]) (by kernel_rfl) ?_
        have hS : Sat w47 (rf w0) [pts b2 (.cells #[.slice A13 q4_l1.1.length c14, .slice A24 y23.length c25, .int .i64 q4_l1.2.2] 45 (0, 0)), gh K48, pts b41 (.cells #[.slice A39 r30.length c40] 24 (0, 0)), osl 3 (r0 (.int .i64)) 1 A24 c25 y23, pts b20 (.cells #[.int .i64 q4_l1.2.2] 3 (0, 0))] := hS.sel [2, 0, 1, 3, 4] (by kernel_rfl)
        refine WD.act (i := 11) (by kernel_rfl) (St.storeObj (t := 22) (k := 0) (cur' := #[.slice A45 y44.length c46, .slice A24 y23.length c25, .int .i64 q4_l1.2.2]) (.tmp 55) (.tmp 53) (by kernel_rfl) (by kernel_rfl) (by kernel_rfl) hS (by kernel_rfl) (by kernel_rfl) (by kernel_rfl) rfl rfl (fun w53 hS => ?_))
        refine ⟨(asked.anc (by kernel_rfl) (asked.nil _ _)), ?_⟩
        refine WD.weaken [4, 6, 12, 13, 14] (L' := [(4, .pointer (some ⟨b2, 0, none⟩)), (6, .slice A8 v6.length c9), (12, .slice A0 l0.length c0), (13, .int .i64 (l0.length : Int)), (14, .int .i64 x14_l1)]) (by kernel_rfl) ?_
        refine WD.nil (by kernel_rfl) ?_
        refine At.go ?_
        refine WC.reg [0, 1, 2, 3, 4, 5, 6, 7, 8, 9, 10] (by kernel_rfl) (by kernel_rfl) ?_
        refine WR.runk [0, 1, 2] [3, 4, 5, 6, 7, 8, 9, 10] [4, 6, 12, 13, 14, 56, 58] (L' := [(4, .pointer (some ⟨b2, 0, none⟩)), (6, .slice A8 v6.length c9), (12, .slice A0 l0.length c0), (13, .int .i64 (l0.length : Int)), (14, .int .i64 x14_l1), (56, .pointer (some ⟨b2, 0, none⟩)), (58, .pointer (some ⟨b2, 2, none⟩))]) (w' := w53) (by kernel_rfl) ?_
        refine WR.st (St.ofR (RSt.loadObj (t := 3) (k := 2) (v := .int .i64 q4_l1.2.2) (.tmp 58) (by kernel_rfl) (by kernel_rfl) (by kernel_rfl) 0 hS rfl (by kernel_rfl) rfl ?_))
        refine WR.runk [4, 5, 6, 7, 8, 9] [10] [4, 12, 13, 14, 63, 65] (L' := [(4, .pointer (some ⟨b2, 0, none⟩)), (12, .slice A0 l0.length c0), (13, .int .i64 (l0.length : Int)), (14, .int .i64 x14_l1), (63, .int .i64 (wi (q4_l1.2.2 + (wi ((v6.length : Int) + 1))))), (65, .pointer (some ⟨b2, 2, none⟩))]) (w' := w53) (by kernel_rfl) ?_
        refine WR.st (St.storeObj (t := 3) (k := 2) (cur' := #[.slice A45 y44.length c46, .slice A24 y23.length c25, .int .i64 (wi (q4_l1.2.2 + (wi ((v6.length : Int) + 1))))]) (.tmp 65) (.tmp 63) (by kernel_rfl) (by kernel_rfl) (by kernel_rfl) hS (by kernel_rfl) (by kernel_rfl) (by kernel_rfl) rfl rfl (fun w54 hS => ?_))
        refine WR.runk [] [] [4, 12, 13, 14] (L' := [(4, .pointer (some ⟨b2, 0, none⟩)), (12, .slice A0 l0.length c0), (13, .int .i64 (l0.length : Int)), (14, .int .i64 x14_l1)]) (w' := w54) (by kernel_rfl) ?_
        refine WR.nil ?_
        refine At.blockNormal ?_
        refine At.go ?_
        refine WC.reg [0, 1] (by kernel_rfl) (by kernel_rfl) ?_
        refine WR.runk [0, 1] [] [4, 12, 13, 14] (L' := [(4, .pointer (some ⟨b2, 0, none⟩)), (12, .slice A0 l0.length c0), (13, .int .i64 (l0.length : Int)), (14, .int .i64 (wi (x14_l1 + 1)))]) (w' := w54) (by kernel_rfl) ?_
        refine WR.nil ?_
        have hS : Sat w54 (rf w0) [gh K48, pts b2 (.cells #[.slice A45 y44.length c46, .slice A24 y23.length c25, .int .i64 (wi (q4_l1.2.2 + (wi ((v6.length : Int) + 1))))] 45 (0, 0)), pts b41 (.cells #[.slice A39 r30.length c40] 24 (0, 0)), osl 3 (r0 (.int .i64)) 1 A24 c25 y23, pts b20 (.cells #[.int .i64 q4_l1.2.2] 3 (0, 0))] := hS.sel [1, 0, 2, 3, 4] (by kernel_rfl)
        have hS : Sat w54 (rf w0) [orw 24 (Esl 5 (.int .u8)) 1 A45 c46 y44, pts b2 (.cells #[.slice A45 y44.length c46, .slice A24 y23.length c25, .int .i64 (wi (q4_l1.2.2 + (wi ((v6.length : Int) + 1))))] 45 (0, 0)), pts b41 (.cells #[.slice A39 r30.length c40] 24 (0, 0)), osl 3 (r0 (.int .i64)) 1 A24 c25 y23, pts b20 (.cells #[.int .i64 q4_l1.2.2] 3 (0, 0))] := Sat.ungh hK49 hS
        have hS : Sat w54 (rf w0) [pts b2 (.cells #[.slice A45 y44.length c46, .slice A24 y23.length c25, .int .i64 (wi (q4_l1.2.2 + (wi ((v6.length : Int) + 1))))] 45 (0, 0)), orw 24 (Esl 5 (.int .u8)) 1 A45 c46 y44, osl 3 (r0 (.int .i64)) 1 A24 c25 y23, pts b41 (.cells #[.slice A39 r30.length c40] 24 (0, 0)), pts b20 (.cells #[.int .i64 q4_l1.2.2] 3 (0, 0))] := hS.sel [1, 0, 3, 2, 4] (by kernel_rfl)
        have hS : Sat w54 (rf w0) [O45 b2 (y44, y23, wi (q4_l1.2.2 + (wi ((v6.length : Int) + 1)))), pts b41 (.cells #[.slice A39 r30.length c40] 24 (0, 0)), pts b20 (.cells #[.int .i64 q4_l1.2.2] 3 (0, 0))] := O45.close (y44, y23, wi (q4_l1.2.2 + (wi ((v6.length : Int) + 1)))) A45 c46 A24 c25 hS
        have hS : Sat w54 (rf w0) [O45 b2 (y44, y23, wi (q4_l1.2.2 + (wi ((v6.length : Int) + 1))))] := hS.sel [0] (by kernel_rfl)
        refine At.again ?_
        refine WL.weaken [4, 12, 13, 14] (L' := [(4, .pointer (some ⟨b2, 0, none⟩)), (12, .slice A0 l0.length c0), (13, .int .i64 (l0.length : Int)), (14, .int .i64 (wi (x14_l1 + 1)))]) (by kernel_rfl) ?_
        exact ih (wi (x14_l1 + 1)) (y44, y23, wi (q4_l1.2.2 + (wi ((v6.length : Int) + 1)))) _ hS H
    · replace H := ite_f H hb5
      refine WC.exit (by kernel_rfl) ?_
      refine At.thenExit ?_
      refine At.thenExit ?_
      obtain rfl := Option.some.inj H
      have hS : Sat w (rf w0) [O45 b2 q4_l1] := hS.sel [0] (by kernel_rfl)
      refine At.weaken [4] (L' := [(4, .pointer (some ⟨b2, 0, none⟩))]) (by kernel_rfl) ?_
      exact hn1 q4_l1 _ rfl hS
theorem text_New.calls (w0 : World) (A0 : Option Addr) (c0 : Nat) (l0 : List (List Int)) (R0 : rdS (rd (hp w0) (.slice 5 (.int .u8))) 1 (hp w0) A0 c0 l0) (r : (Option ((List (List Int)) × (List Int) × Int)) × Int) (H : text_New.f l0 = some r) :
    Calls Try.prog 8 #[.slice A0 l0.length c0] w0 (fun e w' => ∃ v, e = .returned v ∧ text_New.post w0 r v w') := by
  have hS : Sat w0 (rf w0) [] := Sat.start w0
  unfold text_New.f at H
  refine calls_of_WC (vs := [.slice A0 l0.length c0]) Try.func8 (c := C8) (n := 68) (by kernel_rfl) (by kernel_rfl) (by kernel_rfl) ?_
  refine WC.seq (by kernel_rfl) ?_
  refine WC.reg [0, 1] (by kernel_rfl) (by kernel_rfl) ?_
  refine WR.runk [0, 1] [] [0] (L' := [(0, .slice A0 l0.length c0)]) (w' := w0) (by kernel_rfl) ?_
  refine WR.nil ?_
  refine At.go ?_
  refine WC.seq (by kernel_rfl) ?_
  refine WC.seq (by kernel_rfl) ?_
  refine WC.reg [0, 1, 2] (by kernel_rfl) (by kernel_rfl) ?_
  refine WR.runk [0, 1, 2] [] [0, 9] (L' := [(0, .slice A0 l0.length c0), (9, .bool (decide ((l0.length : Int) > 256)))]) (w' := w0) (by kernel_rfl) ?_
  refine WR.nil ?_
  refine At.go ?_
  refine WC.cond (by kernel_rfl) (decide ((l0.length : Int) > 256)) (by kernel_rfl) (by kernel_rfl) (fun hb1 => ?_) (fun hb1 => ?_)
  · replace H := ite_t H hb1
    refine WC.seq (by kernel_rfl) ?_
    refine WC.reg [0, 1] (by kernel_rfl) (by kernel_rfl) ?_
    refine WR.runk [0, 1] [] [2, 3] (L' := [(2, .pointer none), (3, .int .i64 80)]) (w' := w0) (by kernel_rfl) ?_
    refine WR.nil ?_
    refine At.go ?_
    refine WC.ret (by kernel_rfl) ?_
    refine At.thenRet ?_
    obtain rfl := Option.some.inj H
    have hS := optP.nil (O := O45) hS
    have hS : Sat w0 (rf w0) [optP O45 (.pointer none) none] := hS.sel [0] (by kernel_rfl)
    exact At.body [.pointer none, .int .i64 80] (by kernel_rfl) ⟨_, rfl, _, rfl, hS⟩
  · replace H := ite_f H hb1
    refine WC.skip (by kernel_rfl) ?_
    refine At.go ?_
    refine WC.seq (by kernel_rfl) ?_
    refine WC.reg [0, 1, 2] (by kernel_rfl) (by kernel_rfl) ?_
    refine WR.runk [0] [1, 2] [0, 10] (L' := [(0, .slice A0 l0.length c0), (10, .agg #[.slice none 0 0, .slice none 0 0, .int .i64 0])]) (w' := w0) (by kernel_rfl) ?_
    refine WR.st (St.box hS (by kernel_rfl) (.cells #[.slice none 0 0, .slice none 0 0, .int .i64 0] 45) (fun b2 => .pointer (some ⟨b2, 0, none⟩)) (fun _ => by kernel_rfl) (fun b2 w3 hS => ?_))
    refine WR.runk [2] [] [0, 4] (L' := [(0, .slice A0 l0.length c0), (4, .pointer (some ⟨b2, 0, none⟩))]) (w' := w3) (by kernel_rfl) ?_
    refine WR.nil ?_
    refine At.go ?_
    refine WC.seq (by kernel_rfl) ?_
    refine WC.seq (by kernel_rfl) ?_
    refine WC.reg [0, 1, 2] (by kernel_rfl) (by kernel_rfl) ?_
    refine WR.runk [0, 1, 2] [] [4, 12, 13, 14] (L' := [(4, .pointer (some ⟨b2, 0, none⟩)), (12, .slice A0 l0.length c0), (13, .int .i64 (l0.length : Int)), (14, .int .i64 0)]) (w' := w3) (by kernel_rfl) ?_
    refine WR.nil ?_
    refine At.go ?_
    refine WC.block (by kernel_rfl) ?_
    have hS := hS.addNilR (α := (List Int)) 24 (Esl 5 (.int .u8)) 1
    have hS := hS.addNil (α := Int) 3 (r0 (.int .i64)) 1
    have hS : Sat w3 (rf w0) [pts b2 (.cells #[.slice none 0 0, .slice none 0 0, .int .i64 0] 45 (0, 0)), orw 24 (Esl 5 (.int .u8)) 1 none 0 ([] : List (List Int)), osl 3 (r0 (.int .i64)) 1 none 0 ([] : List Int)] := hS.sel [2, 1, 0] (by kernel_rfl)
    have hS : Sat w3 (rf w0) [O45 b2 (([] : List (List Int)), ([] : List Int), 0)] := O45.close (([] : List (List Int)), ([] : List Int), 0) none 0 none 0 hS
    have hS : Sat w3 (rf w0) [O45 b2 (([] : List (List Int)), ([] : List Int), 0)] := hS.sel [0] (by kernel_rfl)
    obtain ⟨o55, e56, H⟩ := bind_ex H
    refine WC.loop (by kernel_rfl) ?_
    refine WL.weaken [4, 12, 13, 14] (L' := [(4, .pointer (some ⟨b2, 0, none⟩)), (12, .slice A0 l0.length c0), (13, .int .i64 (l0.length : Int)), (14, .int .i64 0)]) (by kernel_rfl) ?_
    refine text_New.l1_ok w0 A0 c0 l0 b2 R0 o55 (fun o57 w59 ho60 hS => ?_) (fun o61 w63 ho64 hS => ?_) FU 0 (([] : List (List Int)), ([] : List Int), 0) _ hS e56
    · subst ho60
      dsimp only at H
      refine At.blockRet ?_
      refine At.thenRet ?_
      obtain rfl := Option.some.inj H
      have hS := optP.nil (O := O45) hS
      have hS : Sat w59 (rf w0) [optP O45 (.pointer none) none] := hS.sel [0] (by kernel_rfl)
      exact At.body [.pointer none, .int .i64 o57.1] (by kernel_rfl) ⟨_, rfl, _, rfl, hS⟩
    · subst ho64
      dsimp only at H
      refine At.hit ?_
      refine At.go ?_
      refine WC.seq (by kernel_rfl) ?_
      refine WC.reg [0, 1, 2] (by kernel_rfl) (by kernel_rfl) ?_
      refine WR.runk [0, 1, 2] [] [2, 3] (L' := [(2, .pointer (some ⟨b2, 0, none⟩)), (3, .int .i64 0)]) (w' := w63) (by kernel_rfl) ?_
      refine WR.nil ?_
      refine At.go ?_
      refine WC.ret (by kernel_rfl) ?_
      obtain rfl := Option.some.inj H
      have hS : Sat w63 (rf w0) [optP O45 (.pointer (some ⟨b2, 0, none⟩)) (some o61)] := optP.mk hS
      have hS : Sat w63 (rf w0) [optP O45 (.pointer (some ⟨b2, 0, none⟩)) (some o61)] := hS.sel [0] (by kernel_rfl)
      exact At.body [.pointer (some ⟨b2, 0, none⟩), .int .i64 0] (by kernel_rfl) ⟨_, rfl, _, rfl, hS⟩
/-! ### 12 (*colophon/text.Text).Len -/
def text_Text_Len.f (p0 : Option ((List (List Int)) × (List Int) × Int)) : Option Int := (match p0 with | none => some 0 | some y3 => some y3.2.2)
def text_Text_Len.post (w : World) (r : Int) (v : Value) (w' : World) : Prop := v = (.int .i64 r : Value) ∧ Sat w' (rf w) []
theorem text_Text_Len.calls (w0 : World) (v0 : Value) (p0 : Option ((List (List Int)) × (List Int) × Int)) (R0 : rd (hp w0) (.ptr 45 (.pair (.slice 24 (.slice 5 (.int .u8))) (.pair (.slice 3 (.int .i64)) (.int .i64)))) [v0] p0) (r : Int) (H : text_Text_Len.f p0 = some r) :
    Calls Try.prog 12 #[v0] w0 (fun e w' => ∃ v, e = .returned v ∧ text_Text_Len.post w0 r v w') := by
  have hS : Sat w0 (rf w0) [] := Sat.start w0
  unfold text_Text_Len.f at H
  refine calls_of_WC (vs := [v0]) Try.func12 (c := C12) (n := 9) (by kernel_rfl) (by kernel_rfl) (by kernel_rfl) ?_
  refine WC.seq (by kernel_rfl) ?_
  refine WC.reg [0] (by kernel_rfl) (by kernel_rfl) ?_
  refine WR.runk [0] [] [0] (L' := [(0, v0)]) (w' := w0) (by kernel_rfl) ?_
  refine WR.nil ?_
  refine At.go ?_
  refine WC.seq (by kernel_rfl) ?_
  refine WC.seq (by kernel_rfl) ?_
  refine WC.reg [0, 1] (by kernel_rfl) (by kernel_rfl) ?_
  refine WR.runk [0] [1] [0, 3] (L' := [(0, v0), (3, v0)]) (w' := w0) (by kernel_rfl) ?_
  rcases opt_cases p0 with hr1 | ⟨y3, hr1⟩
  · rw [hr1] at H
    dsimp only at H
    have hx2 := rd_ptr_none R0 hr1
    try subst hx2
    refine WR.runk [1] [] [0, 4] (L' := [(0, .pointer none), (4, .bool true)]) (w' := w0) (by kernel_rfl) ?_
    refine WR.nil ?_
    refine At.go ?_
    refine WC.condT (by kernel_rfl) (by kernel_rfl) (by kernel_rfl) ?_
    refine WC.seq (by kernel_rfl) ?_
    refine WC.reg [0] (by kernel_rfl) (by kernel_rfl) ?_
    refine WR.runk [0] [] [2] (L' := [(2, .int .i64 0)]) (w' := w0) (by kernel_rfl) ?_
    refine WR.nil ?_
    refine At.go ?_
    refine WC.ret (by kernel_rfl) ?_
    refine At.thenRet ?_
    obtain rfl := Option.some.inj H
    have hS : Sat w0 (rf w0) [] := hS.sel [] (by kernel_rfl)
    exact At.body [.int .i64 0] (by kernel_rfl) ⟨_, rfl, rfl, hS⟩
  · rw [hr1] at H
    dsimp only at H
    obtain ⟨b4, fr5, A9, c10, A12, c13, hv6, hb7, R11, R14⟩ := P45.open R0 hr1
    have R8 := R0
    rw [hv6, hr1] at R8
    try subst hv6
    replace R11 : rdS (rd (hp w0) (.slice 5 (.int .u8))) 1 (hp w0) A9 c10 y3.1 := R11
    replace R14 : rdS (r0 (.int .i64)) 1 (hp w0) A12 c13 y3.2.1 := R14
    refine WR.runk [1] [] [0, 4] (L' := [(0, .pointer (some ⟨b4, 0, none⟩)), (4, .bool false)]) (w' := w0) (by kernel_rfl) ?_
    refine WR.nil ?_
    refine At.go ?_
    refine WC.condF (by kernel_rfl) (by kernel_rfl) (by kernel_rfl) ?_
    refine WC.skip (by kernel_rfl) ?_
    refine At.go ?_
    refine WC.seq (by kernel_rfl) ?_
    refine WC.reg [0, 1, 2, 3, 4] (by kernel_rfl) (by kernel_rfl) ?_
    refine WR.runk [0, 1, 2] [3, 4] [7] (L' := [(7, .pointer (some ⟨b4, 2, none⟩))]) (w' := w0) (by kernel_rfl) ?_
    refine WR.st (St.ofR (RSt.loadRo (t := 3) (k := 2) (v := .int .i64 y3.2.2) (.tmp 7) (by kernel_rfl) (by kernel_rfl) (by kernel_rfl) hS.sub0 hb7 (by kernel_rfl) rfl ?_))
    refine WR.runk [4] [] [2] (L' := [(2, .int .i64 y3.2.2)]) (w' := w0) (by kernel_rfl) ?_
    refine WR.nil ?_
    refine At.go ?_
    refine WC.ret (by kernel_rfl) ?_
    obtain rfl := Option.some.inj H
    have hS : Sat w0 (rf w0) [] := hS.sel [] (by kernel_rfl)
    exact At.body [.int .i64 y3.2.2] (by kernel_rfl) ⟨_, rfl, rfl, hS⟩
/-! ### 23 sort.SearchInts -/
def sort_SearchInts.l1 (l0 : List Int) (a1 : Int) : Nat → Int → Int → Option Int
  | 0, _, _ => none
  | k + 1, x5_l1, x6_l1 => (if decide (x5_l1 < x6_l1) then ((at? l0 (wi (ishr .u64 (IntKind.wrap .u64 (wi (x5_l1 + x6_l1))) 1))).bind fun v10 => (if (!(decide (v10 ≥ a1))) then sort_SearchInts.l1 l0 a1 k (wi ((wi (ishr .u64 (IntKind.wrap .u64 (wi (x5_l1 + x6_l1))) 1)) + 1)) x6_l1 else sort_SearchInts.l1 l0 a1 k x5_l1 (wi (ishr .u64 (IntKind.wrap .u64 (wi (x5_l1 + x6_l1))) 1)))) else some x5_l1)
def sort_SearchInts.f (l0 : List Int) (a1 : Int) : Option Int := ((sort_SearchInts.l1 l0 a1 FU 0 (l0.length : Int)).bind fun o13 => some o13)
def sort_SearchInts.post (w : World) (r : Int) (v : Value) (w' : World) : Prop := v = (.int .i64 r : Value) ∧ Sat w' (rf w) []
theorem sort_SearchInts.l1_ok {Q} (w0 : World) (A0 : Option Addr) (c0 : Nat) (l0 : List Int) (a1 : Int) (b1 : Nat) (b4 : Nat) (R0 : rdS (r0 (.int .i64)) 1 (hp w0) A0 c0 l0) (out : Int) (hn0 : ∀ (w : World), Sat w (rf w0) [pts b4 (.cells #[.int .i64 a1] 3 (0, 0)), pts b1 (.cells #[.slice A0 l0.length c0] 30 (0, 0))] → At Q (.exit 0) 26 [(5, .int .i64 out)] w) :
    ∀ (k : Nat) (x5_l1 : Int) (x6_l1 : Int) (w : World), Sat w (rf w0) [pts b4 (.cells #[.int .i64 a1] 3 (0, 0)), pts b1 (.cells #[.slice A0 l0.length c0] 30 (0, 0))] → sort_SearchInts.l1 l0 a1 k x5_l1 x6_l1 = some out → WL Try.prog (cbody (cbody (cl (cr (cr C24))))) Q 26 [(1, .func (.func 25) #[] #[.pointer (some ⟨b1, 0, none⟩), .pointer (some ⟨b4, 0, none⟩)]), (5, .int .i64 x5_l1), (6, .int .i64 x6_l1)] w := by
  intro k
  induction k with
  | zero => intro x5_l1 x6_l1 w hS H; exact absurd (show none = some out from H) (by simp)
  | succ k ih =>
    intro x5_l1 x6_l1 w hS H
    unfold sort_SearchInts.l1 at H
    refine WL.round ?_
    refine WC.seq (by kernel_rfl) ?_
    refine WC.seq (by kernel_rfl) ?_
    refine WC.reg [0, 1, 2] (by kernel_rfl) (by kernel_rfl) ?_
    refine WR.runk [0, 1, 2] [] [1, 5, 6, 11] (L' := [(1, .func (.func 25) #[] #[.pointer (some ⟨b1, 0, none⟩), .pointer (some ⟨b4, 0, none⟩)]), (5, .int .i64 x5_l1), (6, .int .i64 x6_l1), (11, .bool (decide (x5_l1 < x6_l1)))]) (w' := w) (by kernel_rfl) ?_
    refine WR.nil ?_
    refine At.go ?_
    refine WC.cond (by kernel_rfl) (decide (x5_l1 < x6_l1)) (by kernel_rfl) (by kernel_rfl) (fun hb7 => ?_) (fun hb7 => ?_)
    · replace H := ite_t H hb7
      refine WC.skip (by kernel_rfl) ?_
      refine At.go ?_
      refine WC.block (by kernel_rfl) ?_
      refine WC.seq (by kernel_rfl) ?_
      refine WC.reg [0, 1, 2, 3, 4, 5, 6] (by kernel_rfl) (by kernel_rfl) ?_
      refine WR.runk [0, 1, 2, 3, 4, 5, 6] [] [1, 5, 6, 7] (L' := [(1, .func (.func 25) #[] #[.pointer (some ⟨b1, 0, none⟩), .pointer (some ⟨b4, 0, none⟩)]), (5, .int .i64 x5_l1), (6, .int .i64 x6_l1), (7, .int .i64 (wi (ishr .u64 (IntKind.wrap .u64 (wi (x5_l1 + x6_l1))) 1)))]) (w' := w) (by kernel_rfl) ?_
      refine WR.nil ?_
      refine At.go ?_
      refine WC.seq (by kernel_rfl) ?_
      refine WC.reg [0, 1, 2, 3] (by kernel_rfl) (by kernel_rfl) ?_
      refine WR.runk [0, 1] [2, 3] [1, 5, 6, 7, 18, 19] (L' := [(1, .func (.func 25) #[] #[.pointer (some ⟨b1, 0, none⟩), .pointer (some ⟨b4, 0, none⟩)]), (5, .int .i64 x5_l1), (6, .int .i64 x6_l1), (7, .int .i64 (wi (ishr .u64 (IntKind.wrap .u64 (wi (x5_l1 + x6_l1))) 1))), (18, .func (.func 25) #[] #[.pointer (some ⟨b1, 0, none⟩), .pointer (some ⟨b4, 0, none⟩)]), (19, .int .i64 (wi (ishr .u64 (IntKind.wrap .u64 (wi (x5_l1 + x6_l1))) 1)))]) (w' := w) (by kernel_rfl) ?_
      refine WR.st (St.call (by kernel_rfl) (f := 25) (args := #[.int .i64 (wi (ishr .u64 (IntKind.wrap .u64 (wi (x5_l1 + x6_l1))) 1)), .pointer (some ⟨b1, 0, none⟩), .pointer (some ⟨b4, 0, none⟩)]) (by kernel_rfl) (calls_of_WC (vs := [.int .i64 (wi (ishr .u64 (IntKind.wrap .u64 (wi (x5_l1 + x6_l1))) 1)), .pointer (some ⟨b1, 0, none⟩), .pointer (some ⟨b4, 0, none⟩)]) Try.func25 (c := C25) (n := 11) (by kernel_rfl) (by kernel_rfl) (by kernel_rfl) ?_) (fun _ _ h => h))
      refine WC.seq (by kernel_rfl) ?_
      refine WC.reg [0] (by kernel_rfl) (by kernel_rfl) ?_
      refine WR.runk [0] [] [0, 1, 2] (L' := [(0, .int .i64 (wi (ishr .u64 (IntKind.wrap .u64 (wi (x5_l1 + x6_l1))) 1))), (1, .pointer (some ⟨b1, 0, none⟩)), (2, .pointer (some ⟨b4, 0, none⟩))]) (w' := w) (by kernel_rfl) ?_
      refine WR.nil ?_
      refine At.go ?_
      refine WC.seq (by kernel_rfl) ?_
      refine WC.drawn (by kernel_rfl) (by kernel_rfl) 7 (by kernel_rfl) (fun w8 hw9 => ?_)
      have hS := hS.heap hw9.1 hw9.2
      refine WD.weaken [0, 1, 2] (L' := [(0, .int .i64 (wi (ishr .u64 (IntKind.wrap .u64 (wi (x5_l1 + x6_l1))) 1))), (1, .pointer (some ⟨b1, 0, none⟩)), (2, .pointer (some ⟨b4, 0, none⟩))]) (by kernel_rfl) ?_
      refine WD.ofR (i := 0) (by kernel_rfl) (RSt.loadObj (t := 30) (k := 0) (v := .slice A0 l0.length c0) (.tmp 1) (by kernel_rfl) (by kernel_rfl) (by kernel_rfl) 1 hS rfl (by kernel_rfl) rfl ?_)
      refine WD.weaken [0, 2, 5] (L' := [(0, .int .i64 (wi (ishr .u64 (IntKind.wrap .u64 (wi (x5_l1 + x6_l1))) 1))), (2, .pointer (some ⟨b4, 0, none⟩)), (5, .slice A0 l0.length c0)]) (by kernel_rfl) ?_
      refine WD.pure (i := 1) (v := .int .i64 (wi (ishr .u64 (IntKind.wrap .u64 (wi (x5_l1 + x6_l1))) 1))) (by kernel_rfl) (by kernel_rfl) (fun _ => by kernel_rfl) ?_
      refine WD.weaken [2, 5, 6] (L' := [(2, .pointer (some ⟨b4, 0, none⟩)), (5, .slice A0 l0.length c0), (6, .int .i64 (wi (ishr .u64 (IntKind.wrap .u64 (wi (x5_l1 + x6_l1))) 1)))]) (by kernel_rfl) ?_
      obtain ⟨v10, e11, H⟩ := bind_ex H
      refine WD.ofP (i := 2) (by kernel_rfl) (PSt.idx (k := .i64) (.tmp 5) (.tmp 6) (by kernel_rfl) (by kernel_rfl) E30 (by kernel_rfl) (by kernel_rfl) (rdS.up R0 hS.sub0) e11 ?_)
      refine WD.weaken [2, 7] (L' := [(2, .pointer (some ⟨b4, 0, none⟩)), (7, .pointer (some (adr A0 (wi (ishr .u64 (IntKind.wrap .u64 (wi (x5_l1 + x6_l1))) 1)).toNat 1)))]) (by kernel_rfl) ?_
      refine WD.ofR (i := 3) (by kernel_rfl) (RSt.loadInt (t := 3) (.tmp 7) (by kernel_rfl) (by kernel_rfl) (by kernel_rfl) (by kernel_rfl) (rdS.up R0 hS.sub0) e11 ?_)
      refine WD.weaken [2, 8] (L' := [(2, .pointer (some ⟨b4, 0, none⟩)), (8, .int .i64 v10)]) (by kernel_rfl) ?_
      refine WD.ofR (i := 4) (by kernel_rfl) (RSt.loadObj (t := 3) (k := 0) (v := .int .i64 a1) (.tmp 2) (by kernel_rfl) (by kernel_rfl) (by kernel_rfl) 0 hS rfl (by kernel_rfl) rfl ?_)
      refine WD.weaken [8, 9] (L' := [(8, .int .i64 v10), (9, .int .i64 a1)]) (by kernel_rfl) ?_
      refine WD.pure (i := 5) (v := .bool (decide (v10 ≥ a1))) (by kernel_rfl) (by kernel_rfl) (fun _ => by kernel_rfl) ?_
      refine WD.weaken [10] (L' := [(10, .bool (decide (v10 ≥ a1)))]) (by kernel_rfl) ?_
      refine WD.pure (i := 6) (v := .bool (decide (v10 ≥ a1))) (by kernel_rfl) (by kernel_rfl) (fun _ => by kernel_rfl) ?_
      refine WD.weaken [4] (L' := [(4, .bool (decide (v10 ≥ a1)))]) (by kernel_rfl) ?_
      refine WD.nil (by kernel_rfl) ?_
      refine At.go ?_
      refine WC.ret (by kernel_rfl) ?_
      refine At.bodyK [.bool (decide (v10 ≥ a1))] (.bool (decide (v10 ≥ a1))) (by kernel_rfl) rfl ?_
      refine WR.runk [3] [] [1, 5, 6, 7, 21] (L' := [(1, .func (.func 25) #[] #[.pointer (some ⟨b1, 0, none⟩), .pointer (some ⟨b4, 0, none⟩)]), (5, .int .i64 x5_l1), (6, .int .i64 x6_l1), (7, .int .i64 (wi (ishr .u64 (IntKind.wrap .u64 (wi (x5_l1 + x6_l1))) 1))), (21, .bool (!(decide (v10 ≥ a1))))]) (w' := w8) (by kernel_rfl) ?_
      refine WR.nil ?_
      refine At.go ?_
      refine WC.cond (by kernel_rfl) (!(decide (v10 ≥ a1))) (by kernel_rfl) (by kernel_rfl) (fun hb12 => ?_) (fun hb12 => ?_)
      · replace H := ite_t H hb12
        refine WC.reg [0, 1, 2] (by kernel_rfl) (by kernel_rfl) ?_
        refine WR.runk [0, 1, 2] [] [1, 5, 6] (L' := [(1, .func (.func 25) #[] #[.pointer (some ⟨b1, 0, none⟩), .pointer (some ⟨b4, 0, none⟩)]), (5, .int .i64 (wi ((wi (ishr .u64 (IntKind.wrap .u64 (wi (x5_l1 + x6_l1))) 1)) + 1))), (6, .int .i64 x6_l1)]) (w' := w8) (by kernel_rfl) ?_
        refine WR.nil ?_
        refine At.blockNormal ?_
        have hS : Sat w8 (rf w0) [pts b4 (.cells #[.int .i64 a1] 3 (0, 0)), pts b1 (.cells #[.slice A0 l0.length c0] 30 (0, 0))] := hS.sel [0, 1] (by kernel_rfl)
        refine At.again ?_
        refine WL.weaken [1, 5, 6] (L' := [(1, .func (.func 25) #[] #[.pointer (some ⟨b1, 0, none⟩), .pointer (some ⟨b4, 0, none⟩)]), (5, .int .i64 (wi ((wi (ishr .u64 (IntKind.wrap .u64 (wi (x5_l1 + x6_l1))) 1)) + 1))), (6, .int .i64 x6_l1)]) (by kernel_rfl) ?_
        exact ih (wi ((wi (ishr .u64 (IntKind.wrap .u64 (wi (x5_l1 + x6_l1))) 1)) + 1)) x6_l1 _ hS H
      · replace H := ite_f H hb12
        refine WC.reg [0, 1] (by kernel_rfl) (by kernel_rfl) ?_
        refine WR.runk [0, 1] [] [1, 5, 6] (L' := [(1, .func (.func 25) #[] #[.pointer (some ⟨b1, 0, none⟩), .pointer (some ⟨b4, 0, none⟩)]), (5, .int .i64 x5_l1), (6, .int .i64 (wi (ishr .u64 (IntKind.wrap .u64 (wi (x5_l1 + x6_l1))) 1)))]) (w' := w8) (by kernel_rfl) ?_
        refine WR.nil ?_
        refine At.blockNormal ?_
        have hS : Sat w8 (rf w0) [pts b4 (.cells #[.int .i64 a1] 3 (0, 0)), pts b1 (.cells #[.slice A0 l0.length c0] 30 (0, 0))] := hS.sel [0, 1] (by kernel_rfl)
        refine At.again ?_
        refine WL.weaken [1, 5, 6] (L' := [(1, .func (.func 25) #[] #[.pointer (some ⟨b1, 0, none⟩), .pointer (some ⟨b4, 0, none⟩)]), (5, .int .i64 x5_l1), (6, .int .i64 (wi (ishr .u64 (IntKind.wrap .u64 (wi (x5_l1 + x6_l1))) 1)))]) (by kernel_rfl) ?_
        exact ih x5_l1 (wi (ishr .u64 (IntKind.wrap .u64 (wi (x5_l1 + x6_l1))) 1)) _ hS H
    · replace H := ite_f H hb7
      refine WC.exit (by kernel_rfl) ?_
      refine At.thenExit ?_
      refine At.thenExit ?_
      obtain rfl := Option.some.inj H
      have hS : Sat w (rf w0) [pts b4 (.cells #[.int .i64 a1] 3 (0, 0)), pts b1 (.cells #[.slice A0 l0.length c0] 30 (0, 0))] := hS.sel [0, 1] (by kernel_rfl)
      refine At.weaken [5] (L' := [(5, .int .i64 x5_l1)]) (by kernel_rfl) ?_
      exact hn0 _ hS
theorem sort_SearchInts.calls (w0 : World) (A0 : Option Addr) (c0 : Nat) (l0 : List Int) (R0 : rdS (r0 (.int .i64)) 1 (hp w0) A0 c0 l0) (a1 : Int) (r : Int) (H : sort_SearchInts.f l0 a1 = some r) :
    Calls Try.prog 23 #[.slice A0 l0.length c0, .int .i64 a1] w0 (fun e w' => ∃ v, e = .returned v ∧ sort_SearchInts.post w0 r v w') := by
  have hS : Sat w0 (rf w0) [] := Sat.start w0
  unfold sort_SearchInts.f at H
  refine calls_of_WC (vs := [.slice A0 l0.length c0, .int .i64 a1]) Try.func23 (c := C23) (n := 9) (by kernel_rfl) (by kernel_rfl) (by kernel_rfl) ?_
  refine WC.seq (by kernel_rfl) ?_
  refine WC.reg [0, 1, 2] (by kernel_rfl) (by kernel_rfl) ?_
  refine WR.runk [] [0, 1, 2] [0, 1] (L' := [(0, .slice A0 l0.length c0), (1, .int .i64 a1)]) (w' := w0) (by kernel_rfl) ?_
  refine WR.st (St.box hS (by kernel_rfl) (.cells #[.slice A0 l0.length c0] 30) (fun b1 => .pointer (some ⟨b1, 0, none⟩)) (fun _ => by kernel_rfl) (fun b1 w2 hS => ?_))
  refine WR.runk [] [1, 2] [1, 2] (L' := [(1, .int .i64 a1), (2, .pointer (some ⟨b1, 0, none⟩))]) (w' := w2) (by kernel_rfl) ?_
  refine WR.st (St.box hS (by kernel_rfl) (.cells #[.int .i64 a1] 3) (fun b4 => .pointer (some ⟨b4, 0, none⟩)) (fun _ => by kernel_rfl) (fun b4 w5 hS => ?_))
  refine WR.runk [2] [] [2, 3] (L' := [(2, .pointer (some ⟨b1, 0, none⟩)), (3, .pointer (some ⟨b4, 0, none⟩))]) (w' := w5) (by kernel_rfl) ?_
  refine WR.nil ?_
  refine At.go ?_
  refine WC.seq (by kernel_rfl) ?_
  refine WC.reg [0, 1, 2, 3, 4] (by kernel_rfl) (by kernel_rfl) ?_
  refine WR.st (St.ofR (RSt.loadObj (t := 30) (k := 0) (v := .slice A0 l0.length c0) (.tmp 2) (by kernel_rfl) (by kernel_rfl) (by kernel_rfl) 1 hS rfl (by kernel_rfl) rfl ?_))
  refine WR.runk [1, 2] [3, 4] [6, 7] (L' := [(6, .int .i64 (l0.length : Int)), (7, .func (.func 25) #[] #[.pointer (some ⟨b1, 0, none⟩), .pointer (some ⟨b4, 0, none⟩)])]) (w' := w5) (by kernel_rfl) ?_
  refine WR.st (St.call (by kernel_rfl) (f := 24) (args := #[.int .i64 (l0.length : Int), .func (.func 25) #[] #[.pointer (some ⟨b1, 0, none⟩), .pointer (some ⟨b4, 0, none⟩)]]) (by kernel_rfl) (calls_of_WC (vs := [.int .i64 (l0.length : Int), .func (.func 25) #[] #[.pointer (some ⟨b1, 0, none⟩), .pointer (some ⟨b4, 0, none⟩)]]) Try.func24 (c := C24) (n := 26) (by kernel_rfl) (by kernel_rfl) (by kernel_rfl) ?_) (fun _ _ h => h))
  refine WC.seq (by kernel_rfl) ?_
  refine WC.reg [0] (by kernel_rfl) (by kernel_rfl) ?_
  refine WR.runk [0] [] [0, 1] (L' := [(0, .int .i64 (l0.length : Int)), (1, .func (.func 25) #[] #[.pointer (some ⟨b1, 0, none⟩), .pointer (some ⟨b4, 0, none⟩)])]) (w' := w5) (by kernel_rfl) ?_
  refine WR.nil ?_
  refine At.go ?_
  refine WC.seq (by kernel_rfl) ?_
  refine WC.reg [0, 1, 2] (by kernel_rfl) (by kernel_rfl) ?_
  refine WR.runk [0, 1, 2] [] [1, 5, 6] (L' := [(1, .func (.func 25) #[] #[.pointer (some ⟨b1, 0, none⟩), .pointer (some ⟨b4, 0, none⟩)]), (5, .int .i64 0), (6, .int .i64 (l0.length : Int))]) (w' := w5) (by kernel_rfl) ?_
  refine WR.nil ?_
  refine At.go ?_
  refine WC.seq (by kernel_rfl) ?_
  refine WC.block (by kernel_rfl) ?_
  have hS : Sat w5 (rf w0) [pts b4 (.cells #[.int .i64 a1] 3 (0, 0)), pts b1 (.cells #[.slice A0 l0.length c0] 30 (0, 0))] := hS.sel [0, 1] (by kernel_rfl)
  obtain ⟨o13, e14, H⟩ := bind_ex H
  refine WC.loop (by kernel_rfl) ?_
  refine WL.weaken [1, 5, 6] (L' := [(1, .func (.func 25) #[] #[.pointer (some ⟨b1, 0, none⟩), .pointer (some ⟨b4, 0, none⟩)]), (5, .int .i64 0), (6, .int .i64 (l0.length : Int))]) (by kernel_rfl) ?_
  refine sort_SearchInts.l1_ok w0 A0 c0 l0 a1 b1 b4 R0 o13 (fun w16 hS => ?_) FU 0 (l0.length : Int) _ hS e14
  refine At.hit ?_
  refine At.go ?_
  refine WC.seq (by kernel_rfl) ?_
  refine WC.reg [0, 1] (by kernel_rfl) (by kernel_rfl) ?_
  refine WR.runk [0, 1] [] [4] (L' := [(4, .int .i64 o13)]) (w' := w16) (by kernel_rfl) ?_
  refine WR.nil ?_
  refine At.go ?_
  refine WC.ret (by kernel_rfl) ?_
  refine At.bodyK [.int .i64 o13] (.int .i64 o13) (by kernel_rfl) rfl ?_
  refine WR.runk [4] [] [4] (L' := [(4, .int .i64 o13)]) (w' := w16) (by kernel_rfl) ?_
  refine WR.nil ?_
  refine At.go ?_
  refine WC.ret (by kernel_rfl) ?_
  obtain rfl := Option.some.inj H
  have hS : Sat w16 (rf w0) [] := hS.sel [] (by kernel_rfl)
  exact At.body [.int .i64 o13] (by kernel_rfl) ⟨_, rfl, rfl, hS⟩
/-! ### 16 (*colophon/text.Text).Doc -/
def text_Text_Doc.f (p0 : Option ((List (List Int)) × (List Int) × Int)) (a1 : Int) : Option (Int × Int) := (if decide (a1 < 0) then some ((-1), (-1)) else ((text_Text_Len.f p0).bind fun r2 => (if decide (a1 ≥ r2) then some ((-1), (-1)) else (p0.bind fun y14 => ((sort_SearchInts.f y14.2.1 (wi (a1 + 1))).bind fun r26 => ((at? y14.2.1 (wi (r26 - 1))).bind fun v37 => some (wi (r26 - 1), wi (a1 - v37))))))))
def text_Text_Doc.post (w : World) (r : Int × Int) (v : Value) (w' : World) : Prop := v = .tuple #[.int .i64 r.1, .int .i64 r.2] ∧ Sat w' (rf w) []
theorem text_Text_Doc.calls (w0 : World) (v0 : Value) (p0 : Option ((List (List Int)) × (List Int) × Int)) (R0 : rd (hp w0) (.ptr 45 (.pair (.slice 24 (.slice 5 (.int .u8))) (.pair (.slice 3 (.int .i64)) (.int .i64)))) [v0] p0) (a1 : Int) (r : Int × Int) (H : text_Text_Doc.f p0 a1 = some r) :
    Calls Try.prog 16 #[v0, .int .i64 a1] w0 (fun e w' => ∃ v, e = .returned v ∧ text_Text_Doc.post w0 r v w') := by
  have hS : Sat w0 (rf w0) [] := Sat.start w0
  unfold text_Text_Doc.f at H
  refine calls_of_WC (vs := [v0, .int .i64 a1]) Try.func16 (c := C16) (n := 33) (by kernel_rfl) (by kernel_rfl) (by kernel_rfl) ?_
  refine WC.seq (by kernel_rfl) ?_
  refine WC.reg [0, 1] (by kernel_rfl) (by kernel_rfl) ?_
  refine WR.runk [0, 1] [] [0, 1] (L' := [(0, v0), (1, .int .i64 a1)]) (w' := w0) (by kernel_rfl) ?_
  refine WR.nil ?_
  refine At.go ?_
  refine WC.seq (by kernel_rfl) ?_
  refine WC.seq (by kernel_rfl) ?_
  refine WC.reg [0, 1, 2, 3, 4, 5, 6, 7] (by kernel_rfl) (by kernel_rfl) ?_
  refine WR.runk [0, 1, 2] [3, 4, 5, 6, 7] [0, 1, 9] (L' := [(0, v0), (1, .int .i64 a1), (9, .bool (decide (a1 < 0)))]) (w' := w0) (by kernel_rfl) ?_
  refine WR.split 9 (b := decide (a1 < 0)) (by kernel_rfl) (fun hb1 => ?_) (fun hb1 => ?_)
  · replace H := ite_t H hb1
    refine WR.runk [3, 4, 5, 6, 7] [] [0, 1, 14] (L' := [(0, v0), (1, .int .i64 a1), (14, .bool true)]) (w' := w0) (by kernel_rfl) ?_
    refine WR.nil ?_
    refine At.go ?_
    refine WC.condT (by kernel_rfl) (by kernel_rfl) (by kernel_rfl) ?_
    refine WC.seq (by kernel_rfl) ?_
    refine WC.reg [0, 1] (by kernel_rfl) (by kernel_rfl) ?_
    refine WR.runk [0, 1] [] [4, 5] (L' := [(4, .int .i64 (-1)), (5, .int .i64 (-1))]) (w' := w0) (by kernel_rfl) ?_
    refine WR.nil ?_
    refine At.go ?_
    refine WC.ret (by kernel_rfl) ?_
    refine At.thenRet ?_
    obtain rfl := Option.some.inj H
    have hS : Sat w0 (rf w0) [] := hS.sel [] (by kernel_rfl)
    exact At.body [.int .i64 (-1), .int .i64 (-1)] (by kernel_rfl) ⟨_, rfl, rfl, hS⟩
  · replace H := ite_f H hb1
    refine WR.runk [3, 4] [5, 6, 7] [0, 1, 9, 10, 11] (L' := [(0, v0), (1, .int .i64 a1), (9, .bool false), (10, .int .i64 a1), (11, v0)]) (w' := w0) (by kernel_rfl) ?_
    obtain ⟨r2, e3, H⟩ := bind_ex H
    refine WR.st (St.call (by kernel_rfl) (f := 12) (args := #[v0]) (by kernel_rfl) (text_Text_Len.calls w0 (v0) p0 (rd.mono hS.sub0 _ _ _ R0) r2 e3) ?_)
    rintro _ w9 ⟨rfl, hS10⟩
    have hS : Sat w9 (rf w0) [] := hS.ext hS10
    refine WR.runk [6, 7] [] [0, 1, 14] (L' := [(0, v0), (1, .int .i64 a1), (14, .bool (decide (a1 ≥ r2)))]) (w' := w9) (by kernel_rfl) ?_
    refine WR.nil ?_
    refine At.go ?_
    refine WC.cond (by kernel_rfl) (decide (a1 ≥ r2)) (by kernel_rfl) (by kernel_rfl) (fun hb11 => ?_) (fun hb11 => ?_)
    · replace H := ite_t H hb11
      refine WC.seq (by kernel_rfl) ?_
      refine WC.reg [0, 1] (by kernel_rfl) (by kernel_rfl) ?_
      refine WR.runk [0, 1] [] [4, 5] (L' := [(4, .int .i64 (-1)), (5, .int .i64 (-1))]) (w' := w9) (by kernel_rfl) ?_
      refine WR.nil ?_
      refine At.go ?_
      refine WC.ret (by kernel_rfl) ?_
      refine At.thenRet ?_
      obtain rfl := Option.some.inj H
      have hS : Sat w9 (rf w0) [] := hS.sel [] (by kernel_rfl)
      exact At.body [.int .i64 (-1), .int .i64 (-1)] (by kernel_rfl) ⟨_, rfl, rfl, hS⟩
    · replace H := ite_f H hb11
      refine WC.skip (by kernel_rfl) ?_
      refine At.go ?_
      refine WC.seq (by kernel_rfl) ?_
      refine WC.reg [0, 1, 2, 3, 4, 5, 6, 7, 8] (by kernel_rfl) (by kernel_rfl) ?_
      refine WR.runk [0] [1, 2, 3, 4, 5, 6, 7, 8] [0, 1, 15] (L' := [(0, v0), (1, .int .i64 a1), (15, v0)]) (w' := w9) (by kernel_rfl) ?_
      obtain ⟨y14, hr12, H⟩ := bind_ex H
      obtain ⟨b15, fr16, A20, c21, A23, c24, hv17, hb18, R22, R25⟩ := P45.open R0 hr12
      have R19 := R0
      rw [hv17, hr12] at R19
      try subst hv17
      replace R22 : rdS (rd (hp w0) (.slice 5 (.int .u8))) 1 (hp w0) A20 c21 y14.1 := R22
      replace R25 : rdS (r0 (.int .i64)) 1 (hp w0) A23 c24 y14.2.1 := R25
      refine WR.runk [1, 2] [3, 4, 5, 6, 7, 8] [0, 1, 17] (L' := [(0, .pointer (some ⟨b15, 0, none⟩)), (1, .int .i64 a1), (17, .pointer (some ⟨b15, 1, none⟩))]) (w' := w9) (by kernel_rfl) ?_
      refine WR.st (St.ofR (RSt.loadRo (t := 30) (k := 1) (v := .slice A23 y14.2.1.length c24) (.tmp 17) (by kernel_rfl) (by kernel_rfl) (by kernel_rfl) hS.sub0 hb18 (by kernel_rfl) rfl ?_))
      refine WR.runk [4, 5] [6, 7, 8] [0, 1, 18, 20] (L' := [(0, .pointer (some ⟨b15, 0, none⟩)), (1, .int .i64 a1), (18, .slice A23 y14.2.1.length c24), (20, .int .i64 (wi (a1 + 1)))]) (w' := w9) (by kernel_rfl) ?_
      obtain ⟨r26, e27, H⟩ := bind_ex H
      refine WR.st (St.call (by kernel_rfl) (f := 23) (args := #[.slice A23 y14.2.1.length c24, .int .i64 (wi (a1 + 1))]) (by kernel_rfl) (sort_SearchInts.calls w9 A23 c24 y14.2.1 (rdS.up R25 hS.sub0) (wi (a1 + 1)) r26 e27) ?_)
      rintro _ w33 ⟨rfl, hS34⟩
      have hS : Sat w33 (rf w0) [] := hS.ext hS34
      refine WR.runk [7, 8] [] [0, 1, 6] (L' := [(0, .pointer (some ⟨b15, 0, none⟩)), (1, .int .i64 a1), (6, .int .i64 (wi (r26 - 1)))]) (w' := w33) (by kernel_rfl) ?_
      refine WR.nil ?_
      refine At.go ?_
      refine WC.seq (by kernel_rfl) ?_
      refine WC.drawn (by kernel_rfl) (by kernel_rfl) 12 (by kernel_rfl) (fun w35 hw36 => ?_)
      have hS := hS.heap hw36.1 hw36.2
      refine WD.weaken [0, 1, 6] (L' := [(0, .pointer (some ⟨b15, 0, none⟩)), (1, .int .i64 a1), (6, .int .i64 (wi (r26 - 1)))]) (by kernel_rfl) ?_
      refine WD.pure (i := 0) (v := .int .i64 (wi (r26 - 1))) (by kernel_rfl) (by kernel_rfl) (fun _ => by kernel_rfl) ?_
      refine WD.weaken [0, 1, 6, 23] (L' := [(0, .pointer (some ⟨b15, 0, none⟩)), (1, .int .i64 a1), (6, .int .i64 (wi (r26 - 1))), (23, .int .i64 (wi (r26 - 1)))]) (by kernel_rfl) ?_
      refine WD.pure (i := 1) (v := .int .i64 a1) (by kernel_rfl) (by kernel_rfl) (fun _ => by kernel_rfl) ?_
      refine WD.weaken [0, 6, 23, 24] (L' := [(0, .pointer (some ⟨b15, 0, none⟩)), (6, .int .i64 (wi (r26 - 1))), (23, .int .i64 (wi (r26 - 1))), (24, .int .i64 a1)]) (by kernel_rfl) ?_
      refine WD.pure (i := 2) (v := .pointer (some ⟨b15, 0, none⟩)) (by kernel_rfl) (by kernel_rfl) (fun _ => by kernel_rfl) ?_
      refine WD.weaken [6, 23, 24, 25] (L' := [(6, .int .i64 (wi (r26 - 1))), (23, .int .i64 (wi (r26 - 1))), (24, .int .i64 a1), (25, .pointer (some ⟨b15, 0, none⟩))]) (by kernel_rfl) ?_
      refine WD.pure (i := 3) (v := .pointer (some ⟨b15, 0, none⟩)) (by kernel_rfl) (by kernel_rfl) (fun _ => by kernel_rfl) ?_
      refine WD.weaken [6, 23, 24, 26] (L' := [(6, .int .i64 (wi (r26 - 1))), (23, .int .i64 (wi (r26 - 1))), (24, .int .i64 a1), (26, .pointer (some ⟨b15, 0, none⟩))]) (by kernel_rfl) ?_
      refine WD.pure (i := 4) (v := .pointer (some ⟨b15, 1, none⟩)) (by kernel_rfl) (by kernel_rfl) (fun _ => by kernel_rfl) ?_
      refine WD.weaken [6, 23, 24, 27] (L' := [(6, .int .i64 (wi (r26 - 1))), (23, .int .i64 (wi (r26 - 1))), (24, .int .i64 a1), (27, .pointer (some ⟨b15, 1, none⟩))]) (by kernel_rfl) ?_
      refine WD.ofR (i := 5) (by kernel_rfl) (RSt.loadRo (t := 30) (k := 1) (v := .slice A23 y14.2.1.length c24) (.tmp 27) (by kernel_rfl) (by kernel_rfl) (by kernel_rfl) hS.sub0 hb18 (by kernel_rfl) rfl ?_)
      refine WD.weaken [6, 23, 24, 28] (L' := [(6, .int .i64 (wi (r26 - 1))), (23, .int .i64 (wi (r26 - 1))), (24, .int .i64 a1), (28, .slice A23 y14.2.1.length c24)]) (by kernel_rfl) ?_
      refine WD.pure (i := 6) (v := .int .i64 (wi (r26 - 1))) (by kernel_rfl) (by kernel_rfl) (fun _ => by kernel_rfl) ?_
      refine WD.weaken [23, 24, 28, 29] (L' := [(23, .int .i64 (wi (r26 - 1))), (24, .int .i64 a1), (28, .slice A23 y14.2.1.length c24), (29, .int .i64 (wi (r26 - 1)))]) (by kernel_rfl) ?_
      obtain ⟨v37, e38, H⟩ := bind_ex H
      refine WD.ofP (i := 7) (by kernel_rfl) (PSt.idx (k := .i64) (.tmp 28) (.tmp 29) (by kernel_rfl) (by kernel_rfl) E30 (by kernel_rfl) (by kernel_rfl) (rdS.up R25 hS.sub0) e38 ?_)
      refine WD.weaken [23, 24, 30] (L' := [(23, .int .i64 (wi (r26 - 1))), (24, .int .i64 a1), (30, .pointer (some (adr A23 (wi (r26 - 1)).toNat 1)))]) (by kernel_rfl) ?_
      refine WD.ofR (i := 8) (by kernel_rfl) (RSt.loadInt (t := 3) (.tmp 30) (by kernel_rfl) (by kernel_rfl) (by kernel_rfl) (by kernel_rfl) (rdS.up R25 hS.sub0) e38 ?_)
      refine WD.weaken [23, 24, 31] (L' := [(23, .int .i64 (wi (r26 - 1))), (24, .int .i64 a1), (31, .int .i64 v37)]) (by kernel_rfl) ?_
      refine WD.pure (i := 9) (v := .int .i64 (wi (a1 - v37))) (by kernel_rfl) (by kernel_rfl) (fun _ => by kernel_rfl) ?_
      refine WD.weaken [23, 32] (L' := [(23, .int .i64 (wi (r26 - 1))), (32, .int .i64 (wi (a1 - v37)))]) (by kernel_rfl) ?_
      refine WD.pure (i := 10) (v := .int .i64 (wi (r26 - 1))) (by kernel_rfl) (by kernel_rfl) (fun _ => by kernel_rfl) ?_
      refine WD.weaken [4, 32] (L' := [(4, .int .i64 (wi (r26 - 1))), (32, .int .i64 (wi (a1 - v37)))]) (by kernel_rfl) ?_
      refine WD.pure (i := 11) (v := .int .i64 (wi (a1 - v37))) (by kernel_rfl) (by kernel_rfl) (fun _ => by kernel_rfl) ?_
      refine WD.weaken [4, 5] (L' := [(4, .int .i64 (wi (r26 - 1))), (5, .int .i64 (wi (a1 - v37)))]) (by kernel_rfl) ?_
      refine WD.nil (by kernel_rfl) ?_
      refine At.go ?_
      refine WC.ret (by kernel_rfl) ?_
      obtain rfl := Option.some.inj H
      have hS : Sat w35 (rf w0) [] := hS.sel [] (by kernel_rfl)
      exact At.body [.int .i64 (wi (r26 - 1)), .int .i64 (wi (a1 - v37))] (by kernel_rfl) ⟨_, rfl, rfl, hS⟩
/-! ### 11 (*colophon/text.Text).Docs -/
def text_Text_Docs.f (p0 : Option ((List (List Int)) × (List Int) × Int)) : Option Int := (match p0 with | none => some 0 | some y3 => some (y3.1.length : Int))
def text_Text_Docs.post (w : World) (r : Int) (v : Value) (w' : World) : Prop := v = (.int .i64 r : Value) ∧ Sat w' (rf w) []
theorem text_Text_Docs.calls (w0 : World) (v0 : Value) (p0 : Option ((List (List Int)) × (List Int) × Int)) (R0 : rd (hp w0) (.ptr 45 (.pair (.slice 24 (.slice 5 (.int .u8))) (.pair (.slice 3 (.int .i64)) (.int .i64)))) [v0] p0) (r : Int) (H : text_Text_Docs.f p0 = some r) :
    Calls Try.prog 11 #[v0] w0 (fun e w' => ∃ v, e = .returned v ∧ text_Text_Docs.post w0 r v w') := by
  have hS : Sat w0 (rf w0) [] := Sat.start w0
  unfold text_Text_Docs.f at H
  refine calls_of_WC (vs := [v0]) Try.func11 (c := C11) (n := 10) (by kernel_rfl) (by kernel_rfl) (by kernel_rfl) ?_
  refine WC.seq (by kernel_rfl) ?_
  refine WC.reg [0] (by kernel_rfl) (by kernel_rfl) ?_
  refine WR.runk [0] [] [0] (L' := [(0, v0)]) (w' := w0) (by kernel_rfl) ?_
  refine WR.nil ?_
  refine At.go ?_
  refine WC.seq (by kernel_rfl) ?_
  refine WC.seq (by kernel_rfl) ?_
  refine WC.reg [0, 1] (by kernel_rfl) (by kernel_rfl) ?_
  refine WR.runk [0] [1] [0, 3] (L' := [(0, v0), (3, v0)]) (w' := w0) (by kernel_rfl) ?_
  rcases opt_cases p0 with hr1 | ⟨y3, hr1⟩
  · rw [hr1] at H
    dsimp only at H
    have hx2 := rd_ptr_none R0 hr1
    try subst hx2
    refine WR.runk [1] [] [0, 4] (L' := [(0, .pointer none), (4, .bool true)]) (w' := w0) (by kernel_rfl) ?_
    refine WR.nil ?_
    refine At.go ?_
    refine WC.condT (by kernel_rfl) (by kernel_rfl) (by kernel_rfl) ?_
    refine WC.seq (by kernel_rfl) ?_
    refine WC.reg [0] (by kernel_rfl) (by kernel_rfl) ?_
    refine WR.runk [0] [] [2] (L' := [(2, .int .i64 0)]) (w' := w0) (by kernel_rfl) ?_
    refine WR.nil ?_
    refine At.go ?_
    refine WC.ret (by kernel_rfl) ?_
    refine At.thenRet ?_
    obtain rfl := Option.some.inj H
    have hS : Sat w0 (rf w0) [] := hS.sel [] (by kernel_rfl)
    exact At.body [.int .i64 0] (by kernel_rfl) ⟨_, rfl, rfl, hS⟩
  · rw [hr1] at H
    dsimp only at H
    obtain ⟨b4, fr5, A9, c10, A12, c13, hv6, hb7, R11, R14⟩ := P45.open R0 hr1
    have R8 := R0
    rw [hv6, hr1] at R8
    try subst hv6
    replace R11 : rdS (rd (hp w0) (.slice 5 (.int .u8))) 1 (hp w0) A9 c10 y3.1 := R11
    replace R14 : rdS (r0 (.int .i64)) 1 (hp w0) A12 c13 y3.2.1 := R14
    refine WR.runk [1] [] [0, 4] (L' := [(0, .pointer (some ⟨b4, 0, none⟩)), (4, .bool false)]) (w' := w0) (by kernel_rfl) ?_
    refine WR.nil ?_
    refine At.go ?_
    refine WC.condF (by kernel_rfl) (by kernel_rfl) (by kernel_rfl) ?_
    refine WC.skip (by kernel_rfl) ?_
    refine At.go ?_
    refine WC.seq (by kernel_rfl) ?_
    refine WC.reg [0, 1, 2, 3, 4, 5] (by kernel_rfl) (by kernel_rfl) ?_
    refine WR.runk [0, 1, 2] [3, 4, 5] [7] (L' := [(7, .pointer (some ⟨b4, 0, none⟩))]) (w' := w0) (by kernel_rfl) ?_
    refine WR.st (St.ofR (RSt.loadRo (t := 22) (k := 0) (v := .slice A9 y3.1.length c10) (.tmp 7) (by kernel_rfl) (by kernel_rfl) (by kernel_rfl) hS.sub0 hb7 (by kernel_rfl) rfl ?_))
    refine WR.runk [4, 5] [] [2] (L' := [(2, .int .i64 (y3.1.length : Int))]) (w' := w0) (by kernel_rfl) ?_
    refine WR.nil ?_
    refine At.go ?_
    refine WC.ret (by kernel_rfl) ?_
    obtain rfl := Option.some.inj H
    have hS : Sat w0 (rf w0) [] := hS.sel [] (by kernel_rfl)
    exact At.body [.int .i64 (y3.1.length : Int)] (by kernel_rfl) ⟨_, rfl, rfl, hS⟩
/-! ### 21 (*colophon/text.Text).Pattern -/
def text_Text_Pattern.l1 (l1 : List Int) (y3 : (List (List Int)) × (List Int) × Int) : Nat → (List Int) → Int → Option (List Int)
  | 0, _, _ => none
  | k + 1, x5_l1, x12_l1 => (if decide (x12_l1 < (l1.length : Int)) then ((at? l1 x12_l1).bind fun v16 => ((app? 17592186044416 x5_l1 ([wi ((y3.1.length : Int) + (wi v16))] : List Int)).bind fun y21 => text_Text_Pattern.l1 l1 y3 k y21 (wi (x12_l1 + 1)))) else some x5_l1)
def text_Text_Pattern.f (p0 : Option ((List (List Int)) × (List Int) × Int)) (l1 : List Int) : Option (List Int) := (match p0 with | none => some ([] : List Int) | some y3 => ((text_Text_Pattern.l1 l1 y3 FU ([] : List Int) 0).bind fun o25 => some o25))
def text_Text_Pattern.post (w : World) (r : (List Int)) (v : Value) (w' : World) : Prop := ∃ (A0' : Option Addr) (c0' : Nat), v = (.slice A0' r.length c0' : Value) ∧ Sat w' (rf w) [osl 3 (r0 (.int .i64)) 1 A0' c0' r]
theorem text_Text_Pattern.l1_ok {Q} (w0 : World) (A1 : Option Addr) (c1 : Nat) (l1 : List Int) (y3 : (List (List Int)) × (List Int) × Int) (b4 : Nat) (fr5 : Nat × Nat) (A9 : Option Addr) (c10 : Nat) (A12 : Option Addr) (c13 : Nat) (R1 : rdS (r0 (.int .u8)) 1 (hp w0) A1 c1 l1) (hb7 : (hp w0) b4 = some (.cells #[.slice A9 y3.1.length c10, .slice A12 y3.2.1.length c13, .int .i64 y3.2.2] 45 fr5)) (out : (List Int)) (hn0 : ∀ (A5_q : Option Addr) (c5_q : Nat) (w : World), Sat w (rf w0) [osl 3 (r0 (.int .i64)) 1 A5_q c5_q out] → At Q (.exit 0) 29 [(5, .slice A5_q out.length c5_q)] w) :
    ∀ (k : Nat) (x5_l1 : List Int) (x12_l1 : Int) (A5_l1 : Option Addr) (c5_l1 : Nat) (w : World), Sat w (rf w0) [osl 3 (r0 (.int .i64)) 1 A5_l1 c5_l1 x5_l1] → text_Text_Pattern.l1 l1 y3 k x5_l1 x12_l1 = some out → WL Try.prog (cbody (cbody (cr (cl (cr (cr (cr C21))))))) Q 29 [(0, .pointer (some ⟨b4, 0, none⟩)), (5, .slice A5_l1 x5_l1.length c5_l1), (10, .slice A1 l1.length c1), (11, .int .i64 (l1.length : Int)), (12, .int .i64 x12_l1)] w := by
  intro k
  induction k with
  | zero => intro x5_l1 x12_l1 A5_l1 c5_l1 w hS H; exact absurd (show none = some out from H) (by simp)
  | succ k ih =>
    intro x5_l1 x12_l1 A5_l1 c5_l1 w hS H
    unfold text_Text_Pattern.l1 at H
    refine WL.round ?_
    refine WC.seq (by kernel_rfl) ?_
    refine WC.reg [0] (by kernel_rfl) (by kernel_rfl) ?_
    refine WR.runk [0] [] [0, 5, 10, 11, 12, 13] (L' := [(0, .pointer (some ⟨b4, 0, none⟩)), (5, .slice A5_l1 x5_l1.length c5_l1), (10, .slice A1 l1.length c1), (11, .int .i64 (l1.length : Int)), (12, .int .i64 x12_l1), (13, .bool (decide (x12_l1 < (l1.length : Int))))]) (w' := w) (by kernel_rfl) ?_
    refine WR.nil ?_
    refine At.go ?_
    refine WC.seq (by kernel_rfl) ?_
    refine WC.cond (by kernel_rfl) (decide (x12_l1 < (l1.length : Int))) (by kernel_rfl) (by kernel_rfl) (fun hb15 => ?_) (fun hb15 => ?_)
    · replace H := ite_t H hb15
      refine WC.skip (by kernel_rfl) ?_
      refine At.go ?_
      refine WC.seq (by kernel_rfl) ?_
      refine WC.block (by kernel_rfl) ?_
      refine WC.seq (by kernel_rfl) ?_
      refine WC.reg [0, 1, 2] (by kernel_rfl) (by kernel_rfl) ?_
      refine WR.runk [] [0, 1, 2] [0, 5, 10, 11, 12] (L' := [(0, .pointer (some ⟨b4, 0, none⟩)), (5, .slice A5_l1 x5_l1.length c5_l1), (10, .slice A1 l1.length c1), (11, .int .i64 (l1.length : Int)), (12, .int .i64 x12_l1)]) (w' := w) (by kernel_rfl) ?_
      obtain ⟨v16, e17, H⟩ := bind_ex H
      refine WR.st (St.ofP (PSt.idx (k := .i64) (.tmp 10) (.tmp 12) (by kernel_rfl) (by kernel_rfl) E24 (by kernel_rfl) (by kernel_rfl) (rdS.up R1 hS.sub0) e17 ?_))
      refine WR.runk [] [1, 2] [0, 5, 10, 11, 12, 14] (L' := [(0, .pointer (some ⟨b4, 0, none⟩)), (5, .slice A5_l1 x5_l1.length c5_l1), (10, .slice A1 l1.length c1), (11, .int .i64 (l1.length : Int)), (12, .int .i64 x12_l1), (14, .pointer (some (adr A1 x12_l1.toNat 1)))]) (w' := w) (by kernel_rfl) ?_
      refine WR.st (St.ofR (RSt.loadInt (t := 5) (.tmp 14) (by kernel_rfl) (by kernel_rfl) (by kernel_rfl) (by kernel_rfl) (rdS.up R1 hS.sub0) e17 ?_))
      refine WR.runk [2] [] [0, 5, 7, 10, 11, 12] (L' := [(0, .pointer (some ⟨b4, 0, none⟩)), (5, .slice A5_l1 x5_l1.length c5_l1), (7, .int .u8 v16), (10, .slice A1 l1.length c1), (11, .int .i64 (l1.length : Int)), (12, .int .i64 x12_l1)]) (w' := w) (by kernel_rfl) ?_
      refine WR.nil ?_
      refine At.go ?_
      refine WC.reg [0, 1, 2, 3, 4, 5, 6, 7, 8, 9, 10, 11] (by kernel_rfl) (by kernel_rfl) ?_
      refine WR.runk [0, 1, 2, 3] [4, 5, 6, 7, 8, 9, 10, 11] [0, 5, 7, 10, 11, 12, 16, 19] (L' := [(0, .pointer (some ⟨b4, 0, none⟩)), (5, .slice A5_l1 x5_l1.length c5_l1), (7, .int .u8 v16), (10, .slice A1 l1.length c1), (11, .int .i64 (l1.length : Int)), (12, .int .i64 x12_l1), (16, .slice A5_l1 x5_l1.length c5_l1), (19, .pointer (some ⟨b4, 0, none⟩))]) (w' := w) (by kernel_rfl) ?_
      refine WR.st (St.ofR (RSt.loadRo (t := 22) (k := 0) (v := .slice A9 y3.1.length c10) (.tmp 19) (by kernel_rfl) (by kernel_rfl) (by kernel_rfl) hS.sub0 hb7 (by kernel_rfl) rfl ?_))
      refine WR.runk [5, 6, 7, 8] [9, 10, 11] [0, 5, 10, 11, 12, 16, 24] (L' := [(0, .pointer (some ⟨b4, 0, none⟩)), (5, .slice A5_l1 x5_l1.length c5_l1), (10, .slice A1 l1.length c1), (11, .int .i64 (l1.length : Int)), (12, .int .i64 x12_l1), (16, .slice A5_l1 x5_l1.length c5_l1), (24, .int .i64 (wi ((y3.1.length : Int) + (wi v16))))]) (w' := w) (by kernel_rfl) ?_
      refine WR.st (St.box hS (by kernel_rfl) (.cells #[.int .i64 (wi ((y3.1.length : Int) + (wi v16)))] 3) (fun b18 => .slice (some ⟨b18, 0, none⟩) 1 1) (fun _ => by kernel_rfl) (fun b18 w19 hS => ?_))
      refine WR.runk [] [10, 11] [0, 5, 10, 11, 12, 16, 25] (L' := [(0, .pointer (some ⟨b4, 0, none⟩)), (5, .slice A5_l1 x5_l1.length c5_l1), (10, .slice A1 l1.length c1), (11, .int .i64 (l1.length : Int)), (12, .int .i64 x12_l1), (16, .slice A5_l1 x5_l1.length c5_l1), (25, .slice (some ⟨b18, 0, none⟩) 1 1)]) (w' := w19) (by kernel_rfl) ?_
      have hS : Sat w19 (rf w0) [osl 3 (r0 (.int .i64)) 1 A5_l1 c5_l1 x5_l1, pts b18 (.cells #[.int .i64 (wi ((y3.1.length : Int) + (wi v16)))] 3 (0, 0))] := hS.sel [1, 0] (by kernel_rfl)
      obtain ⟨y21, e20, H⟩ := bind_ex H
      refine WR.st (St.append' (.tmp 16) (.tmp 25) (by kernel_rfl) (by kernel_rfl) E30 (r0_one _) hS (by kernel_rfl) (by kernel_rfl) (Sat.ptsAt 1 (r0 (.int .i64)) 1 ([wi ((y3.1.length : Int) + (wi v16))] : List Int) hS rfl rfl (rdL.cons1 rfl (rdL.nil _ _))) 17592186044416 (by kernel_rfl) (by kernel_rfl) e20 (fun A22 c23 w24 hS => ?_))
      refine WR.runk [11] [] [0, 5, 10, 11, 12] (L' := [(0, .pointer (some ⟨b4, 0, none⟩)), (5, .slice A22 y21.length c23), (10, .slice A1 l1.length c1), (11, .int .i64 (l1.length : Int)), (12, .int .i64 x12_l1)]) (w' := w24) (by kernel_rfl) ?_
      refine WR.nil ?_
      refine At.blockNormal ?_
      refine At.go ?_
      refine WC.reg [0, 1] (by kernel_rfl) (by kernel_rfl) ?_
      refine WR.runk [0, 1] [] [0, 5, 10, 11, 12] (L' := [(0, .pointer (some ⟨b4, 0, none⟩)), (5, .slice A22 y21.length c23), (10, .slice A1 l1.length c1), (11, .int .i64 (l1.length : Int)), (12, .int .i64 (wi (x12_l1 + 1)))]) (w' := w24) (by kernel_rfl) ?_
      refine WR.nil ?_
      have hS : Sat w24 (rf w0) [osl 3 (r0 (.int .i64)) 1 A22 c23 y21] := hS.sel [0] (by kernel_rfl)
      refine At.again ?_
      refine WL.weaken [0, 5, 10, 11, 12] (L' := [(0, .pointer (some ⟨b4, 0, none⟩)), (5, .slice A22 y21.length c23), (10, .slice A1 l1.length c1), (11, .int .i64 (l1.length : Int)), (12, .int .i64 (wi (x12_l1 + 1)))]) (by kernel_rfl) ?_
      exact ih y21 (wi (x12_l1 + 1)) A22 c23 _ hS H
    · replace H := ite_f H hb15
      refine WC.exit (by kernel_rfl) ?_
      refine At.thenExit ?_
      refine At.thenExit ?_
      obtain rfl := Option.some.inj H
      have hS : Sat w (rf w0) [osl 3 (r0 (.int .i64)) 1 A5_l1 c5_l1 x5_l1] := hS.sel [0] (by kernel_rfl)
      refine At.weaken [5] (L' := [(5, .slice A5_l1 x5_l1.length c5_l1)]) (by kernel_rfl) ?_
      exact hn0 A5_l1 c5_l1 _ hS
theorem text_Text_Pattern.calls (w0 : World) (v0 : Value) (p0 : Option ((List (List Int)) × (List Int) × Int)) (R0 : rd (hp w0) (.ptr 45 (.pair (.slice 24 (.slice 5 (.int .u8))) (.pair (.slice 3 (.int .i64)) (.int .i64)))) [v0] p0) (A1 : Option Addr) (c1 : Nat) (l1 : List Int) (R1 : rdS (r0 (.int .u8)) 1 (hp w0) A1 c1 l1) (r : (List Int)) (H : text_Text_Pattern.f p0 l1 = some r) :
    Calls Try.prog 21 #[v0, .slice A1 l1.length c1] w0 (fun e w' => ∃ v, e = .returned v ∧ text_Text_Pattern.post w0 r v w') := by
  have hS : Sat w0 (rf w0) [] := Sat.start w0
  unfold text_Text_Pattern.f at H
  refine calls_of_WC (vs := [v0, .slice A1 l1.length c1]) Try.func21 (c := C21) (n := 29) (by kernel_rfl) (by kernel_rfl) (by kernel_rfl) ?_
  refine WC.seq (by kernel_rfl) ?_
  refine WC.reg [0] (by kernel_rfl) (by kernel_rfl) ?_
  refine WR.runk [0] [] [0, 1] (L' := [(0, v0), (1, .slice A1 l1.length c1)]) (w' := w0) (by kernel_rfl) ?_
  refine WR.nil ?_
  refine At.go ?_
  refine WC.seq (by kernel_rfl) ?_
  refine WC.seq (by kernel_rfl) ?_
  refine WC.reg [0, 1] (by kernel_rfl) (by kernel_rfl) ?_
  refine WR.runk [0] [1] [0, 1, 8] (L' := [(0, v0), (1, .slice A1 l1.length c1), (8, v0)]) (w' := w0) (by kernel_rfl) ?_
  rcases opt_cases p0 with hr1 | ⟨y3, hr1⟩
  · rw [hr1] at H
    dsimp only at H
    have hx2 := rd_ptr_none R0 hr1
    try subst hx2
    refine WR.runk [1] [] [0, 1, 9] (L' := [(0, .pointer none), (1, .slice A1 l1.length c1), (9, .bool true)]) (w' := w0) (by kernel_rfl) ?_
    refine WR.nil ?_
    refine At.go ?_
    refine WC.condT (by kernel_rfl) (by kernel_rfl) (by kernel_rfl) ?_
    refine WC.seq (by kernel_rfl) ?_
    refine WC.reg [0] (by kernel_rfl) (by kernel_rfl) ?_
    refine WR.runk [0] [] [4] (L' := [(4, .slice none 0 0)]) (w' := w0) (by kernel_rfl) ?_
    refine WR.nil ?_
    refine At.go ?_
    refine WC.ret (by kernel_rfl) ?_
    refine At.thenRet ?_
    obtain rfl := Option.some.inj H
    have hS := hS.addNil (α := Int) 3 (r0 (.int .i64)) 1
    have hS : Sat w0 (rf w0) [osl 3 (r0 (.int .i64)) 1 none 0 ([] : List Int)] := hS.sel [0] (by kernel_rfl)
    exact At.body [.slice none 0 0] (by kernel_rfl) ⟨_, rfl, _, _, rfl, hS⟩
  · rw [hr1] at H
    dsimp only at H
    obtain ⟨b4, fr5, A9, c10, A12, c13, hv6, hb7, R11, R14⟩ := P45.open R0 hr1
    have R8 := R0
    rw [hv6, hr1] at R8
    try subst hv6
    replace R11 : rdS (rd (hp w0) (.slice 5 (.int .u8))) 1 (hp w0) A9 c10 y3.1 := R11
    replace R14 : rdS (r0 (.int .i64)) 1 (hp w0) A12 c13 y3.2.1 := R14
    refine WR.runk [1] [] [0, 1, 9] (L' := [(0, .pointer (some ⟨b4, 0, none⟩)), (1, .slice A1 l1.length c1), (9, .bool false)]) (w' := w0) (by kernel_rfl) ?_
    refine WR.nil ?_
    refine At.go ?_
    refine WC.condF (by kernel_rfl) (by kernel_rfl) (by kernel_rfl) ?_
    refine WC.skip (by kernel_rfl) ?_
    refine At.go ?_
    refine WC.seq (by kernel_rfl) ?_
    refine WC.reg [0] (by kernel_rfl) (by kernel_rfl) ?_
    refine WR.runk [0] [] [0, 1, 5] (L' := [(0, .pointer (some ⟨b4, 0, none⟩)), (1, .slice A1 l1.length c1), (5, .slice none 0 0)]) (w' := w0) (by kernel_rfl) ?_
    refine WR.nil ?_
    refine At.go ?_
    refine WC.seq (by kernel_rfl) ?_
    refine WC.seq (by kernel_rfl) ?_
    refine WC.reg [0, 1, 2] (by kernel_rfl) (by kernel_rfl) ?_
    refine WR.runk [0, 1, 2] [] [0, 5, 10, 11, 12] (L' := [(0, .pointer (some ⟨b4, 0, none⟩)), (5, .slice none 0 0), (10, .slice A1 l1.length c1), (11, .int .i64 (l1.length : Int)), (12, .int .i64 0)]) (w' := w0) (by kernel_rfl) ?_
    refine WR.nil ?_
    refine At.go ?_
    refine WC.block (by kernel_rfl) ?_
    have hS := hS.addNil (α := Int) 3 (r0 (.int .i64)) 1
    have hS : Sat w0 (rf w0) [osl 3 (r0 (.int .i64)) 1 none 0 ([] : List Int)] := hS.sel [0] (by kernel_rfl)
    obtain ⟨o25, e26, H⟩ := bind_ex H
    refine WC.loop (by kernel_rfl) ?_
    refine WL.weaken [0, 5, 10, 11, 12] (L' := [(0, .pointer (some ⟨b4, 0, none⟩)), (5, .slice none 0 0), (10, .slice A1 l1.length c1), (11, .int .i64 (l1.length : Int)), (12, .int .i64 0)]) (by kernel_rfl) ?_
    refine text_Text_Pattern.l1_ok w0 A1 c1 l1 y3 b4 fr5 A9 c10 A12 c13 R1 hb7 o25 (fun A5_q27 c5_q27 w28 hS => ?_) FU ([] : List Int) 0 none 0 _ hS e26
    refine At.hit ?_
    refine At.go ?_
    refine WC.seq (by kernel_rfl) ?_
    refine WC.reg [0, 1] (by kernel_rfl) (by kernel_rfl) ?_
    refine WR.runk [0, 1] [] [4] (L' := [(4, .slice A5_q27 o25.length c5_q27)]) (w' := w28) (by kernel_rfl) ?_
    refine WR.nil ?_
    refine At.go ?_
    refine WC.ret (by kernel_rfl) ?_
    obtain rfl := Option.some.inj H
    have hS : Sat w28 (rf w0) [osl 3 (r0 (.int .i64)) 1 A5_q27 c5_q27 o25] := hS.sel [0] (by kernel_rfl)
    exact At.body [.slice A5_q27 o25.length c5_q27] (by kernel_rfl) ⟨_, rfl, _, _, rfl, hS⟩
/-! ### 15 (*colophon/text.Text).Symbols -/
def text_Text_Symbols.l1 (p0 : Option ((List (List Int)) × (List Int) × Int)) (r1 : Int) : Nat → (List Int) → Int → Option (List Int)
  | 0, _, _ => none
  | k + 1, x3_l1, x7_l1 => (if decide (x7_l1 < r1) then (p0.bind fun y13 => ((at? y13.1 x7_l1).bind fun v25 => ((text_Text_Pattern.f (some y13) v25).bind fun r30 => ((app? 17592186044416 x3_l1 r30).bind fun y42 => ((app? 17592186044416 y42 ([x7_l1] : List Int)).bind fun y49 => text_Text_Symbols.l1 p0 r1 k y49 (wi (x7_l1 + 1))))))) else some x3_l1)
def text_Text_Symbols.f (p0 : Option ((List (List Int)) × (List Int) × Int)) : Option (List Int) := ((text_Text_Docs.f p0).bind fun r1 => ((text_Text_Symbols.l1 p0 r1 FU ([] : List Int) 0).bind fun o53 => some o53))
def text_Text_Symbols.post (w : World) (r : (List Int)) (v : Value) (w' : World) : Prop := ∃ (A0' : Option Addr) (c0' : Nat), v = (.slice A0' r.length c0' : Value) ∧ Sat w' (rf w) [osl 3 (r0 (.int .i64)) 1 A0' c0' r]
theorem text_Text_Symbols.l1_ok {Q} (w0 : World) (v0 : Value) (p0 : Option ((List (List Int)) × (List Int) × Int)) (r1 : Int) (R0 : rd (hp w0) (.ptr 45 (.pair (.slice 24 (.slice 5 (.int .u8))) (.pair (.slice 3 (.int .i64)) (.int .i64)))) [v0] p0) (out : (List Int)) (hn0 : ∀ (A3_q : Option Addr) (c3_q : Nat) (w : World), Sat w (rf w0) [osl 3 (r0 (.int .i64)) 1 A3_q c3_q out] → At Q (.exit 0) 27 [(3, .slice A3_q out.length c3_q)] w) :
    ∀ (k : Nat) (x3_l1 : List Int) (x7_l1 : Int) (A3_l1 : Option Addr) (c3_l1 : Nat) (w : World), Sat w (rf w0) [osl 3 (r0 (.int .i64)) 1 A3_l1 c3_l1 x3_l1] → text_Text_Symbols.l1 p0 r1 k x3_l1 x7_l1 = some out → WL Try.prog (cbody (cbody (cr (cl (cr (cr C15)))))) Q 27 [(0, v0), (3, .slice A3_l1 x3_l1.length c3_l1), (6, .int .i64 r1), (7, .int .i64 x7_l1)] w := by
  intro k
  induction k with
  | zero => intro x3_l1 x7_l1 A3_l1 c3_l1 w hS H; exact absurd (show none = some out from H) (by simp)
  | succ k ih =>
    intro x3_l1 x7_l1 A3_l1 c3_l1 w hS H
    unfold text_Text_Symbols.l1 at H
    refine WL.round ?_
    refine WC.seq (by kernel_rfl) ?_
    refine WC.reg [0] (by kernel_rfl) (by kernel_rfl) ?_
    refine WR.runk [0] [] [0, 3, 6, 7, 8] (L' := [(0, v0), (3, .slice A3_l1 x3_l1.length c3_l1), (6, .int .i64 r1), (7, .int .i64 x7_l1), (8, .bool (decide (x7_l1 < r1)))]) (w' := w) (by kernel_rfl) ?_
    refine WR.nil ?_
    refine At.go ?_
    refine WC.seq (by kernel_rfl) ?_
    refine WC.cond (by kernel_rfl) (decide (x7_l1 < r1)) (by kernel_rfl) (by kernel_rfl) (fun hb10 => ?_) (fun hb10 => ?_)
    · replace H := ite_t H hb10
      refine WC.skip (by kernel_rfl) ?_
      refine At.go ?_
      refine WC.seq (by kernel_rfl) ?_
      refine WC.block (by kernel_rfl) ?_
      refine WC.seq (by kernel_rfl) ?_
      refine WC.reg [0, 1] (by kernel_rfl) (by kernel_rfl) ?_
      refine WR.runk [0, 1] [] [0, 3, 4, 6, 7] (L' := [(0, v0), (3, .slice A3_l1 x3_l1.length c3_l1), (4, .int .i64 x7_l1), (6, .int .i64 r1), (7, .int .i64 x7_l1)]) (w' := w) (by kernel_rfl) ?_
      refine WR.nil ?_
      refine At.go ?_
      refine WC.seq (by kernel_rfl) ?_
      refine WC.reg [0, 1, 2, 3, 4, 5, 6, 7, 8, 9, 10, 11] (by kernel_rfl) (by kernel_rfl) ?_
      refine WR.runk [0, 1, 2] [3, 4, 5, 6, 7, 8, 9, 10, 11] [0, 3, 4, 6, 7, 10, 11, 12] (L' := [(0, v0), (3, .slice A3_l1 x3_l1.length c3_l1), (4, .int .i64 x7_l1), (6, .int .i64 r1), (7, .int .i64 x7_l1), (10, .slice A3_l1 x3_l1.length c3_l1), (11, v0), (12, v0)]) (w' := w) (by kernel_rfl) ?_
      obtain ⟨y13, hr11, H⟩ := bind_ex H
      obtain ⟨b14, fr15, A19, c20, A22, c23, hv16, hb17, R21, R24⟩ := P45.open R0 hr11
      have R18 := R0
      rw [hv16, hr11] at R18
      try subst hv16
      replace R21 : rdS (rd (hp w0) (.slice 5 (.int .u8))) 1 (hp w0) A19 c20 y13.1 := R21
      replace R24 : rdS (r0 (.int .i64)) 1 (hp w0) A22 c23 y13.2.1 := R24
      refine WR.runk [3, 4] [5, 6, 7, 8, 9, 10, 11] [0, 3, 4, 6, 7, 10, 11, 14] (L' := [(0, .pointer (some ⟨b14, 0, none⟩)), (3, .slice A3_l1 x3_l1.length c3_l1), (4, .int .i64 x7_l1), (6, .int .i64 r1), (7, .int .i64 x7_l1), (10, .slice A3_l1 x3_l1.length c3_l1), (11, .pointer (some ⟨b14, 0, none⟩)), (14, .pointer (some ⟨b14, 0, none⟩))]) (w' := w) (by kernel_rfl) ?_
      refine WR.st (St.ofR (RSt.loadRo (t := 22) (k := 0) (v := .slice A19 y13.1.length c20) (.tmp 14) (by kernel_rfl) (by kernel_rfl) (by kernel_rfl) hS.sub0 hb17 (by kernel_rfl) rfl ?_))
      refine WR.runk [6] [7, 8, 9, 10, 11] [0, 3, 4, 6, 7, 10, 11, 15, 16] (L' := [(0, .pointer (some ⟨b14, 0, none⟩)), (3, .slice A3_l1 x3_l1.length c3_l1), (4, .int .i64 x7_l1), (6, .int .i64 r1), (7, .int .i64 x7_l1), (10, .slice A3_l1 x3_l1.length c3_l1), (11, .pointer (some ⟨b14, 0, none⟩)), (15, .slice A19 y13.1.length c20), (16, .int .i64 x7_l1)]) (w' := w) (by kernel_rfl) ?_
      obtain ⟨v25, e26, H⟩ := bind_ex H
      refine WR.st (St.ofP (PSt.idx (k := .i64) (.tmp 15) (.tmp 16) (by kernel_rfl) (by kernel_rfl) E22 (by kernel_rfl) (by kernel_rfl) (rdS.up R21 hS.sub0) e26 ?_))
      refine WR.runk [] [8, 9, 10, 11] [0, 3, 4, 6, 7, 10, 11, 17] (L' := [(0, .pointer (some ⟨b14, 0, none⟩)), (3, .slice A3_l1 x3_l1.length c3_l1), (4, .int .i64 x7_l1), (6, .int .i64 r1), (7, .int .i64 x7_l1), (10, .slice A3_l1 x3_l1.length c3_l1), (11, .pointer (some ⟨b14, 0, none⟩)), (17, .pointer (some (adr A19 x7_l1.toNat 1)))]) (w' := w) (by kernel_rfl) ?_
      refine WR.st (St.ofR (RSt.loadSl (t := 24) (.tmp 17) (by kernel_rfl) (by kernel_rfl) (by kernel_rfl) (by kernel_rfl) R21 e26 hS.sub0 (fun A27 c28 R29 => ?_)))
      replace R29 : rdS (r0 (.int .u8)) 1 (hp w0) A27 c28 v25 := R29
      refine WR.runk [] [9, 10, 11] [0, 3, 4, 6, 7, 10, 11, 18] (L' := [(0, .pointer (some ⟨b14, 0, none⟩)), (3, .slice A3_l1 x3_l1.length c3_l1), (4, .int .i64 x7_l1), (6, .int .i64 r1), (7, .int .i64 x7_l1), (10, .slice A3_l1 x3_l1.length c3_l1), (11, .pointer (some ⟨b14, 0, none⟩)), (18, .slice A27 v25.length c28)]) (w' := w) (by kernel_rfl) ?_
      obtain ⟨r30, e31, H⟩ := bind_ex H
      refine WR.st (St.call (by kernel_rfl) (f := 21) (args := #[.pointer (some ⟨b14, 0, none⟩), .slice A27 v25.length c28]) (by kernel_rfl) (text_Text_Pattern.calls w (.pointer (some ⟨b14, 0, none⟩)) (some y13) (rd.mono hS.sub0 _ _ _ R18) A27 c28 v25 (rdS.up R29 hS.sub0) r30 e31) ?_)
      rintro _ w37 ⟨A39, c40, rfl, hS38⟩
      have hS : Sat w37 (rf w0) [osl 3 (r0 (.int .i64)) 1 A39 c40 r30, osl 3 (r0 (.int .i64)) 1 A3_l1 c3_l1 x3_l1] := hS.ext hS38
      refine WR.runk [] [10, 11] [0, 3, 4, 6, 7, 10, 19] (L' := [(0, .pointer (some ⟨b14, 0, none⟩)), (3, .slice A3_l1 x3_l1.length c3_l1), (4, .int .i64 x7_l1), (6, .int .i64 r1), (7, .int .i64 x7_l1), (10, .slice A3_l1 x3_l1.length c3_l1), (19, .slice A39 r30.length c40)]) (w' := w37) (by kernel_rfl) ?_
      have hS : Sat w37 (rf w0) [osl 3 (r0 (.int .i64)) 1 A3_l1 c3_l1 x3_l1, osl 3 (r0 (.int .i64)) 1 A39 c40 r30] := hS.sel [1, 0] (by kernel_rfl)
      obtain ⟨y42, e41, H⟩ := bind_ex H
      refine WR.st (St.append' (.tmp 10) (.tmp 19) (by kernel_rfl) (by kernel_rfl) E30 (r0_one _) hS (by kernel_rfl) (by kernel_rfl) (Sat.rdAt 1 hS rfl) 17592186044416 (by kernel_rfl) (by kernel_rfl) e41 (fun A43 c44 w45 hS => ?_))
      refine WR.runk [11] [] [0, 3, 4, 6, 7] (L' := [(0, .pointer (some ⟨b14, 0, none⟩)), (3, .slice A43 y42.length c44), (4, .int .i64 x7_l1), (6, .int .i64 r1), (7, .int .i64 x7_l1)]) (w' := w45) (by kernel_rfl) ?_
      refine WR.nil ?_
      refine At.go ?_
      refine WC.reg [0, 1, 2, 3, 4] (by kernel_rfl) (by kernel_rfl) ?_
      refine WR.runk [0, 1] [2, 3, 4] [0, 3, 6, 7, 21, 22] (L' := [(0, .pointer (some ⟨b14, 0, none⟩)), (3, .slice A43 y42.length c44), (6, .int .i64 r1), (7, .int .i64 x7_l1), (21, .slice A43 y42.length c44), (22, .int .i64 x7_l1)]) (w' := w45) (by kernel_rfl) ?_
      refine WR.st (St.box hS (by kernel_rfl) (.cells #[.int .i64 x7_l1] 3) (fun b46 => .slice (some ⟨b46, 0, none⟩) 1 1) (fun _ => by kernel_rfl) (fun b46 w47 hS => ?_))
      refine WR.runk [] [3, 4] [0, 3, 6, 7, 21, 23] (L' := [(0, .pointer (some ⟨b14, 0, none⟩)), (3, .slice A43 y42.length c44), (6, .int .i64 r1), (7, .int .i64 x7_l1), (21, .slice A43 y42.length c44), (23, .slice (some ⟨b46, 0, none⟩) 1 1)]) (w' := w47) (by kernel_rfl) ?_
      have hS : Sat w47 (rf w0) [osl 3 (r0 (.int .i64)) 1 A43 c44 y42, pts b46 (.cells #[.int .i64 x7_l1] 3 (0, 0)), osl 3 (r0 (.int .i64)) 1 A39 c40 r30] := hS.sel [1, 0, 2] (by kernel_rfl)
      obtain ⟨y49, e48, H⟩ := bind_ex H
      refine WR.st (St.append' (.tmp 21) (.tmp 23) (by kernel_rfl) (by kernel_rfl) E30 (r0_one _) hS (by kernel_rfl) (by kernel_rfl) (Sat.ptsAt 1 (r0 (.int .i64)) 1 ([x7_l1] : List Int) hS rfl rfl (rdL.cons1 rfl (rdL.nil _ _))) 17592186044416 (by kernel_rfl) (by kernel_rfl) e48 (fun A50 c51 w52 hS => ?_))
      refine WR.runk [4] [] [0, 3, 6, 7] (L' := [(0, .pointer (some ⟨b14, 0, none⟩)), (3, .slice A50 y49.length c51), (6, .int .i64 r1), (7, .int .i64 x7_l1)]) (w' := w52) (by kernel_rfl) ?_
      refine WR.nil ?_
      refine At.blockNormal ?_
      refine At.go ?_
      refine WC.reg [0, 1] (by kernel_rfl) (by kernel_rfl) ?_
      refine WR.runk [0, 1] [] [0, 3, 6, 7] (L' := [(0, .pointer (some ⟨b14, 0, none⟩)), (3, .slice A50 y49.length c51), (6, .int .i64 r1), (7, .int .i64 (wi (x7_l1 + 1)))]) (w' := w52) (by kernel_rfl) ?_
      refine WR.nil ?_
      have hS : Sat w52 (rf w0) [osl 3 (r0 (.int .i64)) 1 A50 c51 y49] := hS.sel [0] (by kernel_rfl)
      refine At.again ?_
      refine WL.weaken [0, 3, 6, 7] (L' := [(0, .pointer (some ⟨b14, 0, none⟩)), (3, .slice A50 y49.length c51), (6, .int .i64 r1), (7, .int .i64 (wi (x7_l1 + 1)))]) (by kernel_rfl) ?_
      exact ih y49 (wi (x7_l1 + 1)) A50 c51 _ hS H
    · replace H := ite_f H hb10
      refine WC.exit (by kernel_rfl) ?_
      refine At.thenExit ?_
      refine At.thenExit ?_
      obtain rfl := Option.some.inj H
      have hS : Sat w (rf w0) [osl 3 (r0 (.int .i64)) 1 A3_l1 c3_l1 x3_l1] := hS.sel [0] (by kernel_rfl)
      refine At.weaken [3] (L' := [(3, .slice A3_l1 x3_l1.length c3_l1)]) (by kernel_rfl) ?_
      exact hn0 A3_l1 c3_l1 _ hS
theorem text_Text_Symbols.calls (w0 : World) (v0 : Value) (p0 : Option ((List (List Int)) × (List Int) × Int)) (R0 : rd (hp w0) (.ptr 45 (.pair (.slice 24 (.slice 5 (.int .u8))) (.pair (.slice 3 (.int .i64)) (.int .i64)))) [v0] p0) (r : (List Int)) (H : text_Text_Symbols.f p0 = some r) :
    Calls Try.prog 15 #[v0] w0 (fun e w' => ∃ v, e = .returned v ∧ text_Text_Symbols.post w0 r v w') := by
  have hS : Sat w0 (rf w0) [] := Sat.start w0
  unfold text_Text_Symbols.f at H
  refine calls_of_WC (vs := [v0]) Try.func15 (c := C15) (n := 27) (by kernel_rfl) (by kernel_rfl) (by kernel_rfl) ?_
  refine WC.seq (by kernel_rfl) ?_
  refine WC.reg [0] (by kernel_rfl) (by kernel_rfl) ?_
  refine WR.runk [0] [] [0] (L' := [(0, v0)]) (w' := w0) (by kernel_rfl) ?_
  refine WR.nil ?_
  refine At.go ?_
  refine WC.seq (by kernel_rfl) ?_
  refine WC.reg [0] (by kernel_rfl) (by kernel_rfl) ?_
  refine WR.runk [0] [] [0, 3] (L' := [(0, v0), (3, .slice none 0 0)]) (w' := w0) (by kernel_rfl) ?_
  refine WR.nil ?_
  refine At.go ?_
  refine WC.seq (by kernel_rfl) ?_
  refine WC.seq (by kernel_rfl) ?_
  refine WC.reg [0, 1, 2] (by kernel_rfl) (by kernel_rfl) ?_
  refine WR.runk [0] [1, 2] [0, 3, 5] (L' := [(0, v0), (3, .slice none 0 0), (5, v0)]) (w' := w0) (by kernel_rfl) ?_
  obtain ⟨r1, e2, H⟩ := bind_ex H
  refine WR.st (St.call (by kernel_rfl) (f := 11) (args := #[v0]) (by kernel_rfl) (text_Text_Docs.calls w0 (v0) p0 (rd.mono hS.sub0 _ _ _ R0) r1 e2) ?_)
  rintro _ w8 ⟨rfl, hS9⟩
  have hS : Sat w8 (rf w0) [] := hS.ext hS9
  refine WR.runk [2] [] [0, 3, 6, 7] (L' := [(0, v0), (3, .slice none 0 0), (6, .int .i64 r1), (7, .int .i64 0)]) (w' := w8) (by kernel_rfl) ?_
  refine WR.nil ?_
  refine At.go ?_
  refine WC.block (by kernel_rfl) ?_
  have hS := hS.addNil (α := Int) 3 (r0 (.int .i64)) 1
  have hS : Sat w8 (rf w0) [osl 3 (r0 (.int .i64)) 1 none 0 ([] : List Int)] := hS.sel [0] (by kernel_rfl)
  obtain ⟨o53, e54, H⟩ := bind_ex H
  refine WC.loop (by kernel_rfl) ?_
  refine WL.weaken [0, 3, 6, 7] (L' := [(0, v0), (3, .slice none 0 0), (6, .int .i64 r1), (7, .int .i64 0)]) (by kernel_rfl) ?_
  refine text_Text_Symbols.l1_ok w0 v0 p0 r1 R0 o53 (fun A3_q55 c3_q55 w56 hS => ?_) FU ([] : List Int) 0 none 0 _ hS e54
  refine At.hit ?_
  refine At.go ?_
  refine WC.seq (by kernel_rfl) ?_
  refine WC.reg [0, 1] (by kernel_rfl) (by kernel_rfl) ?_
  refine WR.runk [0, 1] [] [2] (L' := [(2, .slice A3_q55 o53.length c3_q55)]) (w' := w56) (by kernel_rfl) ?_
  refine WR.nil ?_
  refine At.go ?_
  refine WC.ret (by kernel_rfl) ?_
  obtain rfl := Option.some.inj H
  have hS : Sat w56 (rf w0) [osl 3 (r0 (.int .i64)) 1 A3_q55 c3_q55 o53] := hS.sel [0] (by kernel_rfl)
  exact At.body [.slice A3_q55 o53.length c3_q55] (by kernel_rfl) ⟨_, rfl, _, _, rfl, hS⟩
/-! ### 14 colophon/colophonref08.Same -/
def colophonref08_Same.l1 (l0 : List Int) (l1 : List Int) : Nat → Int → Option (Sum Bool Unit)
  | 0, _ => none
  | k + 1, x13_l1 => (if decide (x13_l1 < (l0.length : Int)) then ((at? l0 x13_l1).bind fun v5 => ((at? l1 x13_l1).bind fun v7 => (if (v5 != v7) then some (.inl false) else colophonref08_Same.l1 l0 l1 k (wi (x13_l1 + 1))))) else some (.inr ()))
def colophonref08_Same.f (l0 : List Int) (l1 : List Int) : Option Bool := (if ((l0.length : Int) != (l1.length : Int)) then some false else ((colophonref08_Same.l1 l0 l1 FU 0).bind fun o10 => (match o10 with | .inl o12 => some o12 | .inr o16 => some true)))
def colophonref08_Same.post (w : World) (r : Bool) (v : Value) (w' : World) : Prop := v = (.bool r : Value) ∧ Sat w' (rf w) []
theorem colophonref08_Same.l1_ok {Q} (w0 : World) (A0 : Option Addr) (c0 : Nat) (l0 : List Int) (A1 : Option Addr) (c1 : Nat) (l1 : List Int) (R0 : rdS (r0 (.int .i64)) 1 (hp w0) A0 c0 l0) (R1 : rdS (r0 (.int .i64)) 1 (hp w0) A1 c1 l1) (out : Sum Bool Unit) (hn0 : ∀ (o0 : Bool) (w : World), out = (.inl o0) → Sat w (rf w0) [] → At Q .ret 26 [(4, .bool o0)] w) (hn1 : ∀ (o1 : Unit) (w : World), out = (.inr o1) → Sat w (rf w0) [] → At Q (.exit 0) 26 [] w) :
    ∀ (k : Nat) (x13_l1 : Int) (w : World), Sat w (rf w0) [] → colophonref08_Same.l1 l0 l1 k x13_l1 = some out → WL Try.prog (cbody (cbody (cr (cl (cr (cr C14)))))) Q 26 [(0, .slice A0 l0.length c0), (1, .slice A1 l1.length c1), (12, .int .i64 (l0.length : Int)), (13, .int .i64 x13_l1)] w := by
  intro k
  induction k with
  | zero => intro x13_l1 w hS H; exact absurd (show none = some out from H) (by simp)
  | succ k ih =>
    intro x13_l1 w hS H
    unfold colophonref08_Same.l1 at H
    refine WL.round ?_
    refine WC.seq (by kernel_rfl) ?_
    refine WC.reg [0] (by kernel_rfl) (by kernel_rfl) ?_
    refine WR.runk [0] [] [0, 1, 12, 13, 14] (L' := [(0, .slice A0 l0.length c0), (1, .slice A1 l1.length c1), (12, .int .i64 (l0.length : Int)), (13, .int .i64 x13_l1), (14, .bool (decide (x13_l1 < (l0.length : Int))))]) (w' := w) (by kernel_rfl) ?_
    refine WR.nil ?_
    refine At.go ?_
    refine WC.seq (by kernel_rfl) ?_
    refine WC.cond (by kernel_rfl) (decide (x13_l1 < (l0.length : Int))) (by kernel_rfl) (by kernel_rfl) (fun hb2 => ?_) (fun hb2 => ?_)
    · replace H := ite_t H hb2
      refine WC.skip (by kernel_rfl) ?_
      refine At.go ?_
      refine WC.seq (by kernel_rfl) ?_
      refine WC.block (by kernel_rfl) ?_
      refine WC.seq (by kernel_rfl) ?_
      refine WC.reg [0, 1] (by kernel_rfl) (by kernel_rfl) ?_
      refine WR.runk [0, 1] [] [0, 1, 5, 12, 13] (L' := [(0, .slice A0 l0.length c0), (1, .slice A1 l1.length c1), (5, .int .i64 x13_l1), (12, .int .i64 (l0.length : Int)), (13, .int .i64 x13_l1)]) (w' := w) (by kernel_rfl) ?_
      refine WR.nil ?_
      refine At.go ?_
      refine WC.seq (by kernel_rfl) ?_
      refine WC.drawn (by kernel_rfl) (by kernel_rfl) 9 (by kernel_rfl) (fun w3 hw4 => ?_)
      have hS := hS.heap hw4.1 hw4.2
      refine WD.weaken [0, 1, 5, 12, 13] (L' := [(0, .slice A0 l0.length c0), (1, .slice A1 l1.length c1), (5, .int .i64 x13_l1), (12, .int .i64 (l0.length : Int)), (13, .int .i64 x13_l1)]) (by kernel_rfl) ?_
      refine WD.pure (i := 0) (v := .slice A0 l0.length c0) (by kernel_rfl) (by kernel_rfl) (fun _ => by kernel_rfl) ?_
      refine WD.weaken [0, 1, 5, 12, 13, 16] (L' := [(0, .slice A0 l0.length c0), (1, .slice A1 l1.length c1), (5, .int .i64 x13_l1), (12, .int .i64 (l0.length : Int)), (13, .int .i64 x13_l1), (16, .slice A0 l0.length c0)]) (by kernel_rfl) ?_
      refine WD.pure (i := 1) (v := .int .i64 x13_l1) (by kernel_rfl) (by kernel_rfl) (fun _ => by kernel_rfl) ?_
      refine WD.weaken [0, 1, 5, 12, 13, 16, 17] (L' := [(0, .slice A0 l0.length c0), (1, .slice A1 l1.length c1), (5, .int .i64 x13_l1), (12, .int .i64 (l0.length : Int)), (13, .int .i64 x13_l1), (16, .slice A0 l0.length c0), (17, .int .i64 x13_l1)]) (by kernel_rfl) ?_
      obtain ⟨v5, e6, H⟩ := bind_ex H
      refine WD.ofP (i := 2) (by kernel_rfl) (PSt.idx (k := .i64) (.tmp 16) (.tmp 17) (by kernel_rfl) (by kernel_rfl) E30 (by kernel_rfl) (by kernel_rfl) (rdS.up R0 hS.sub0) e6 ?_)
      refine WD.weaken [0, 1, 5, 12, 13, 18] (L' := [(0, .slice A0 l0.length c0), (1, .slice A1 l1.length c1), (5, .int .i64 x13_l1), (12, .int .i64 (l0.length : Int)), (13, .int .i64 x13_l1), (18, .pointer (some (adr A0 x13_l1.toNat 1)))]) (by kernel_rfl) ?_
      refine WD.ofR (i := 3) (by kernel_rfl) (RSt.loadInt (t := 3) (.tmp 18) (by kernel_rfl) (by kernel_rfl) (by kernel_rfl) (by kernel_rfl) (rdS.up R0 hS.sub0) e6 ?_)
      refine WD.weaken [0, 1, 5, 12, 13, 19] (L' := [(0, .slice A0 l0.length c0), (1, .slice A1 l1.length c1), (5, .int .i64 x13_l1), (12, .int .i64 (l0.length : Int)), (13, .int .i64 x13_l1), (19, .int .i64 v5)]) (by kernel_rfl) ?_
      refine WD.pure (i := 4) (v := .slice A1 l1.length c1) (by kernel_rfl) (by kernel_rfl) (fun _ => by kernel_rfl) ?_
      refine WD.weaken [0, 1, 5, 12, 13, 19, 20] (L' := [(0, .slice A0 l0.length c0), (1, .slice A1 l1.length c1), (5, .int .i64 x13_l1), (12, .int .i64 (l0.length : Int)), (13, .int .i64 x13_l1), (19, .int .i64 v5), (20, .slice A1 l1.length c1)]) (by kernel_rfl) ?_
      refine WD.pure (i := 5) (v := .int .i64 x13_l1) (by kernel_rfl) (by kernel_rfl) (fun _ => by kernel_rfl) ?_
      refine WD.weaken [0, 1, 12, 13, 19, 20, 21] (L' := [(0, .slice A0 l0.length c0), (1, .slice A1 l1.length c1), (12, .int .i64 (l0.length : Int)), (13, .int .i64 x13_l1), (19, .int .i64 v5), (20, .slice A1 l1.length c1), (21, .int .i64 x13_l1)]) (by kernel_rfl) ?_
      obtain ⟨v7, e8, H⟩ := bind_ex H
      refine WD.ofP (i := 6) (by kernel_rfl) (PSt.idx (k := .i64) (.tmp 20) (.tmp 21) (by kernel_rfl) (by kernel_rfl) E30 (by kernel_rfl) (by kernel_rfl) (rdS.up R1 hS.sub0) e8 ?_)
      refine WD.weaken [0, 1, 12, 13, 19, 22] (L' := [(0, .slice A0 l0.length c0), (1, .slice A1 l1.length c1), (12, .int .i64 (l0.length : Int)), (13, .int .i64 x13_l1), (19, .int .i64 v5), (22, .pointer (some (adr A1 x13_l1.toNat 1)))]) (by kernel_rfl) ?_
      refine WD.ofR (i := 7) (by kernel_rfl) (RSt.loadInt (t := 3) (.tmp 22) (by kernel_rfl) (by kernel_rfl) (by kernel_rfl) (by kernel_rfl) (rdS.up R1 hS.sub0) e8 ?_)
      refine WD.weaken [0, 1, 12, 13, 19, 23] (L' := [(0, .slice A0 l0.length c0), (1, .slice A1 l1.length c1), (12, .int .i64 (l0.length : Int)), (13, .int .i64 x13_l1), (19, .int .i64 v5), (23, .int .i64 v7)]) (by kernel_rfl) ?_
      refine WD.pure (i := 8) (v := .bool (v5 != v7)) (by kernel_rfl) (by kernel_rfl) (fun _ => by kernel_rfl) ?_
      refine WD.weaken [0, 1, 12, 13, 24] (L' := [(0, .slice A0 l0.length c0), (1, .slice A1 l1.length c1), (12, .int .i64 (l0.length : Int)), (13, .int .i64 x13_l1), (24, .bool (v5 != v7))]) (by kernel_rfl) ?_
      refine WD.nil (by kernel_rfl) ?_
      refine At.go ?_
      refine WC.cond (by kernel_rfl) (v5 != v7) (by kernel_rfl) (by kernel_rfl) (fun hb9 => ?_) (fun hb9 => ?_)
      · replace H := ite_t H hb9
        refine WC.seq (by kernel_rfl) ?_
        refine WC.reg [0] (by kernel_rfl) (by kernel_rfl) ?_
        refine WR.runk [0] [] [4] (L' := [(4, .bool false)]) (w' := w3) (by kernel_rfl) ?_
        refine WR.nil ?_
        refine At.go ?_
        refine WC.ret (by kernel_rfl) ?_
        refine At.blockRet ?_
        refine At.thenRet ?_
        refine At.thenRet ?_
        obtain rfl := Option.some.inj H
        have hS : Sat w3 (rf w0) [] := hS.sel [] (by kernel_rfl)
        refine At.weaken [4] (L' := [(4, .bool false)]) (by kernel_rfl) ?_
        exact hn0 false _ rfl hS
      · replace H := ite_f H hb9
        refine WC.skip (by kernel_rfl) ?_
        refine At.blockNormal ?_
        refine At.go ?_
        refine WC.reg [0, 1] (by kernel_rfl) (by kernel_rfl) ?_
        refine WR.runk [0, 1] [] [0, 1, 12, 13] (L' := [(0, .slice A0 l0.length c0), (1, .slice A1 l1.length c1), (12, .int .i64 (l0.length : Int)), (13, .int .i64 (wi (x13_l1 + 1)))]) (w' := w3) (by kernel_rfl) ?_
        refine WR.nil ?_
        have hS : Sat w3 (rf w0) [] := hS.sel [] (by kernel_rfl)
        refine At.again ?_
        refine WL.weaken [0, 1, 12, 13] (L' := [(0, .slice A0 l0.length c0), (1, .slice A1 l1.length c1), (12, .int .i64 (l0.length : Int)), (13, .int .i64 (wi (x13_l1 + 1)))]) (by kernel_rfl) ?_
        exact ih (wi (x13_l1 + 1)) _ hS H
    · replace H := ite_f H hb2
      refine WC.exit (by kernel_rfl) ?_
      refine At.thenExit ?_
      refine At.thenExit ?_
      obtain rfl := Option.some.inj H
      have hS : Sat w (rf w0) [] := hS.sel [] (by kernel_rfl)
      refine At.weaken [] (L' := []) (by kernel_rfl) ?_
      exact hn1 () _ rfl hS
theorem colophonref08_Same.calls (w0 : World) (A0 : Option Addr) (c0 : Nat) (l0 : List Int) (R0 : rdS (r0 (.int .i64)) 1 (hp w0) A0 c0 l0) (A1 : Option Addr) (c1 : Nat) (l1 : List Int) (R1 : rdS (r0 (.int .i64)) 1 (hp w0) A1 c1 l1) (r : Bool) (H : colophonref08_Same.f l0 l1 = some r) :
    Calls Try.prog 14 #[.slice A0 l0.length c0, .slice A1 l1.length c1] w0 (fun e w' => ∃ v, e = .returned v ∧ colophonref08_Same.post w0 r v w') := by
  have hS : Sat w0 (rf w0) [] := Sat.start w0
  unfold colophonref08_Same.f at H
  refine calls_of_WC (vs := [.slice A0 l0.length c0, .slice A1 l1.length c1]) Try.func14 (c := C14) (n := 26) (by kernel_rfl) (by kernel_rfl) (by kernel_rfl) ?_
  refine WC.seq (by kernel_rfl) ?_
  refine WC.reg [0] (by kernel_rfl) (by kernel_rfl) ?_
  refine WR.runk [0] [] [0, 1] (L' := [(0, .slice A0 l0.length c0), (1, .slice A1 l1.length c1)]) (w' := w0) (by kernel_rfl) ?_
  refine WR.nil ?_
  refine At.go ?_
  refine WC.seq (by kernel_rfl) ?_
  refine WC.seq (by kernel_rfl) ?_
  refine WC.reg [0, 1, 2, 3, 4] (by kernel_rfl) (by kernel_rfl) ?_
  refine WR.runk [0, 1, 2, 3, 4] [] [0, 1, 10] (L' := [(0, .slice A0 l0.length c0), (1, .slice A1 l1.length c1), (10, .bool ((l0.length : Int) != (l1.length : Int)))]) (w' := w0) (by kernel_rfl) ?_
  refine WR.nil ?_
  refine At.go ?_
  refine WC.cond (by kernel_rfl) ((l0.length : Int) != (l1.length : Int)) (by kernel_rfl) (by kernel_rfl) (fun hb1 => ?_) (fun hb1 => ?_)
  · replace H := ite_t H hb1
    refine WC.seq (by kernel_rfl) ?_
    refine WC.reg [0] (by kernel_rfl) (by kernel_rfl) ?_
    refine WR.runk [0] [] [4] (L' := [(4, .bool false)]) (w' := w0) (by kernel_rfl) ?_
    refine WR.nil ?_
    refine At.go ?_
    refine WC.ret (by kernel_rfl) ?_
    refine At.thenRet ?_
    obtain rfl := Option.some.inj H
    have hS : Sat w0 (rf w0) [] := hS.sel [] (by kernel_rfl)
    exact At.body [.bool false] (by kernel_rfl) ⟨_, rfl, rfl, hS⟩
  · replace H := ite_f H hb1
    refine WC.skip (by kernel_rfl) ?_
    refine At.go ?_
    refine WC.seq (by kernel_rfl) ?_
    refine WC.seq (by kernel_rfl) ?_
    refine WC.reg [0, 1, 2] (by kernel_rfl) (by kernel_rfl) ?_
    refine WR.runk [0, 1, 2] [] [0, 1, 12, 13] (L' := [(0, .slice A0 l0.length c0), (1, .slice A1 l1.length c1), (12, .int .i64 (l0.length : Int)), (13, .int .i64 0)]) (w' := w0) (by kernel_rfl) ?_
    refine WR.nil ?_
    refine At.go ?_
    refine WC.block (by kernel_rfl) ?_
    have hS : Sat w0 (rf w0) [] := hS.sel [] (by kernel_rfl)
    obtain ⟨o10, e11, H⟩ := bind_ex H
    refine WC.loop (by kernel_rfl) ?_
    refine WL.weaken [0, 1, 12, 13] (L' := [(0, .slice A0 l0.length c0), (1, .slice A1 l1.length c1), (12, .int .i64 (l0.length : Int)), (13, .int .i64 0)]) (by kernel_rfl) ?_
    refine colophonref08_Same.l1_ok w0 A0 c0 l0 A1 c1 l1 R0 R1 o10 (fun o12 w14 ho15 hS => ?_) (fun o16 w18 ho19 hS => ?_) FU 0 _ hS e11
    · subst ho15
      dsimp only at H
      refine At.blockRet ?_
      refine At.thenRet ?_
      obtain rfl := Option.some.inj H
      have hS : Sat w14 (rf w0) [] := hS.sel [] (by kernel_rfl)
      exact At.body [.bool o12] (by kernel_rfl) ⟨_, rfl, rfl, hS⟩
    · subst ho19
      dsimp only at H
      refine At.hit ?_
      refine At.go ?_
      refine WC.seq (by kernel_rfl) ?_
      refine WC.reg [0] (by kernel_rfl) (by kernel_rfl) ?_
      refine WR.runk [0] [] [4] (L' := [(4, .bool true)]) (w' := w18) (by kernel_rfl) ?_
      refine WR.nil ?_
      refine At.go ?_
      refine WC.ret (by kernel_rfl) ?_
      obtain rfl := Option.some.inj H
      have hS : Sat w18 (rf w0) [] := hS.sel [] (by kernel_rfl)
      exact At.body [.bool true] (by kernel_rfl) ⟨_, rfl, rfl, hS⟩
/-! ### 13 (*colophon/text.Text).Alphabet -/
def text_Text_Alphabet.f (p0 : Option ((List (List Int)) × (List Int) × Int)) : Option Int := (match p0 with | none => some 0 | some y3 => some (wi ((y3.1.length : Int) + 256)))
def text_Text_Alphabet.post (w : World) (r : Int) (v : Value) (w' : World) : Prop := v = (.int .i64 r : Value) ∧ Sat w' (rf w) []
theorem text_Text_Alphabet.calls (w0 : World) (v0 : Value) (p0 : Option ((List (List Int)) × (List Int) × Int)) (R0 : rd (hp w0) (.ptr 45 (.pair (.slice 24 (.slice 5 (.int .u8))) (.pair (.slice 3 (.int .i64)) (.int .i64)))) [v0] p0) (r : Int) (H : text_Text_Alphabet.f p0 = some r) :
    Calls Try.prog 13 #[v0] w0 (fun e w' => ∃ v, e = .returned v ∧ text_Text_Alphabet.post w0 r v w') := by
  have hS : Sat w0 (rf w0) [] := Sat.start w0
  unfold text_Text_Alphabet.f at H
  refine calls_of_WC (vs := [v0]) Try.func13 (c := C13) (n := 11) (by kernel_rfl) (by kernel_rfl) (by kernel_rfl) ?_
  refine WC.seq (by kernel_rfl) ?_
  refine WC.reg [0] (by kernel_rfl) (by kernel_rfl) ?_
  refine WR.runk [0] [] [0] (L' := [(0, v0)]) (w' := w0) (by kernel_rfl) ?_
  refine WR.nil ?_
  refine At.go ?_
  refine WC.seq (by kernel_rfl) ?_
  refine WC.seq (by kernel_rfl) ?_
  refine WC.reg [0, 1] (by kernel_rfl) (by kernel_rfl) ?_
  refine WR.runk [0] [1] [0, 3] (L' := [(0, v0), (3, v0)]) (w' := w0) (by kernel_rfl) ?_
  rcases opt_cases p0 with hr1 | ⟨y3, hr1⟩
  · rw [hr1] at H
    dsimp only at H
    have hx2 := rd_ptr_none R0 hr1
    try subst hx2
    refine WR.runk [1] [] [0, 4] (L' := [(0, .pointer none), (4, .bool true)]) (w' := w0) (by kernel_rfl) ?_
    refine WR.nil ?_
    refine At.go ?_
    refine WC.condT (by kernel_rfl) (by kernel_rfl) (by kernel_rfl) ?_
    refine WC.seq (by kernel_rfl) ?_
    refine WC.reg [0] (by kernel_rfl) (by kernel_rfl) ?_
    refine WR.runk [0] [] [2] (L' := [(2, .int .i64 0)]) (w' := w0) (by kernel_rfl) ?_
    refine WR.nil ?_
    refine At.go ?_
    refine WC.ret (by kernel_rfl) ?_
    refine At.thenRet ?_
    obtain rfl := Option.some.inj H
    have hS : Sat w0 (rf w0) [] := hS.sel [] (by kernel_rfl)
    exact At.body [.int .i64 0] (by kernel_rfl) ⟨_, rfl, rfl, hS⟩
  · rw [hr1] at H
    dsimp only at H
    obtain ⟨b4, fr5, A9, c10, A12, c13, hv6, hb7, R11, R14⟩ := P45.open R0 hr1
    have R8 := R0
    rw [hv6, hr1] at R8
    try subst hv6
    replace R11 : rdS (rd (hp w0) (.slice 5 (.int .u8))) 1 (hp w0) A9 c10 y3.1 := R11
    replace R14 : rdS (r0 (.int .i64)) 1 (hp w0) A12 c13 y3.2.1 := R14
    refine WR.runk [1] [] [0, 4] (L' := [(0, .pointer (some ⟨b4, 0, none⟩)), (4, .bool false)]) (w' := w0) (by kernel_rfl) ?_
    refine WR.nil ?_
    refine At.go ?_
    refine WC.condF (by kernel_rfl) (by kernel_rfl) (by kernel_rfl) ?_
    refine WC.skip (by kernel_rfl) ?_
    refine At.go ?_
    refine WC.seq (by kernel_rfl) ?_
    refine WC.reg [0, 1, 2, 3, 4, 5, 6] (by kernel_rfl) (by kernel_rfl) ?_
    refine WR.runk [0, 1, 2] [3, 4, 5, 6] [7] (L' := [(7, .pointer (some ⟨b4, 0, none⟩))]) (w' := w0) (by kernel_rfl) ?_
    refine WR.st (St.ofR (RSt.loadRo (t := 22) (k := 0) (v := .slice A9 y3.1.length c10) (.tmp 7) (by kernel_rfl) (by kernel_rfl) (by kernel_rfl) hS.sub0 hb7 (by kernel_rfl) rfl ?_))
    refine WR.runk [4, 5, 6] [] [2] (L' := [(2, .int .i64 (wi ((y3.1.length : Int) + 256)))]) (w' := w0) (by kernel_rfl) ?_
    refine WR.nil ?_
    refine At.go ?_
    refine WC.ret (by kernel_rfl) ?_
    obtain rfl := Option.some.inj H
    have hS : Sat w0 (rf w0) [] := hS.sel [] (by kernel_rfl)
    exact At.body [.int .i64 (wi ((y3.1.length : Int) + 256))] (by kernel_rfl) ⟨_, rfl, rfl, hS⟩
/-! ### 18 (*colophon/text.Text).Start -/
def text_Text_Start.f (p0 : Option ((List (List Int)) × (List Int) × Int)) (a1 : Int) : Option Int := (match p0 with | none => some (-1) | some y3 => (if decide (a1 < 0) then some (-1) else (if decide (a1 > (y3.1.length : Int)) then some (-1) else (if (a1 == (y3.1.length : Int)) then some y3.2.2 else ((at? y3.2.1 a1).bind fun v18 => some v18)))))
def text_Text_Start.post (w : World) (r : Int) (v : Value) (w' : World) : Prop := v = (.int .i64 r : Value) ∧ Sat w' (rf w) []
theorem text_Text_Start.calls (w0 : World) (v0 : Value) (p0 : Option ((List (List Int)) × (List Int) × Int)) (R0 : rd (hp w0) (.ptr 45 (.pair (.slice 24 (.slice 5 (.int .u8))) (.pair (.slice 3 (.int .i64)) (.int .i64)))) [v0] p0) (a1 : Int) (r : Int) (H : text_Text_Start.f p0 a1 = some r) :
    Calls Try.prog 18 #[v0, .int .i64 a1] w0 (fun e w' => ∃ v, e = .returned v ∧ text_Text_Start.post w0 r v w') := by
  have hS : Sat w0 (rf w0) [] := Sat.start w0
  unfold text_Text_Start.f at H
  refine calls_of_WC (vs := [v0, .int .i64 a1]) Try.func18 (c := C18) (n := 40) (by kernel_rfl) (by kernel_rfl) (by kernel_rfl) ?_
  refine WC.seq (by kernel_rfl) ?_
  refine WC.reg [0] (by kernel_rfl) (by kernel_rfl) ?_
  refine WR.runk [0] [] [0, 1] (L' := [(0, v0), (1, .int .i64 a1)]) (w' := w0) (by kernel_rfl) ?_
  refine WR.nil ?_
  refine At.go ?_
  refine WC.seq (by kernel_rfl) ?_
  refine WC.block (by kernel_rfl) ?_
  refine WC.seq (by kernel_rfl) ?_
  refine WC.reg [0, 1, 2, 3, 4, 5, 6, 7, 8, 9, 10, 11, 12, 13, 14, 15] (by kernel_rfl) (by kernel_rfl) ?_
  refine WR.runk [0] [1, 2, 3, 4, 5, 6, 7, 8, 9, 10, 11, 12, 13, 14, 15] [0, 1, 6] (L' := [(0, v0), (1, .int .i64 a1), (6, v0)]) (w' := w0) (by kernel_rfl) ?_
  rcases opt_cases p0 with hr1 | ⟨y3, hr1⟩
  · rw [hr1] at H
    dsimp only at H
    have hx2 := rd_ptr_none R0 hr1
    try subst hx2
    refine WR.runk [1, 2, 3, 4, 5, 6, 7, 8, 9, 10, 11, 12, 13, 14, 15] [] [0, 1, 5] (L' := [(0, .pointer none), (1, .int .i64 a1), (5, .bool true)]) (w' := w0) (by kernel_rfl) ?_
    refine WR.nil ?_
    refine At.go ?_
    refine WC.condT (by kernel_rfl) (by kernel_rfl) (by kernel_rfl) ?_
    refine WC.seq (by kernel_rfl) ?_
    refine WC.reg [0] (by kernel_rfl) (by kernel_rfl) ?_
    refine WR.runk [0] [] [4] (L' := [(4, .int .i64 (-1))]) (w' := w0) (by kernel_rfl) ?_
    refine WR.nil ?_
    refine At.go ?_
    refine WC.ret (by kernel_rfl) ?_
    refine At.blockRet ?_
    refine At.thenRet ?_
    obtain rfl := Option.some.inj H
    have hS : Sat w0 (rf w0) [] := hS.sel [] (by kernel_rfl)
    exact At.body [.int .i64 (-1)] (by kernel_rfl) ⟨_, rfl, rfl, hS⟩
  · rw [hr1] at H
    dsimp only at H
    obtain ⟨b4, fr5, A9, c10, A12, c13, hv6, hb7, R11, R14⟩ := P45.open R0 hr1
    have R8 := R0
    rw [hv6, hr1] at R8
    try subst hv6
    replace R11 : rdS (rd (hp w0) (.slice 5 (.int .u8))) 1 (hp w0) A9 c10 y3.1 := R11
    replace R14 : rdS (r0 (.int .i64)) 1 (hp w0) A12 c13 y3.2.1 := R14
    refine WR.runk [1, 2, 3, 4, 5, 6] [7, 8, 9, 10, 11, 12, 13, 14, 15] [0, 1, 12] (L' := [(0, .pointer (some ⟨b4, 0, none⟩)), (1, .int .i64 a1), (12, .bool (decide (a1 < 0)))]) (w' := w0) (by kernel_rfl) ?_
    refine WR.split 12 (b := decide (a1 < 0)) (by kernel_rfl) (fun hb15 => ?_) (fun hb15 => ?_)
    · replace H := ite_t H hb15
      refine WR.runk [7, 8, 9, 10, 11, 12, 13, 14, 15] [] [0, 1, 5] (L' := [(0, .pointer (some ⟨b4, 0, none⟩)), (1, .int .i64 a1), (5, .bool true)]) (w' := w0) (by kernel_rfl) ?_
      refine WR.nil ?_
      refine At.go ?_
      refine WC.condT (by kernel_rfl) (by kernel_rfl) (by kernel_rfl) ?_
      refine WC.seq (by kernel_rfl) ?_
      refine WC.reg [0] (by kernel_rfl) (by kernel_rfl) ?_
      refine WR.runk [0] [] [4] (L' := [(4, .int .i64 (-1))]) (w' := w0) (by kernel_rfl) ?_
      refine WR.nil ?_
      refine At.go ?_
      refine WC.ret (by kernel_rfl) ?_
      refine At.blockRet ?_
      refine At.thenRet ?_
      obtain rfl := Option.some.inj H
      have hS : Sat w0 (rf w0) [] := hS.sel [] (by kernel_rfl)
      exact At.body [.int .i64 (-1)] (by kernel_rfl) ⟨_, rfl, rfl, hS⟩
    · replace H := ite_f H hb15
      refine WR.runk [7, 8, 9, 10] [11, 12, 13, 14, 15] [0, 1, 12, 13, 16] (L' := [(0, .pointer (some ⟨b4, 0, none⟩)), (1, .int .i64 a1), (12, .bool false), (13, .int .i64 a1), (16, .pointer (some ⟨b4, 0, none⟩))]) (w' := w0) (by kernel_rfl) ?_
      refine WR.st (St.ofR (RSt.loadRo (t := 22) (k := 0) (v := .slice A9 y3.1.length c10) (.tmp 16) (by kernel_rfl) (by kernel_rfl) (by kernel_rfl) hS.sub0 hb7 (by kernel_rfl) rfl ?_))
      refine WR.runk [12, 13, 14, 15] [] [0, 1, 5] (L' := [(0, .pointer (some ⟨b4, 0, none⟩)), (1, .int .i64 a1), (5, .bool (decide (a1 > (y3.1.length : Int))))]) (w' := w0) (by kernel_rfl) ?_
      refine WR.nil ?_
      refine At.go ?_
      refine WC.cond (by kernel_rfl) (decide (a1 > (y3.1.length : Int))) (by kernel_rfl) (by kernel_rfl) (fun hb16 => ?_) (fun hb16 => ?_)
      · replace H := ite_t H hb16
        refine WC.seq (by kernel_rfl) ?_
        refine WC.reg [0] (by kernel_rfl) (by kernel_rfl) ?_
        refine WR.runk [0] [] [4] (L' := [(4, .int .i64 (-1))]) (w' := w0) (by kernel_rfl) ?_
        refine WR.nil ?_
        refine At.go ?_
        refine WC.ret (by kernel_rfl) ?_
        refine At.blockRet ?_
        refine At.thenRet ?_
        obtain rfl := Option.some.inj H
        have hS : Sat w0 (rf w0) [] := hS.sel [] (by kernel_rfl)
        exact At.body [.int .i64 (-1)] (by kernel_rfl) ⟨_, rfl, rfl, hS⟩
      · replace H := ite_f H hb16
        refine WC.seq (by kernel_rfl) ?_
        refine WC.reg [0, 1, 2, 3, 4, 5, 6, 7] (by kernel_rfl) (by kernel_rfl) ?_
        refine WR.runk [0, 1, 2, 3] [4, 5, 6, 7] [0, 1, 22, 25] (L' := [(0, .pointer (some ⟨b4, 0, none⟩)), (1, .int .i64 a1), (22, .int .i64 a1), (25, .pointer (some ⟨b4, 0, none⟩))]) (w' := w0) (by kernel_rfl) ?_
        refine WR.st (St.ofR (RSt.loadRo (t := 22) (k := 0) (v := .slice A9 y3.1.length c10) (.tmp 25) (by kernel_rfl) (by kernel_rfl) (by kernel_rfl) hS.sub0 hb7 (by kernel_rfl) rfl ?_))
        refine WR.runk [5, 6, 7] [] [0, 1, 21] (L' := [(0, .pointer (some ⟨b4, 0, none⟩)), (1, .int .i64 a1), (21, .bool (a1 == (y3.1.length : Int)))]) (w' := w0) (by kernel_rfl) ?_
        refine WR.nil ?_
        refine At.go ?_
        refine WC.cond (by kernel_rfl) (a1 == (y3.1.length : Int)) (by kernel_rfl) (by kernel_rfl) (fun hb17 => ?_) (fun hb17 => ?_)
        · replace H := ite_t H hb17
          refine WC.seq (by kernel_rfl) ?_
          refine WC.reg [0, 1, 2, 3, 4] (by kernel_rfl) (by kernel_rfl) ?_
          refine WR.runk [0, 1, 2] [3, 4] [31] (L' := [(31, .pointer (some ⟨b4, 2, none⟩))]) (w' := w0) (by kernel_rfl) ?_
          refine WR.st (St.ofR (RSt.loadRo (t := 3) (k := 2) (v := .int .i64 y3.2.2) (.tmp 31) (by kernel_rfl) (by kernel_rfl) (by kernel_rfl) hS.sub0 hb7 (by kernel_rfl) rfl ?_))
          refine WR.runk [4] [] [4] (L' := [(4, .int .i64 y3.2.2)]) (w' := w0) (by kernel_rfl) ?_
          refine WR.nil ?_
          refine At.go ?_
          refine WC.ret (by kernel_rfl) ?_
          refine At.blockRet ?_
          refine At.thenRet ?_
          obtain rfl := Option.some.inj H
          have hS : Sat w0 (rf w0) [] := hS.sel [] (by kernel_rfl)
          exact At.body [.int .i64 y3.2.2] (by kernel_rfl) ⟨_, rfl, rfl, hS⟩
        · replace H := ite_f H hb17
          refine WC.skip (by kernel_rfl) ?_
          refine At.blockNormal ?_
          refine At.go ?_
          refine WC.seq (by kernel_rfl) ?_
          refine WC.reg [0, 1, 2, 3, 4, 5, 6, 7] (by kernel_rfl) (by kernel_rfl) ?_
          refine WR.runk [0, 1, 2] [3, 4, 5, 6, 7] [1, 35] (L' := [(1, .int .i64 a1), (35, .pointer (some ⟨b4, 1, none⟩))]) (w' := w0) (by kernel_rfl) ?_
          refine WR.st (St.ofR (RSt.loadRo (t := 30) (k := 1) (v := .slice A12 y3.2.1.length c13) (.tmp 35) (by kernel_rfl) (by kernel_rfl) (by kernel_rfl) hS.sub0 hb7 (by kernel_rfl) rfl ?_))
          refine WR.runk [4] [5, 6, 7] [36, 37] (L' := [(36, .slice A12 y3.2.1.length c13), (37, .int .i64 a1)]) (w' := w0) (by kernel_rfl) ?_
          obtain ⟨v18, e19, H⟩ := bind_ex H
          refine WR.st (St.ofP (PSt.idx (k := .i64) (.tmp 36) (.tmp 37) (by kernel_rfl) (by kernel_rfl) E30 (by kernel_rfl) (by kernel_rfl) (rdS.up R14 hS.sub0) e19 ?_))
          refine WR.runk [] [6, 7] [38] (L' := [(38, .pointer (some (adr A12 a1.toNat 1)))]) (w' := w0) (by kernel_rfl) ?_
          refine WR.st (St.ofR (RSt.loadInt (t := 3) (.tmp 38) (by kernel_rfl) (by kernel_rfl) (by kernel_rfl) (by kernel_rfl) (rdS.up R14 hS.sub0) e19 ?_))
          refine WR.runk [7] [] [4] (L' := [(4, .int .i64 v18)]) (w' := w0) (by kernel_rfl) ?_
          refine WR.nil ?_
          refine At.go ?_
          refine WC.ret (by kernel_rfl) ?_
          obtain rfl := Option.some.inj H
          have hS : Sat w0 (rf w0) [] := hS.sel [] (by kernel_rfl)
          exact At.body [.int .i64 v18] (by kernel_rfl) ⟨_, rfl, rfl, hS⟩
/-! ### 19 (*colophon/text.Text).Bytes -/
def text_Text_Bytes.f (p0 : Option ((List (List Int)) × (List Int) × Int)) (a1 : Int) : Option (List Int) := (if decide (a1 < 0) then some ([] : List Int) else ((text_Text_Docs.f p0).bind fun r2 => (if decide (a1 ≥ r2) then some ([] : List Int) else (p0.bind fun y14 => ((at? y14.1 a1).bind fun v26 => ((slices_Clone.f v26).bind fun r31 => some r31))))))
def text_Text_Bytes.post (w : World) (r : (List Int)) (v : Value) (w' : World) : Prop := ∃ (A0' : Option Addr) (c0' : Nat), v = (.slice A0' r.length c0' : Value) ∧ Sat w' (rf w) [osl 5 (r0 (.int .u8)) 1 A0' c0' r]
theorem text_Text_Bytes.calls (w0 : World) (v0 : Value) (p0 : Option ((List (List Int)) × (List Int) × Int)) (R0 : rd (hp w0) (.ptr 45 (.pair (.slice 24 (.slice 5 (.int .u8))) (.pair (.slice 3 (.int .i64)) (.int .i64)))) [v0] p0) (a1 : Int) (r : (List Int)) (H : text_Text_Bytes.f p0 a1 = some r) :
    Calls Try.prog 19 #[v0, .int .i64 a1] w0 (fun e w' => ∃ v, e = .returned v ∧ text_Text_Bytes.post w0 r v w') := by
  have hS : Sat w0 (rf w0) [] := Sat.start w0
  unfold text_Text_Bytes.f at H
  refine calls_of_WC (vs := [v0, .int .i64 a1]) Try.func19 (c := C19) (n := 21) (by kernel_rfl) (by kernel_rfl) (by kernel_rfl) ?_
  refine WC.seq (by kernel_rfl) ?_
  refine WC.reg [0] (by kernel_rfl) (by kernel_rfl) ?_
  refine WR.runk [0] [] [0, 1] (L' := [(0, v0), (1, .int .i64 a1)]) (w' := w0) (by kernel_rfl) ?_
  refine WR.nil ?_
  refine At.go ?_
  refine WC.seq (by kernel_rfl) ?_
  refine WC.seq (by kernel_rfl) ?_
  refine WC.reg [0, 1, 2, 3, 4, 5, 6, 7] (by kernel_rfl) (by kernel_rfl) ?_
  refine WR.runk [0, 1, 2] [3, 4, 5, 6, 7] [0, 1, 7] (L' := [(0, v0), (1, .int .i64 a1), (7, .bool (decide (a1 < 0)))]) (w' := w0) (by kernel_rfl) ?_
  refine WR.split 7 (b := decide (a1 < 0)) (by kernel_rfl) (fun hb1 => ?_) (fun hb1 => ?_)
  · replace H := ite_t H hb1
    refine WR.runk [3, 4, 5, 6, 7] [] [0, 1, 12] (L' := [(0, v0), (1, .int .i64 a1), (12, .bool true)]) (w' := w0) (by kernel_rfl) ?_
    refine WR.nil ?_
    refine At.go ?_
    refine WC.condT (by kernel_rfl) (by kernel_rfl) (by kernel_rfl) ?_
    refine WC.seq (by kernel_rfl) ?_
    refine WC.reg [0] (by kernel_rfl) (by kernel_rfl) ?_
    refine WR.runk [0] [] [4] (L' := [(4, .slice none 0 0)]) (w' := w0) (by kernel_rfl) ?_
    refine WR.nil ?_
    refine At.go ?_
    refine WC.ret (by kernel_rfl) ?_
    refine At.thenRet ?_
    obtain rfl := Option.some.inj H
    have hS := hS.addNil (α := Int) 5 (r0 (.int .u8)) 1
    have hS : Sat w0 (rf w0) [osl 5 (r0 (.int .u8)) 1 none 0 ([] : List Int)] := hS.sel [0] (by kernel_rfl)
    exact At.body [.slice none 0 0] (by kernel_rfl) ⟨_, rfl, _, _, rfl, hS⟩
  · replace H := ite_f H hb1
    refine WR.runk [3, 4] [5, 6, 7] [0, 1, 7, 8, 9] (L' := [(0, v0), (1, .int .i64 a1), (7, .bool false), (8, .int .i64 a1), (9, v0)]) (w' := w0) (by kernel_rfl) ?_
    obtain ⟨r2, e3, H⟩ := bind_ex H
    refine WR.st (St.call (by kernel_rfl) (f := 11) (args := #[v0]) (by kernel_rfl) (text_Text_Docs.calls w0 (v0) p0 (rd.mono hS.sub0 _ _ _ R0) r2 e3) ?_)
    rintro _ w9 ⟨rfl, hS10⟩
    have hS : Sat w9 (rf w0) [] := hS.ext hS10
    refine WR.runk [6, 7] [] [0, 1, 12] (L' := [(0, v0), (1, .int .i64 a1), (12, .bool (decide (a1 ≥ r2)))]) (w' := w9) (by kernel_rfl) ?_
    refine WR.nil ?_
    refine At.go ?_
    refine WC.cond (by kernel_rfl) (decide (a1 ≥ r2)) (by kernel_rfl) (by kernel_rfl) (fun hb11 => ?_) (fun hb11 => ?_)
    · replace H := ite_t H hb11
      refine WC.seq (by kernel_rfl) ?_
      refine WC.reg [0] (by kernel_rfl) (by kernel_rfl) ?_
      refine WR.runk [0] [] [4] (L' := [(4, .slice none 0 0)]) (w' := w9) (by kernel_rfl) ?_
      refine WR.nil ?_
      refine At.go ?_
      refine WC.ret (by kernel_rfl) ?_
      refine At.thenRet ?_
      obtain rfl := Option.some.inj H
      have hS := hS.addNil (α := Int) 5 (r0 (.int .u8)) 1
      have hS : Sat w9 (rf w0) [osl 5 (r0 (.int .u8)) 1 none 0 ([] : List Int)] := hS.sel [0] (by kernel_rfl)
      exact At.body [.slice none 0 0] (by kernel_rfl) ⟨_, rfl, _, _, rfl, hS⟩
    · replace H := ite_f H hb11
      refine WC.skip (by kernel_rfl) ?_
      refine At.go ?_
      refine WC.seq (by kernel_rfl) ?_
      refine WC.reg [0, 1, 2, 3, 4, 5, 6, 7, 8] (by kernel_rfl) (by kernel_rfl) ?_
      refine WR.runk [0] [1, 2, 3, 4, 5, 6, 7, 8] [1, 13] (L' := [(1, .int .i64 a1), (13, v0)]) (w' := w9) (by kernel_rfl) ?_
      obtain ⟨y14, hr12, H⟩ := bind_ex H
      obtain ⟨b15, fr16, A20, c21, A23, c24, hv17, hb18, R22, R25⟩ := P45.open R0 hr12
      have R19 := R0
      rw [hv17, hr12] at R19
      try subst hv17
      replace R22 : rdS (rd (hp w0) (.slice 5 (.int .u8))) 1 (hp w0) A20 c21 y14.1 := R22
      replace R25 : rdS (r0 (.int .i64)) 1 (hp w0) A23 c24 y14.2.1 := R25
      refine WR.runk [1, 2] [3, 4, 5, 6, 7, 8] [1, 15] (L' := [(1, .int .i64 a1), (15, .pointer (some ⟨b15, 0, none⟩))]) (w' := w9) (by kernel_rfl) ?_
      refine WR.st (St.ofR (RSt.loadRo (t := 22) (k := 0) (v := .slice A20 y14.1.length c21) (.tmp 15) (by kernel_rfl) (by kernel_rfl) (by kernel_rfl) hS.sub0 hb18 (by kernel_rfl) rfl ?_))
      refine WR.runk [4] [5, 6, 7, 8] [16, 17] (L' := [(16, .slice A20 y14.1.length c21), (17, .int .i64 a1)]) (w' := w9) (by kernel_rfl) ?_
      obtain ⟨v26, e27, H⟩ := bind_ex H
      refine WR.st (St.ofP (PSt.idx (k := .i64) (.tmp 16) (.tmp 17) (by kernel_rfl) (by kernel_rfl) E22 (by kernel_rfl) (by kernel_rfl) (rdS.up R22 hS.sub0) e27 ?_))
      refine WR.runk [] [6, 7, 8] [18] (L' := [(18, .pointer (some (adr A20 a1.toNat 1)))]) (w' := w9) (by kernel_rfl) ?_
      refine WR.st (St.ofR (RSt.loadSl (t := 24) (.tmp 18) (by kernel_rfl) (by kernel_rfl) (by kernel_rfl) (by kernel_rfl) R22 e27 hS.sub0 (fun A28 c29 R30 => ?_)))
      replace R30 : rdS (r0 (.int .u8)) 1 (hp w0) A28 c29 v26 := R30
      refine WR.runk [] [7, 8] [19] (L' := [(19, .slice A28 v26.length c29)]) (w' := w9) (by kernel_rfl) ?_
      obtain ⟨r31, e32, H⟩ := bind_ex H
      refine WR.st (St.call (by kernel_rfl) (f := 22) (args := #[.slice A28 v26.length c29]) (by kernel_rfl) (slices_Clone.calls w9 A28 c29 v26 (rdS.up R30 hS.sub0) r31 e32) ?_)
      rintro _ w38 ⟨A40, c41, rfl, hS39⟩
      have hS : Sat w38 (rf w0) [osl 5 (r0 (.int .u8)) 1 A40 c41 r31] := hS.ext hS39
      refine WR.runk [8] [] [4] (L' := [(4, .slice A40 r31.length c41)]) (w' := w38) (by kernel_rfl) ?_
      refine WR.nil ?_
      refine At.go ?_
      refine WC.ret (by kernel_rfl) ?_
      obtain rfl := Option.some.inj H
      have hS : Sat w38 (rf w0) [osl 5 (r0 (.int .u8)) 1 A40 c41 r31] := hS.sel [0] (by kernel_rfl)
      exact At.body [.slice A40 r31.length c41] (by kernel_rfl) ⟨_, rfl, _, _, rfl, hS⟩
/-! ### 7 colophon/colophonlaw08.first -/
def colophonlaw08_first.f : Option Bool := ((text_New.f ([([97, 98] : List Int), ([] : List Int), ([98] : List Int)] : List (List Int))).bind fun r9 => (match r9.1 with | none => some false | some y19 => (if (r9.2 != 0) then some false else ((text_Text_Doc.f (some y19) 4).bind fun r25 => ((text_Text_Symbols.f (some y19)).bind fun r34 => ((colophonref08_Same.f r34 ([100, 101, 0, 1, 101, 2] : List Int)).bind fun r47 => (if r47 then ((text_Text_Len.f (some y19)).bind fun r57 => (if (r57 == 6) then ((text_Text_Docs.f (some y19)).bind fun r67 => (if (r67 == 3) then ((text_Text_Alphabet.f (some y19)).bind fun r77 => (if (r77 == 259) then (if (r25.1 == 2) then (if (r25.2 == 0) then ((text_Text_Start.f (some y19) 2).bind fun r89 => (if (r89 == 4) then ((text_Text_Start.f (some y19) 3).bind fun r99 => (if (r99 == 6) then ((text_Text_Bytes.f (some y19) 0).bind fun r109 => some ((bs r109).toList == (⟨#[97, 98]⟩ : ByteArray).toList)) else some false)) else some false)) else some false) else some false) else some false)) else some false)) else some false)) else some false)))))))
def colophonlaw08_first.post (w : World) (r : Bool) (v : Value) (w' : World) : Prop := v = (.bool r : Value) ∧ Sat w' (rf w) []
theorem colophonlaw08_first.calls (w0 : World) (r : Bool) (H : colophonlaw08_first.f = some r) :
    Calls Try.prog 7 #[] w0 (fun e w' => ∃ v, e = .returned v ∧ colophonlaw08_first.post w0 r v w') := by
  have hS : Sat w0 (rf w0) [] := Sat.start w0
  unfold colophonlaw08_first.f at H
  refine calls_of_WC (vs := []) Try.func7 (c := C7) (n := 68) (by kernel_rfl) (by kernel_rfl) (by kernel_rfl) ?_
  refine WC.seq (by kernel_rfl) ?_
  refine WC.reg [0] (by kernel_rfl) (by kernel_rfl) ?_
  refine WR.runk [0] [] [] (L' := []) (w' := w0) (by kernel_rfl) ?_
  refine WR.nil ?_
  refine At.go ?_
  refine WC.seq (by kernel_rfl) ?_
  refine WC.reg [0, 1, 2, 3, 4, 5, 6, 7, 8, 9, 10] (by kernel_rfl) (by kernel_rfl) ?_
  refine WR.st (St.box hS (by kernel_rfl) (.cells #[.int .u8 97, .int .u8 98] 5) (fun b1 => .slice (some ⟨b1, 0, none⟩) 2 2) (fun _ => by kernel_rfl) (fun b1 w2 hS => ?_))
  refine WR.runk [] [1, 2, 3, 4, 5, 6, 7, 8, 9, 10] [6] (L' := [(6, .slice (some ⟨b1, 0, none⟩) 2 2)]) (w' := w2) (by kernel_rfl) ?_
  refine WR.st (St.mark (t := 24) (e := 5) (m := 2) (cp := 2) (.tmp 6) (by kernel_rfl) (by kernel_rfl) (by kernel_rfl) (by kernel_rfl) hS (by kernel_rfl) (fun w3 hS => ?_))
  refine WR.runk [] [2, 3, 4, 5, 6, 7, 8, 9, 10] [7] (L' := [(7, .slice (some ⟨b1, 0, none⟩) 2 2)]) (w' := w3) (by kernel_rfl) ?_
  refine WR.st (St.box hS (by kernel_rfl) (.cells #[.int .u8 98] 5) (fun b4 => .slice (some ⟨b4, 0, none⟩) 1 1) (fun _ => by kernel_rfl) (fun b4 w5 hS => ?_))
  refine WR.runk [] [3, 4, 5, 6, 7, 8, 9, 10] [7, 8] (L' := [(7, .slice (some ⟨b1, 0, none⟩) 2 2), (8, .slice (some ⟨b4, 0, none⟩) 1 1)]) (w' := w5) (by kernel_rfl) ?_
  refine WR.st (St.mark (t := 24) (e := 5) (m := 1) (cp := 1) (.tmp 8) (by kernel_rfl) (by kernel_rfl) (by kernel_rfl) (by kernel_rfl) hS (by kernel_rfl) (fun w6 hS => ?_))
  refine WR.runk [] [4, 5, 6, 7, 8, 9, 10] [7, 9] (L' := [(7, .slice (some ⟨b1, 0, none⟩) 2 2), (9, .slice (some ⟨b4, 0, none⟩) 1 1)]) (w' := w6) (by kernel_rfl) ?_
  refine WR.st (St.box hS (by kernel_rfl) (.cells #[.slice (some ⟨b1, 0, none⟩) 2 2, .slice none 0 0, .slice (some ⟨b4, 0, none⟩) 1 1] 24) (fun b7 => .slice (some ⟨b7, 0, none⟩) 3 3) (fun _ => by kernel_rfl) (fun b7 w8 hS => ?_))
  refine WR.runk [] [5, 6, 7, 8, 9, 10] [10] (L' := [(10, .slice (some ⟨b7, 0, none⟩) 3 3)]) (w' := w8) (by kernel_rfl) ?_
  obtain ⟨r9, e10, H⟩ := bind_ex H
  refine WR.st (St.call (by kernel_rfl) (f := 8) (args := #[.slice (some ⟨b7, 0, none⟩) 3 3]) (by kernel_rfl) (text_New.calls w8 (some ⟨b7, 0, none⟩) 3 ([([97, 98] : List Int), ([] : List Int), ([98] : List Int)] : List (List Int)) (Sat.ptsAt 0 (rd (hp w8) (.slice 5 (.int .u8))) 1 ([([97, 98] : List Int), ([] : List Int), ([98] : List Int)] : List (List Int)) hS rfl rfl (rdL.cons1 ⟨_, _, rfl, (rdS.r0up (Sat.ptsAt 2 (r0 (.int .u8)) 1 ([97, 98] : List Int) hS rfl rfl (rdL.cons1 rfl (rdL.cons1 rfl (rdL.nil _ _)))))⟩ (rdL.cons1 ⟨_, _, rfl, (rdS.r0up (rdS.nil _ _ _))⟩ (rdL.cons1 ⟨_, _, rfl, (rdS.r0up (Sat.ptsAt 1 (r0 (.int .u8)) 1 ([98] : List Int) hS rfl rfl (rdL.cons1 rfl (rdL.nil _ _))))⟩ (rdL.nil _ _))))) r9 e10) ?_)
  rintro _ w16 ⟨pv18, rfl, hS17⟩
  have hS : Sat w16 (rf w0) [optP O45 pv18 r9.1, pts b7 (.cells #[.slice (some ⟨b1, 0, none⟩) 2 2, .slice none 0 0, .slice (some ⟨b4, 0, none⟩) 1 1] 24 (0, 0)), pts b4 (.cells #[.int .u8 98] 5 (1, 2)), pts b1 (.cells #[.int .u8 97, .int .u8 98] 5 (2, 3))] := hS.ext hS17
  refine WR.runk [6, 7, 8, 9, 10] [] [1, 2] (L' := [(1, pv18), (2, .int .i64 r9.2)]) (w' := w16) (by kernel_rfl) ?_
  refine WR.nil ?_
  refine At.go ?_
  refine WC.seq (by kernel_rfl) ?_
  refine WC.seq (by kernel_rfl) ?_
  refine WC.reg [0, 1, 2, 3, 4, 5] (by kernel_rfl) (by kernel_rfl) ?_
  refine WR.runk [0] [1, 2, 3, 4, 5] [1, 2, 14] (L' := [(1, pv18), (2, .int .i64 r9.2), (14, pv18)]) (w' := w16) (by kernel_rfl) ?_
  rcases hr20 : r9.1 with _ | y19
  · rw [hr20] at H
    dsimp only at H
    have hv21 := optP.none hS hr20
    subst hv21
    have hS : Sat w16 (rf w0) [pts b7 (.cells #[.slice (some ⟨b1, 0, none⟩) 2 2, .slice none 0 0, .slice (some ⟨b4, 0, none⟩) 1 1] 24 (0, 0)), pts b4 (.cells #[.int .u8 98] 5 (1, 2)), pts b1 (.cells #[.int .u8 97, .int .u8 98] 5 (2, 3))] := hS.sel [1, 2, 3] (by kernel_rfl)
    refine WR.runk [1, 2, 3, 4, 5] [] [1, 19] (L' := [(1, .pointer none), (19, .bool true)]) (w' := w16) (by kernel_rfl) ?_
    refine WR.nil ?_
    refine At.go ?_
    refine WC.condT (by kernel_rfl) (by kernel_rfl) (by kernel_rfl) ?_
    refine WC.seq (by kernel_rfl) ?_
    refine WC.reg [0] (by kernel_rfl) (by kernel_rfl) ?_
    refine WR.runk [0] [] [0] (L' := [(0, .bool false)]) (w' := w16) (by kernel_rfl) ?_
    refine WR.nil ?_
    refine At.go ?_
    refine WC.ret (by kernel_rfl) ?_
    refine At.thenRet ?_
    obtain rfl := Option.some.inj H
    have hS : Sat w16 (rf w0) [] := hS.sel [] (by kernel_rfl)
    exact At.body [.bool false] (by kernel_rfl) ⟨_, rfl, rfl, hS⟩
  · rw [hr20] at H
    dsimp only at H
    obtain ⟨b22, hv21, hN120⟩ := optP.some hS hr20
    subst hv21
    have hS : Sat w16 (rf w0) [O45 b22 y19, pts b7 (.cells #[.slice (some ⟨b1, 0, none⟩) 2 2, .slice none 0 0, .slice (some ⟨b4, 0, none⟩) 1 1] 24 (0, 0)), pts b4 (.cells #[.int .u8 98] 5 (1, 2)), pts b1 (.cells #[.int .u8 97, .int .u8 98] 5 (2, 3))] := hN120
    refine WR.runk [1, 2, 3, 4, 5] [] [1, 19] (L' := [(1, .pointer (some ⟨b22, 0, none⟩)), (19, .bool (r9.2 != 0))]) (w' := w16) (by kernel_rfl) ?_
    refine WR.nil ?_
    refine At.go ?_
    refine WC.cond (by kernel_rfl) (r9.2 != 0) (by kernel_rfl) (by kernel_rfl) (fun hb24 => ?_) (fun hb24 => ?_)
    · replace H := ite_t H hb24
      refine WC.seq (by kernel_rfl) ?_
      refine WC.reg [0] (by kernel_rfl) (by kernel_rfl) ?_
      refine WR.runk [0] [] [0] (L' := [(0, .bool false)]) (w' := w16) (by kernel_rfl) ?_
      refine WR.nil ?_
      refine At.go ?_
      refine WC.ret (by kernel_rfl) ?_
      refine At.thenRet ?_
      obtain rfl := Option.some.inj H
      have hS : Sat w16 (rf w0) [] := hS.sel [] (by kernel_rfl)
      exact At.body [.bool false] (by kernel_rfl) ⟨_, rfl, rfl, hS⟩
    · replace H := ite_f H hb24
      refine WC.skip (by kernel_rfl) ?_
      refine At.go ?_
      refine WC.seq (by kernel_rfl) ?_
      refine WC.reg [0, 1, 2, 3, 4, 5, 6] (by kernel_rfl) (by kernel_rfl) ?_
      refine WR.runk [0] [1, 2, 3, 4, 5, 6] [1, 21] (L' := [(1, .pointer (some ⟨b22, 0, none⟩)), (21, .pointer (some ⟨b22, 0, none⟩))]) (w' := w16) (by kernel_rfl) ?_
      obtain ⟨r25, e26, H⟩ := bind_ex H
      refine WR.st (St.call (by kernel_rfl) (f := 16) (args := #[.pointer (some ⟨b22, 0, none⟩), .int .i64 4]) (by kernel_rfl) (text_Text_Doc.calls w16 (.pointer (some ⟨b22, 0, none⟩)) (some y19) (Sat.rdAny 0 hS rfl (fun _ h => O45.rd _ _ _ h)) 4 r25 e26) ?_)
      rintro _ w32 ⟨rfl, hS33⟩
      have hS : Sat w32 (rf w0) [O45 b22 y19, pts b7 (.cells #[.slice (some ⟨b1, 0, none⟩) 2 2, .slice none 0 0, .slice (some ⟨b4, 0, none⟩) 1 1] 24 (0, 0)), pts b4 (.cells #[.int .u8 98] 5 (1, 2)), pts b1 (.cells #[.int .u8 97, .int .u8 98] 5 (2, 3))] := hS.ext hS33
      refine WR.runk [2, 3, 4, 5, 6] [] [1, 3, 4] (L' := [(1, .pointer (some ⟨b22, 0, none⟩)), (3, .int .i64 r25.1), (4, .int .i64 r25.2)]) (w' := w32) (by kernel_rfl) ?_
      refine WR.nil ?_
      refine At.go ?_
      refine WC.seq (by kernel_rfl) ?_
      refine WC.reg [0, 1, 2, 3, 4, 5, 6, 7, 8, 9, 10, 11, 12, 13, 14, 15, 16, 17, 18, 19, 20, 21, 22, 23, 24, 25, 26, 27, 28, 29, 30, 31, 32, 33, 34, 35, 36, 37, 38, 39, 40, 41, 42, 43] (by kernel_rfl) (by kernel_rfl) ?_
      refine WR.runk [0] [1, 2, 3, 4, 5, 6, 7, 8, 9, 10, 11, 12, 13, 14, 15, 16, 17, 18, 19, 20, 21, 22, 23, 24, 25, 26, 27, 28, 29, 30, 31, 32, 33, 34, 35, 36, 37, 38, 39, 40, 41, 42, 43] [1, 3, 4, 25] (L' := [(1, .pointer (some ⟨b22, 0, none⟩)), (3, .int .i64 r25.1), (4, .int .i64 r25.2), (25, .pointer (some ⟨b22, 0, none⟩))]) (w' := w32) (by kernel_rfl) ?_
      obtain ⟨r34, e35, H⟩ := bind_ex H
      refine WR.st (St.call (by kernel_rfl) (f := 15) (args := #[.pointer (some ⟨b22, 0, none⟩)]) (by kernel_rfl) (text_Text_Symbols.calls w32 (.pointer (some ⟨b22, 0, none⟩)) (some y19) (Sat.rdAny 0 hS rfl (fun _ h => O45.rd _ _ _ h)) r34 e35) ?_)
      rintro _ w41 ⟨A43, c44, rfl, hS42⟩
      have hS : Sat w41 (rf w0) [osl 3 (r0 (.int .i64)) 1 A43 c44 r34, O45 b22 y19, pts b7 (.cells #[.slice (some ⟨b1, 0, none⟩) 2 2, .slice none 0 0, .slice (some ⟨b4, 0, none⟩) 1 1] 24 (0, 0)), pts b4 (.cells #[.int .u8 98] 5 (1, 2)), pts b1 (.cells #[.int .u8 97, .int .u8 98] 5 (2, 3))] := hS.ext hS42
      refine WR.runk [] [2, 3, 4, 5, 6, 7, 8, 9, 10, 11, 12, 13, 14, 15, 16, 17, 18, 19, 20, 21, 22, 23, 24, 25, 26, 27, 28, 29, 30, 31, 32, 33, 34, 35, 36, 37, 38, 39, 40, 41, 42, 43] [1, 3, 4, 26] (L' := [(1, .pointer (some ⟨b22, 0, none⟩)), (3, .int .i64 r25.1), (4, .int .i64 r25.2), (26, .slice A43 r34.length c44)]) (w' := w41) (by kernel_rfl) ?_
      refine WR.st (St.box hS (by kernel_rfl) (.cells #[.int .i64 100, .int .i64 101, .int .i64 0, .int .i64 1, .int .i64 101, .int .i64 2] 3) (fun b45 => .slice (some ⟨b45, 0, none⟩) 6 6) (fun _ => by kernel_rfl) (fun b45 w46 hS => ?_))
      refine WR.runk [] [3, 4, 5, 6, 7, 8, 9, 10, 11, 12, 13, 14, 15, 16, 17, 18, 19, 20, 21, 22, 23, 24, 25, 26, 27, 28, 29, 30, 31, 32, 33, 34, 35, 36, 37, 38, 39, 40, 41, 42, 43] [1, 3, 4, 26, 27] (L' := [(1, .pointer (some ⟨b22, 0, none⟩)), (3, .int .i64 r25.1), (4, .int .i64 r25.2), (26, .slice A43 r34.length c44), (27, .slice (some ⟨b45, 0, none⟩) 6 6)]) (w' := w46) (by kernel_rfl) ?_
      obtain ⟨r47, e48, H⟩ := bind_ex H
      refine WR.st (St.call (by kernel_rfl) (f := 14) (args := #[.slice A43 r34.length c44, .slice (some ⟨b45, 0, none⟩) 6 6]) (by kernel_rfl) (colophonref08_Same.calls w46 A43 c44 r34 (Sat.rdAt 1 hS rfl) (some ⟨b45, 0, none⟩) 6 ([100, 101, 0, 1, 101, 2] : List Int) (Sat.ptsAt 0 (r0 (.int .i64)) 1 ([100, 101, 0, 1, 101, 2] : List Int) hS rfl rfl (rdL.cons1 rfl (rdL.cons1 rfl (rdL.cons1 rfl (rdL.cons1 rfl (rdL.cons1 rfl (rdL.cons1 rfl (rdL.nil _ _)))))))) r47 e48) ?_)
      rintro _ w54 ⟨rfl, hS55⟩
      have hS : Sat w54 (rf w0) [pts b45 (.cells #[.int .i64 100, .int .i64 101, .int .i64 0, .int .i64 1, .int .i64 101, .int .i64 2] 3 (0, 0)), osl 3 (r0 (.int .i64)) 1 A43 c44 r34, O45 b22 y19, pts b7 (.cells #[.slice (some ⟨b1, 0, none⟩) 2 2, .slice none 0 0, .slice (some ⟨b4, 0, none⟩) 1 1] 24 (0, 0)), pts b4 (.cells #[.int .u8 98] 5 (1, 2)), pts b1 (.cells #[.int .u8 97, .int .u8 98] 5 (2, 3))] := hS.ext hS55
      refine WR.runk [4] [5, 6, 7, 8, 9, 10, 11, 12, 13, 14, 15, 16, 17, 18, 19, 20, 21, 22, 23, 24, 25, 26, 27, 28, 29, 30, 31, 32, 33, 34, 35, 36, 37, 38, 39, 40, 41, 42, 43] [1, 3, 4, 29] (L' := [(1, .pointer (some ⟨b22, 0, none⟩)), (3, .int .i64 r25.1), (4, .int .i64 r25.2), (29, .bool r47)]) (w' := w54) (by kernel_rfl) ?_
      refine WR.split 29 (b := r47) (by kernel_rfl) (fun hb56 => ?_) (fun hb56 => ?_)
      · replace H := ite_t H hb56
        refine WR.runk [5] [6, 7, 8, 9, 10, 11, 12, 13, 14, 15, 16, 17, 18, 19, 20, 21, 22, 23, 24, 25, 26, 27, 28, 29, 30, 31, 32, 33, 34, 35, 36, 37, 38, 39, 40, 41, 42, 43] [1, 3, 4, 29, 30] (L' := [(1, .pointer (some ⟨b22, 0, none⟩)), (3, .int .i64 r25.1), (4, .int .i64 r25.2), (29, .bool true), (30, .pointer (some ⟨b22, 0, none⟩))]) (w' := w54) (by kernel_rfl) ?_
        obtain ⟨r57, e58, H⟩ := bind_ex H
        refine WR.st (St.call (by kernel_rfl) (f := 12) (args := #[.pointer (some ⟨b22, 0, none⟩)]) (by kernel_rfl) (text_Text_Len.calls w54 (.pointer (some ⟨b22, 0, none⟩)) (some y19) (Sat.rdAny 2 hS rfl (fun _ h => O45.rd _ _ _ h)) r57 e58) ?_)
        rintro _ w64 ⟨rfl, hS65⟩
        have hS : Sat w64 (rf w0) [pts b45 (.cells #[.int .i64 100, .int .i64 101, .int .i64 0, .int .i64 1, .int .i64 101, .int .i64 2] 3 (0, 0)), osl 3 (r0 (.int .i64)) 1 A43 c44 r34, O45 b22 y19, pts b7 (.cells #[.slice (some ⟨b1, 0, none⟩) 2 2, .slice none 0 0, .slice (some ⟨b4, 0, none⟩) 1 1] 24 (0, 0)), pts b4 (.cells #[.int .u8 98] 5 (1, 2)), pts b1 (.cells #[.int .u8 97, .int .u8 98] 5 (2, 3))] := hS.ext hS65
        refine WR.runk [7, 8, 9] [10, 11, 12, 13, 14, 15, 16, 17, 18, 19, 20, 21, 22, 23, 24, 25, 26, 27, 28, 29, 30, 31, 32, 33, 34, 35, 36, 37, 38, 39, 40, 41, 42, 43] [1, 3, 4, 34] (L' := [(1, .pointer (some ⟨b22, 0, none⟩)), (3, .int .i64 r25.1), (4, .int .i64 r25.2), (34, .bool (r57 == 6))]) (w' := w64) (by kernel_rfl) ?_
        refine WR.split 34 (b := (r57 == 6)) (by kernel_rfl) (fun hb66 => ?_) (fun hb66 => ?_)
        · replace H := ite_t H hb66
          refine WR.runk [10] [11, 12, 13, 14, 15, 16, 17, 18, 19, 20, 21, 22, 23, 24, 25, 26, 27, 28, 29, 30, 31, 32, 33, 34, 35, 36, 37, 38, 39, 40, 41, 42, 43] [1, 3, 4, 34, 35] (L' := [(1, .pointer (some ⟨b22, 0, none⟩)), (3, .int .i64 r25.1), (4, .int .i64 r25.2), (34, .bool true), (35, .pointer (some ⟨b22, 0, none⟩))]) (w' := w64) (by kernel_rfl) ?_
          obtain ⟨r67, e68, H⟩ := bind_ex H
          refine WR.st (St.call (by kernel_rfl) (f := 11) (args := #[.pointer (some ⟨b22, 0, none⟩)]) (by kernel_rfl) (text_Text_Docs.calls w64 (.pointer (some ⟨b22, 0, none⟩)) (some y19) (Sat.rdAny 2 hS rfl (fun _ h => O45.rd _ _ _ h)) r67 e68) ?_)
          rintro _ w74 ⟨rfl, hS75⟩
          have hS : Sat w74 (rf w0) [pts b45 (.cells #[.int .i64 100, .int .i64 101, .int .i64 0, .int .i64 1, .int .i64 101, .int .i64 2] 3 (0, 0)), osl 3 (r0 (.int .i64)) 1 A43 c44 r34, O45 b22 y19, pts b7 (.cells #[.slice (some ⟨b1, 0, none⟩) 2 2, .slice none 0 0, .slice (some ⟨b4, 0, none⟩) 1 1] 24 (0, 0)), pts b4 (.cells #[.int .u8 98] 5 (1, 2)), pts b1 (.cells #[.int .u8 97, .int .u8 98] 5 (2, 3))] := hS.ext hS75
          refine WR.runk [12, 13, 14] [15, 16, 17, 18, 19, 20, 21, 22, 23, 24, 25, 26, 27, 28, 29, 30, 31, 32, 33, 34, 35, 36, 37, 38, 39, 40, 41, 42, 43] [1, 3, 4, 39] (L' := [(1, .pointer (some ⟨b22, 0, none⟩)), (3, .int .i64 r25.1), (4, .int .i64 r25.2), (39, .bool (r67 == 3))]) (w' := w74) (by kernel_rfl) ?_
          refine WR.split 39 (b := (r67 == 3)) (by kernel_rfl) (fun hb76 => ?_) (fun hb76 => ?_)
          · replace H := ite_t H hb76
            refine WR.runk [15] [16, 17, 18, 19, 20, 21, 22, 23, 24, 25, 26, 27, 28, 29, 30, 31, 32, 33, 34, 35, 36, 37, 38, 39, 40, 41, 42, 43] [1, 3, 4, 39, 40] (L' := [(1, .pointer (some ⟨b22, 0, none⟩)), (3, .int .i64 r25.1), (4, .int .i64 r25.2), (39, .bool true), (40, .pointer (some ⟨b22, 0, none⟩))]) (w' := w74) (by kernel_rfl) ?_
            obtain ⟨r77, e78, H⟩ := bind_ex H
            refine WR.st (St.call (by kernel_rfl) (f := 13) (args := #[.pointer (some ⟨b22, 0, none⟩)]) (by kernel_rfl) (text_Text_Alphabet.calls w74 (.pointer (some ⟨b22, 0, none⟩)) (some y19) (Sat.rdAny 2 hS rfl (fun _ h => O45.rd _ _ _ h)) r77 e78) ?_)
            rintro _ w84 ⟨rfl, hS85⟩
            have hS : Sat w84 (rf w0) [pts b45 (.cells #[.int .i64 100, .int .i64 101, .int .i64 0, .int .i64 1, .int .i64 101, .int .i64 2] 3 (0, 0)), osl 3 (r0 (.int .i64)) 1 A43 c44 r34, O45 b22 y19, pts b7 (.cells #[.slice (some ⟨b1, 0, none⟩) 2 2, .slice none 0 0, .slice (some ⟨b4, 0, none⟩) 1 1] 24 (0, 0)), pts b4 (.cells #[.int .u8 98] 5 (1, 2)), pts b1 (.cells #[.int .u8 97, .int .u8 98] 5 (2, 3))] := hS.ext hS85
            refine WR.runk [17, 18, 19] [20, 21, 22, 23, 24, 25, 26, 27, 28, 29, 30, 31, 32, 33, 34, 35, 36, 37, 38, 39, 40, 41, 42, 43] [1, 3, 4, 44] (L' := [(1, .pointer (some ⟨b22, 0, none⟩)), (3, .int .i64 r25.1), (4, .int .i64 r25.2), (44, .bool (r77 == 259))]) (w' := w84) (by kernel_rfl) ?_
            refine WR.split 44 (b := (r77 == 259)) (by kernel_rfl) (fun hb86 => ?_) (fun hb86 => ?_)
            · replace H := ite_t H hb86
              refine WR.runk [20, 21, 22, 23] [24, 25, 26, 27, 28, 29, 30, 31, 32, 33, 34, 35, 36, 37, 38, 39, 40, 41, 42, 43] [1, 4, 48] (L' := [(1, .pointer (some ⟨b22, 0, none⟩)), (4, .int .i64 r25.2), (48, .bool (r25.1 == 2))]) (w' := w84) (by kernel_rfl) ?_
              refine WR.split 48 (b := (r25.1 == 2)) (by kernel_rfl) (fun hb87 => ?_) (fun hb87 => ?_)
              · replace H := ite_t H hb87
                refine WR.runk [24, 25, 26, 27] [28, 29, 30, 31, 32, 33, 34, 35, 36, 37, 38, 39, 40, 41, 42, 43] [1, 52] (L' := [(1, .pointer (some ⟨b22, 0, none⟩)), (52, .bool (r25.2 == 0))]) (w' := w84) (by kernel_rfl) ?_
                refine WR.split 52 (b := (r25.2 == 0)) (by kernel_rfl) (fun hb88 => ?_) (fun hb88 => ?_)
                · replace H := ite_t H hb88
                  refine WR.runk [28] [29, 30, 31, 32, 33, 34, 35, 36, 37, 38, 39, 40, 41, 42, 43] [1, 52, 53] (L' := [(1, .pointer (some ⟨b22, 0, none⟩)), (52, .bool true), (53, .pointer (some ⟨b22, 0, none⟩))]) (w' := w84) (by kernel_rfl) ?_
                  obtain ⟨r89, e90, H⟩ := bind_ex H
                  refine WR.st (St.call (by kernel_rfl) (f := 18) (args := #[.pointer (some ⟨b22, 0, none⟩), .int .i64 2]) (by kernel_rfl) (text_Text_Start.calls w84 (.pointer (some ⟨b22, 0, none⟩)) (some y19) (Sat.rdAny 2 hS rfl (fun _ h => O45.rd _ _ _ h)) 2 r89 e90) ?_)
                  rintro _ w96 ⟨rfl, hS97⟩
                  have hS : Sat w96 (rf w0) [pts b45 (.cells #[.int .i64 100, .int .i64 101, .int .i64 0, .int .i64 1, .int .i64 101, .int .i64 2] 3 (0, 0)), osl 3 (r0 (.int .i64)) 1 A43 c44 r34, O45 b22 y19, pts b7 (.cells #[.slice (some ⟨b1, 0, none⟩) 2 2, .slice none 0 0, .slice (some ⟨b4, 0, none⟩) 1 1] 24 (0, 0)), pts b4 (.cells #[.int .u8 98] 5 (1, 2)), pts b1 (.cells #[.int .u8 97, .int .u8 98] 5 (2, 3))] := hS.ext hS97
                  refine WR.runk [30, 31, 32] [33, 34, 35, 36, 37, 38, 39, 40, 41, 42, 43] [1, 57] (L' := [(1, .pointer (some ⟨b22, 0, none⟩)), (57, .bool (r89 == 4))]) (w' := w96) (by kernel_rfl) ?_
                  refine WR.split 57 (b := (r89 == 4)) (by kernel_rfl) (fun hb98 => ?_) (fun hb98 => ?_)
                  · replace H := ite_t H hb98
                    refine WR.runk [33] [34, 35, 36, 37, 38, 39, 40, 41, 42, 43] [1, 57, 58] (L' := [(1, .pointer (some ⟨b22, 0, none⟩)), (57, .bool true), (58, .pointer (some ⟨b22, 0, none⟩))]) (w' := w96) (by kernel_rfl) ?_
                    obtain ⟨r99, e100, H⟩ := bind_ex H
                    refine WR.st (St.call (by kernel_rfl) (f := 18) (args := #[.pointer (some ⟨b22, 0, none⟩), .int .i64 3]) (by kernel_rfl) (text_Text_Start.calls w96 (.pointer (some ⟨b22, 0, none⟩)) (some y19) (Sat.rdAny 2 hS rfl (fun _ h => O45.rd _ _ _ h)) 3 r99 e100) ?_)
                    rintro _ w106 ⟨rfl, hS107⟩
                    have hS : Sat w106 (rf w0) [pts b45 (.cells #[.int .i64 100, .int .i64 101, .int .i64 0, .int .i64 1, .int .i64 101, .int .i64 2] 3 (0, 0)), osl 3 (r0 (.int .i64)) 1 A43 c44 r34, O45 b22 y19, pts b7 (.cells #[.slice (some ⟨b1, 0, none⟩) 2 2, .slice none 0 0, .slice (some ⟨b4, 0, none⟩) 1 1] 24 (0, 0)), pts b4 (.cells #[.int .u8 98] 5 (1, 2)), pts b1 (.cells #[.int .u8 97, .int .u8 98] 5 (2, 3))] := hS.ext hS107
                    refine WR.runk [35, 36, 37] [38, 39, 40, 41, 42, 43] [1, 62] (L' := [(1, .pointer (some ⟨b22, 0, none⟩)), (62, .bool (r99 == 6))]) (w' := w106) (by kernel_rfl) ?_
                    refine WR.split 62 (b := (r99 == 6)) (by kernel_rfl) (fun hb108 => ?_) (fun hb108 => ?_)
                    · replace H := ite_t H hb108
                      refine WR.runk [38] [39, 40, 41, 42, 43] [62, 63] (L' := [(62, .bool true), (63, .pointer (some ⟨b22, 0, none⟩))]) (w' := w106) (by kernel_rfl) ?_
                      obtain ⟨r109, e110, H⟩ := bind_ex H
                      refine WR.st (St.call (by kernel_rfl) (f := 19) (args := #[.pointer (some ⟨b22, 0, none⟩), .int .i64 0]) (by kernel_rfl) (text_Text_Bytes.calls w106 (.pointer (some ⟨b22, 0, none⟩)) (some y19) (Sat.rdAny 2 hS rfl (fun _ h => O45.rd _ _ _ h)) 0 r109 e110) ?_)
                      rintro _ w116 ⟨A118, c119, rfl, hS117⟩
                      have hS : Sat w116 (rf w0) [osl 5 (r0 (.int .u8)) 1 A118 c119 r109, pts b45 (.cells #[.int .i64 100, .int .i64 101, .int .i64 0, .int .i64 1, .int .i64 101, .int .i64 2] 3 (0, 0)), osl 3 (r0 (.int .i64)) 1 A43 c44 r34, O45 b22 y19, pts b7 (.cells #[.slice (some ⟨b1, 0, none⟩) 2 2, .slice none 0 0, .slice (some ⟨b4, 0, none⟩) 1 1] 24 (0, 0)), pts b4 (.cells #[.int .u8 98] 5 (1, 2)), pts b1 (.cells #[.int .u8 97, .int .u8 98] 5 (2, 3))] := hS.ext hS117
                      refine WR.runk [] [40, 41, 42, 43] [62, 64] (L' := [(62, .bool true), (64, .slice A118 r109.length c119)]) (w' := w116) (by kernel_rfl) ?_
                      refine WR.st (St.ofR (RSt.toStr (src := 24) (dst := 9) (e := 5) (.tmp 64) (by kernel_rfl) (by kernel_rfl) (by kernel_rfl) (by kernel_rfl) (by kernel_rfl) (by kernel_rfl) (Sat.rdAt 0 hS rfl) ?_))
                      refine WR.runk [41, 42, 43] [] [0] (L' := [(0, .bool ((bs r109).toList == (⟨#[97, 98]⟩ : ByteArray).toList))]) (w' := w116) (by kernel_rfl) ?_
                      refine WR.nil ?_
                      refine At.go ?_
                      refine WC.ret (by kernel_rfl) ?_
                      obtain rfl := Option.some.inj H
                      have hS : Sat w116 (rf w0) [] := hS.sel [] (by kernel_rfl)
                      exact At.body [.bool ((bs r109).toList == (⟨#[97, 98]⟩ : ByteArray).toList)] (by kernel_rfl) ⟨_, rfl, rfl, hS⟩
                    · replace H := ite_f H hb108
                      refine WR.runk [38, 39, 40, 41, 42, 43] [] [0] (L' := [(0, .bool false)]) (w' := w106) (by kernel_rfl) ?_
                      refine WR.nil ?_
                      refine At.go ?_
                      refine WC.ret (by kernel_rfl) ?_
                      obtain rfl := Option.some.inj H
                      have hS : Sat w106 (rf w0) [] := hS.sel [] (by kernel_rfl)
                      exact At.body [.bool false] (by kernel_rfl) ⟨_, rfl, rfl, hS⟩
                  · replace H := ite_f H hb98
                    refine WR.runk [33, 34, 35, 36, 37, 38, 39, 40, 41, 42, 43] [] [0] (L' := [(0, .bool false)]) (w' := w96) (by kernel_rfl) ?_
                    refine WR.nil ?_
                    refine At.go ?_
                    refine WC.ret (by kernel_rfl) ?_
                    obtain rfl := Option.some.inj H
                    have hS : Sat w96 (rf w0) [] := hS.sel [] (by kernel_rfl)
                    exact At.body [.bool false] (by kernel_rfl) ⟨_, rfl, rfl, hS⟩
                · replace H := ite_f H hb88
                  refine WR.runk [28, 29, 30, 31, 32, 33, 34, 35, 36, 37, 38, 39, 40, 41, 42, 43] [] [0] (L' := [(0, .bool false)]) (w' := w84) (by kernel_rfl) ?_
                  refine WR.nil ?_
                  refine At.go ?_
                  refine WC.ret (by kernel_rfl) ?_
                  obtain rfl := Option.some.inj H
                  have hS : Sat w84 (rf w0) [] := hS.sel [] (by kernel_rfl)
                  exact At.body [.bool false] (by kernel_rfl) ⟨_, rfl, rfl, hS⟩
              · replace H := ite_f H hb87
                refine WR.runk [24, 25, 26, 27, 28, 29, 30, 31, 32, 33, 34, 35, 36, 37, 38, 39, 40, 41, 42, 43] [] [0] (L' := [(0, .bool false)]) (w' := w84) (by kernel_rfl) ?_
                refine WR.nil ?_
                refine At.go ?_
                refine WC.ret (by kernel_rfl) ?_
                obtain rfl := Option.some.inj H
                have hS : Sat w84 (rf w0) [] := hS.sel [] (by kernel_rfl)
                exact At.body [.bool false] (by kernel_rfl) ⟨_, rfl, rfl, hS⟩
            · replace H := ite_f H hb86
              refine WR.runk [20, 21, 22, 23, 24, 25, 26, 27, 28, 29, 30, 31, 32, 33, 34, 35, 36, 37, 38, 39, 40, 41, 42, 43] [] [0] (L' := [(0, .bool false)]) (w' := w84) (by kernel_rfl) ?_
              refine WR.nil ?_
              refine At.go ?_
              refine WC.ret (by kernel_rfl) ?_
              obtain rfl := Option.some.inj H
              have hS : Sat w84 (rf w0) [] := hS.sel [] (by kernel_rfl)
              exact At.body [.bool false] (by kernel_rfl) ⟨_, rfl, rfl, hS⟩
          · replace H := ite_f H hb76
            refine WR.runk [15, 16, 17, 18, 19, 20, 21, 22, 23, 24, 25, 26, 27, 28, 29, 30, 31, 32, 33, 34, 35, 36, 37, 38, 39, 40, 41, 42, 43] [] [0] (L' := [(0, .bool false)]) (w' := w74) (by kernel_rfl) ?_
            refine WR.nil ?_
            refine At.go ?_
            refine WC.ret (by kernel_rfl) ?_
            obtain rfl := Option.some.inj H
            have hS : Sat w74 (rf w0) [] := hS.sel [] (by kernel_rfl)
            exact At.body [.bool false] (by kernel_rfl) ⟨_, rfl, rfl, hS⟩
        · replace H := ite_f H hb66
          refine WR.runk [10, 11, 12, 13, 14, 15, 16, 17, 18, 19, 20, 21, 22, 23, 24, 25, 26, 27, 28, 29, 30, 31, 32, 33, 34, 35, 36, 37, 38, 39, 40, 41, 42, 43] [] [0] (L' := [(0, .bool false)]) (w' := w64) (by kernel_rfl) ?_
          refine WR.nil ?_
          refine At.go ?_
          refine WC.ret (by kernel_rfl) ?_
          obtain rfl := Option.some.inj H
          have hS : Sat w64 (rf w0) [] := hS.sel [] (by kernel_rfl)
          exact At.body [.bool false] (by kernel_rfl) ⟨_, rfl, rfl, hS⟩
      · replace H := ite_f H hb56
        refine WR.runk [5, 6, 7, 8, 9, 10, 11, 12, 13, 14, 15, 16, 17, 18, 19, 20, 21, 22, 23, 24, 25, 26, 27, 28, 29, 30, 31, 32, 33, 34, 35, 36, 37, 38, 39, 40, 41, 42, 43] [] [0] (L' := [(0, .bool false)]) (w' := w54) (by kernel_rfl) ?_
        refine WR.nil ?_
        refine At.go ?_
        refine WC.ret (by kernel_rfl) ?_
        obtain rfl := Option.some.inj H
        have hS : Sat w54 (rf w0) [] := hS.sel [] (by kernel_rfl)
        exact At.body [.bool false] (by kernel_rfl) ⟨_, rfl, rfl, hS⟩
/-! ### 9 colophon/colophonref08.Right -/
def colophonref08_Right.l1 (l0 : List (List Int)) : Nat → Int → Int → Option (Sum Bool Unit)
  | 0, _, _ => none
  | k + 1, x3_l1, x11_l1 => (if decide (x11_l1 < (l0.length : Int)) then ((at? l0 x11_l1).bind fun v3 => (if decide ((v3.length : Int) > x3_l1) then some (.inl false) else colophonref08_Right.l1 l0 k (wi (x3_l1 - (v3.length : Int))) (wi (x11_l1 + 1)))) else some (.inr ()))
def colophonref08_Right.f (l0 : List (List Int)) : Option Bool := (if decide ((l0.length : Int) > 256) then some false else ((colophonref08_Right.l1 l0 FU 65536 0).bind fun o9 => (match o9 with | .inl o11 => some o11 | .inr o15 => some true)))
def colophonref08_Right.post (w : World) (r : Bool) (v : Value) (w' : World) : Prop := v = (.bool r : Value) ∧ Sat w' (rf w) []
theorem colophonref08_Right.l1_ok {Q} (w0 : World) (A0 : Option Addr) (c0 : Nat) (l0 : List (List Int)) (R0 : rdS (rd (hp w0) (.slice 5 (.int .u8))) 1 (hp w0) A0 c0 l0) (out : Sum Bool Unit) (hn0 : ∀ (o0 : Bool) (w : World), out = (.inl o0) → Sat w (rf w0) [] → At Q .ret 24 [(2, .bool o0)] w) (hn1 : ∀ (o1 : Unit) (w : World), out = (.inr o1) → Sat w (rf w0) [] → At Q (.exit 0) 24 [] w) :
    ∀ (k : Nat) (x3_l1 : Int) (x11_l1 : Int) (w : World), Sat w (rf w0) [] → colophonref08_Right.l1 l0 k x3_l1 x11_l1 = some out → WL Try.prog (cbody (cbody (cr (cl (cr (cr (cr C9))))))) Q 24 [(3, .int .i64 x3_l1), (9, .slice A0 l0.length c0), (10, .int .i64 (l0.length : Int)), (11, .int .i64 x11_l1)] w := by
  intro k
  induction k with
  | zero => intro x3_l1 x11_l1 w hS H; exact absurd (show none = some out from H) (by simp)
  | succ k ih =>
    intro x3_l1 x11_l1 w hS H
    unfold colophonref08_Right.l1 at H
    refine WL.round ?_
    refine WC.seq (by kernel_rfl) ?_
    refine WC.reg [0] (by kernel_rfl) (by kernel_rfl) ?_
    refine WR.runk [0] [] [3, 9, 10, 11, 12] (L' := [(3, .int .i64 x3_l1), (9, .slice A0 l0.length c0), (10, .int .i64 (l0.length : Int)), (11, .int .i64 x11_l1), (12, .bool (decide (x11_l1 < (l0.length : Int))))]) (w' := w) (by kernel_rfl) ?_
    refine WR.nil ?_
    refine At.go ?_
    refine WC.seq (by kernel_rfl) ?_
    refine WC.cond (by kernel_rfl) (decide (x11_l1 < (l0.length : Int))) (by kernel_rfl) (by kernel_rfl) (fun hb2 => ?_) (fun hb2 => ?_)
    · replace H := ite_t H hb2
      refine WC.skip (by kernel_rfl) ?_
      refine At.go ?_
      refine WC.seq (by kernel_rfl) ?_
      refine WC.block (by kernel_rfl) ?_
      refine WC.seq (by kernel_rfl) ?_
      refine WC.reg [0, 1, 2] (by kernel_rfl) (by kernel_rfl) ?_
      refine WR.runk [] [0, 1, 2] [3, 9, 10, 11] (L' := [(3, .int .i64 x3_l1), (9, .slice A0 l0.length c0), (10, .int .i64 (l0.length : Int)), (11, .int .i64 x11_l1)]) (w' := w) (by kernel_rfl) ?_
      obtain ⟨v3, e4, H⟩ := bind_ex H
      refine WR.st (St.ofP (PSt.idx (k := .i64) (.tmp 9) (.tmp 11) (by kernel_rfl) (by kernel_rfl) E22 (by kernel_rfl) (by kernel_rfl) (rdS.up R0 hS.sub0) e4 ?_))
      refine WR.runk [] [1, 2] [3, 9, 10, 11, 13] (L' := [(3, .int .i64 x3_l1), (9, .slice A0 l0.length c0), (10, .int .i64 (l0.length : Int)), (11, .int .i64 x11_l1), (13, .pointer (some (adr A0 x11_l1.toNat 1)))]) (w' := w) (by kernel_rfl) ?_
      refine WR.st (St.ofR (RSt.loadSl (t := 24) (.tmp 13) (by kernel_rfl) (by kernel_rfl) (by kernel_rfl) (by kernel_rfl) R0 e4 hS.sub0 (fun A5 c6 R7 => ?_)))
      replace R7 : rdS (r0 (.int .u8)) 1 (hp w0) A5 c6 v3 := R7
      refine WR.runk [2] [] [3, 5, 9, 10, 11] (L' := [(3, .int .i64 x3_l1), (5, .slice A5 v3.length c6), (9, .slice A0 l0.length c0), (10, .int .i64 (l0.length : Int)), (11, .int .i64 x11_l1)]) (w' := w) (by kernel_rfl) ?_
      refine WR.nil ?_
      refine At.go ?_
      refine WC.seq (by kernel_rfl) ?_
      refine WC.seq (by kernel_rfl) ?_
      refine WC.reg [0, 1, 2, 3] (by kernel_rfl) (by kernel_rfl) ?_
      refine WR.runk [0, 1, 2, 3] [] [3, 5, 9, 10, 11, 18] (L' := [(3, .int .i64 x3_l1), (5, .slice A5 v3.length c6), (9, .slice A0 l0.length c0), (10, .int .i64 (l0.length : Int)), (11, .int .i64 x11_l1), (18, .bool (decide ((v3.length : Int) > x3_l1)))]) (w' := w) (by kernel_rfl) ?_
      refine WR.nil ?_
      refine At.go ?_
      refine WC.cond (by kernel_rfl) (decide ((v3.length : Int) > x3_l1)) (by kernel_rfl) (by kernel_rfl) (fun hb8 => ?_) (fun hb8 => ?_)
      · replace H := ite_t H hb8
        refine WC.seq (by kernel_rfl) ?_
        refine WC.reg [0] (by kernel_rfl) (by kernel_rfl) ?_
        refine WR.runk [0] [] [2] (L' := [(2, .bool false)]) (w' := w) (by kernel_rfl) ?_
        refine WR.nil ?_
        refine At.go ?_
        refine WC.ret (by kernel_rfl) ?_
        refine At.thenRet ?_
        refine At.blockRet ?_
        refine At.thenRet ?_
        refine At.thenRet ?_
        obtain rfl := Option.some.inj H
        have hS : Sat w (rf w0) [] := hS.sel [] (by kernel_rfl)
        refine At.weaken [2] (L' := [(2, .bool false)]) (by kernel_rfl) ?_
        exact hn0 false _ rfl hS
      · replace H := ite_f H hb8
        refine WC.skip (by kernel_rfl) ?_
        refine At.go ?_
        refine WC.reg [0, 1, 2, 3, 4] (by kernel_rfl) (by kernel_rfl) ?_
        refine WR.runk [0, 1, 2, 3, 4] [] [3, 9, 10, 11] (L' := [(3, .int .i64 (wi (x3_l1 - (v3.length : Int)))), (9, .slice A0 l0.length c0), (10, .int .i64 (l0.length : Int)), (11, .int .i64 x11_l1)]) (w' := w) (by kernel_rfl) ?_
        refine WR.nil ?_
        refine At.blockNormal ?_
        refine At.go ?_
        refine WC.reg [0, 1] (by kernel_rfl) (by kernel_rfl) ?_
        refine WR.runk [0, 1] [] [3, 9, 10, 11] (L' := [(3, .int .i64 (wi (x3_l1 - (v3.length : Int)))), (9, .slice A0 l0.length c0), (10, .int .i64 (l0.length : Int)), (11, .int .i64 (wi (x11_l1 + 1)))]) (w' := w) (by kernel_rfl) ?_
        refine WR.nil ?_
        have hS : Sat w (rf w0) [] := hS.sel [] (by kernel_rfl)
        refine At.again ?_
        refine WL.weaken [3, 9, 10, 11] (L' := [(3, .int .i64 (wi (x3_l1 - (v3.length : Int)))), (9, .slice A0 l0.length c0), (10, .int .i64 (l0.length : Int)), (11, .int .i64 (wi (x11_l1 + 1)))]) (by kernel_rfl) ?_
        exact ih (wi (x3_l1 - (v3.length : Int))) (wi (x11_l1 + 1)) _ hS H
    · replace H := ite_f H hb2
      refine WC.exit (by kernel_rfl) ?_
      refine At.thenExit ?_
      refine At.thenExit ?_
      obtain rfl := Option.some.inj H
      have hS : Sat w (rf w0) [] := hS.sel [] (by kernel_rfl)
      refine At.weaken [] (L' := []) (by kernel_rfl) ?_
      exact hn1 () _ rfl hS
theorem colophonref08_Right.calls (w0 : World) (A0 : Option Addr) (c0 : Nat) (l0 : List (List Int)) (R0 : rdS (rd (hp w0) (.slice 5 (.int .u8))) 1 (hp w0) A0 c0 l0) (r : Bool) (H : colophonref08_Right.f l0 = some r) :
    Calls Try.prog 9 #[.slice A0 l0.length c0] w0 (fun e w' => ∃ v, e = .returned v ∧ colophonref08_Right.post w0 r v w') := by
  have hS : Sat w0 (rf w0) [] := Sat.start w0
  unfold colophonref08_Right.f at H
  refine calls_of_WC (vs := [.slice A0 l0.length c0]) Try.func9 (c := C9) (n := 24) (by kernel_rfl) (by kernel_rfl) (by kernel_rfl) ?_
  refine WC.seq (by kernel_rfl) ?_
  refine WC.reg [0] (by kernel_rfl) (by kernel_rfl) ?_
  refine WR.runk [0] [] [0] (L' := [(0, .slice A0 l0.length c0)]) (w' := w0) (by kernel_rfl) ?_
  refine WR.nil ?_
  refine At.go ?_
  refine WC.seq (by kernel_rfl) ?_
  refine WC.seq (by kernel_rfl) ?_
  refine WC.reg [0, 1, 2] (by kernel_rfl) (by kernel_rfl) ?_
  refine WR.runk [0, 1, 2] [] [0, 8] (L' := [(0, .slice A0 l0.length c0), (8, .bool (decide ((l0.length : Int) > 256)))]) (w' := w0) (by kernel_rfl) ?_
  refine WR.nil ?_
  refine At.go ?_
  refine WC.cond (by kernel_rfl) (decide ((l0.length : Int) > 256)) (by kernel_rfl) (by kernel_rfl) (fun hb1 => ?_) (fun hb1 => ?_)
  · replace H := ite_t H hb1
    refine WC.seq (by kernel_rfl) ?_
    refine WC.reg [0] (by kernel_rfl) (by kernel_rfl) ?_
    refine WR.runk [0] [] [2] (L' := [(2, .bool false)]) (w' := w0) (by kernel_rfl) ?_
    refine WR.nil ?_
    refine At.go ?_
    refine WC.ret (by kernel_rfl) ?_
    refine At.thenRet ?_
    obtain rfl := Option.some.inj H
    have hS : Sat w0 (rf w0) [] := hS.sel [] (by kernel_rfl)
    exact At.body [.bool false] (by kernel_rfl) ⟨_, rfl, rfl, hS⟩
  · replace H := ite_f H hb1
    refine WC.skip (by kernel_rfl) ?_
    refine At.go ?_
    refine WC.seq (by kernel_rfl) ?_
    refine WC.reg [0] (by kernel_rfl) (by kernel_rfl) ?_
    refine WR.runk [0] [] [0, 3] (L' := [(0, .slice A0 l0.length c0), (3, .int .i64 65536)]) (w' := w0) (by kernel_rfl) ?_
    refine WR.nil ?_
    refine At.go ?_
    refine WC.seq (by kernel_rfl) ?_
    refine WC.seq (by kernel_rfl) ?_
    refine WC.reg [0, 1, 2] (by kernel_rfl) (by kernel_rfl) ?_
    refine WR.runk [0, 1, 2] [] [3, 9, 10, 11] (L' := [(3, .int .i64 65536), (9, .slice A0 l0.length c0), (10, .int .i64 (l0.length : Int)), (11, .int .i64 0)]) (w' := w0) (by kernel_rfl) ?_
    refine WR.nil ?_
    refine At.go ?_
    refine WC.block (by kernel_rfl) ?_
    have hS : Sat w0 (rf w0) [] := hS.sel [] (by kernel_rfl)
    obtain ⟨o9, e10, H⟩ := bind_ex H
    refine WC.loop (by kernel_rfl) ?_
    refine WL.weaken [3, 9, 10, 11] (L' := [(3, .int .i64 65536), (9, .slice A0 l0.length c0), (10, .int .i64 (l0.length : Int)), (11, .int .i64 0)]) (by kernel_rfl) ?_
    refine colophonref08_Right.l1_ok w0 A0 c0 l0 R0 o9 (fun o11 w13 ho14 hS => ?_) (fun o15 w17 ho18 hS => ?_) FU 65536 0 _ hS e10
    · subst ho14
      dsimp only at H
      refine At.blockRet ?_
      refine At.thenRet ?_
      obtain rfl := Option.some.inj H
      have hS : Sat w13 (rf w0) [] := hS.sel [] (by kernel_rfl)
      exact At.body [.bool o11] (by kernel_rfl) ⟨_, rfl, rfl, hS⟩
    · subst ho18
      dsimp only at H
      refine At.hit ?_
      refine At.go ?_
      refine WC.seq (by kernel_rfl) ?_
      refine WC.reg [0] (by kernel_rfl) (by kernel_rfl) ?_
      refine WR.runk [0] [] [2] (L' := [(2, .bool true)]) (w' := w17) (by kernel_rfl) ?_
      refine WR.nil ?_
      refine At.go ?_
      refine WC.ret (by kernel_rfl) ?_
      obtain rfl := Option.some.inj H
      have hS : Sat w17 (rf w0) [] := hS.sel [] (by kernel_rfl)
      exact At.body [.bool true] (by kernel_rfl) ⟨_, rfl, rfl, hS⟩
/-! ### 10 colophon/colophonref08.Symbols -/
def colophonref08_Symbols.l2 (l0 : List (List Int)) (v2 : List Int) : Nat → (List Int) → Int → Option (List Int)
  | 0, _, _ => none
  | k + 1, x3_l2, x17_l2 => (if decide (x17_l2 < (v2.length : Int)) then ((at? v2 x17_l2).bind fun v8 => ((app? 17592186044416 x3_l2 ([wi ((wi v8) + (l0.length : Int))] : List Int)).bind fun y13 => colophonref08_Symbols.l2 l0 v2 k y13 (wi (x17_l2 + 1)))) else some x3_l2)
def colophonref08_Symbols.l1 (l0 : List (List Int)) : Nat → (List Int) → Int → Option (List Int)
  | 0, _, _ => none
  | k + 1, x3_l1, x10_l1 => (if decide (x10_l1 < (l0.length : Int)) then ((at? l0 x10_l1).bind fun v2 => ((colophonref08_Symbols.l2 l0 v2 FU x3_l1 0).bind fun o17 => ((app? 17592186044416 o17 ([x10_l1] : List Int)).bind fun y25 => colophonref08_Symbols.l1 l0 k y25 (wi (x10_l1 + 1))))) else some x3_l1)
def colophonref08_Symbols.f (l0 : List (List Int)) : Option (List Int) := ((colophonref08_Symbols.l1 l0 FU ([] : List Int) 0).bind fun o29 => some o29)
def colophonref08_Symbols.post (w : World) (r : (List Int)) (v : Value) (w' : World) : Prop := ∃ (A0' : Option Addr) (c0' : Nat), v = (.slice A0' r.length c0' : Value) ∧ Sat w' (rf w) [osl 3 (r0 (.int .i64)) 1 A0' c0' r]
theorem colophonref08_Symbols.l2_ok {Q} (w0 : World) (A0 : Option Addr) (c0 : Nat) (l0 : List (List Int)) (x10_l1 : Int) (v2 : List Int) (A4 : Option Addr) (c5 : Nat) (R6 : rdS (r0 (.int .u8)) 1 (hp w0) A4 c5 v2) (out : (List Int)) (hn0 : ∀ (A3_q : Option Addr) (c3_q : Nat) (w : World), Sat w (rf w0) [osl 3 (r0 (.int .i64)) 1 A3_q c3_q out] → At Q (.exit 2) 36 [(0, .slice A0 l0.length c0), (3, .slice A3_q out.length c3_q), (4, .int .i64 x10_l1), (8, .slice A0 l0.length c0), (9, .int .i64 (l0.length : Int)), (10, .int .i64 x10_l1)] w) :
    ∀ (k : Nat) (x3_l2 : List Int) (x17_l2 : Int) (A3_l2 : Option Addr) (c3_l2 : Nat) (w : World), Sat w (rf w0) [osl 3 (r0 (.int .i64)) 1 A3_l2 c3_l2 x3_l2] → colophonref08_Symbols.l2 l0 v2 k x3_l2 x17_l2 = some out → WL Try.prog (cbody (cbody (cr (cl (cr (cbody (cl (cr (cr (cbody (cbody (cr (cl (cr (cr C10))))))))))))))) Q 36 [(0, .slice A0 l0.length c0), (3, .slice A3_l2 x3_l2.length c3_l2), (4, .int .i64 x10_l1), (8, .slice A0 l0.length c0), (9, .int .i64 (l0.length : Int)), (10, .int .i64 x10_l1), (15, .slice A4 v2.length c5), (16, .int .i64 (v2.length : Int)), (17, .int .i64 x17_l2)] w := by
  intro k
  induction k with
  | zero => intro x3_l2 x17_l2 A3_l2 c3_l2 w hS H; exact absurd (show none = some out from H) (by simp)
  | succ k ih =>
    intro x3_l2 x17_l2 A3_l2 c3_l2 w hS H
    unfold colophonref08_Symbols.l2 at H
    refine WL.round ?_
    refine WC.seq (by kernel_rfl) ?_
    refine WC.reg [0] (by kernel_rfl) (by kernel_rfl) ?_
    refine WR.runk [0] [] [0, 3, 4, 8, 9, 10, 15, 16, 17, 18] (L' := [(0, .slice A0 l0.length c0), (3, .slice A3_l2 x3_l2.length c3_l2), (4, .int .i64 x10_l1), (8, .slice A0 l0.length c0), (9, .int .i64 (l0.length : Int)), (10, .int .i64 x10_l1), (15, .slice A4 v2.length c5), (16, .int .i64 (v2.length : Int)), (17, .int .i64 x17_l2), (18, .bool (decide (x17_l2 < (v2.length : Int))))]) (w' := w) (by kernel_rfl) ?_
    refine WR.nil ?_
    refine At.go ?_
    refine WC.seq (by kernel_rfl) ?_
    refine WC.cond (by kernel_rfl) (decide (x17_l2 < (v2.length : Int))) (by kernel_rfl) (by kernel_rfl) (fun hb7 => ?_) (fun hb7 => ?_)
    · replace H := ite_t H hb7
      refine WC.skip (by kernel_rfl) ?_
      refine At.go ?_
      refine WC.seq (by kernel_rfl) ?_
      refine WC.block (by kernel_rfl) ?_
      refine WC.seq (by kernel_rfl) ?_
      refine WC.reg [0, 1, 2] (by kernel_rfl) (by kernel_rfl) ?_
      refine WR.runk [] [0, 1, 2] [0, 3, 4, 8, 9, 10, 15, 16, 17] (L' := [(0, .slice A0 l0.length c0), (3, .slice A3_l2 x3_l2.length c3_l2), (4, .int .i64 x10_l1), (8, .slice A0 l0.length c0), (9, .int .i64 (l0.length : Int)), (10, .int .i64 x10_l1), (15, .slice A4 v2.length c5), (16, .int .i64 (v2.length : Int)), (17, .int .i64 x17_l2)]) (w' := w) (by kernel_rfl) ?_
      obtain ⟨v8, e9, H⟩ := bind_ex H
      refine WR.st (St.ofP (PSt.idx (k := .i64) (.tmp 15) (.tmp 17) (by kernel_rfl) (by kernel_rfl) E24 (by kernel_rfl) (by kernel_rfl) (rdS.up R6 hS.sub0) e9 ?_))
      refine WR.runk [] [1, 2] [0, 3, 4, 8, 9, 10, 15, 16, 17, 19] (L' := [(0, .slice A0 l0.length c0), (3, .slice A3_l2 x3_l2.length c3_l2), (4, .int .i64 x10_l1), (8, .slice A0 l0.length c0), (9, .int .i64 (l0.length : Int)), (10, .int .i64 x10_l1), (15, .slice A4 v2.length c5), (16, .int .i64 (v2.length : Int)), (17, .int .i64 x17_l2), (19, .pointer (some (adr A4 x17_l2.toNat 1)))]) (w' := w) (by kernel_rfl) ?_
      refine WR.st (St.ofR (RSt.loadInt (t := 5) (.tmp 19) (by kernel_rfl) (by kernel_rfl) (by kernel_rfl) (by kernel_rfl) (rdS.up R6 hS.sub0) e9 ?_))
      refine WR.runk [2] [] [0, 3, 4, 7, 8, 9, 10, 15, 16, 17] (L' := [(0, .slice A0 l0.length c0), (3, .slice A3_l2 x3_l2.length c3_l2), (4, .int .i64 x10_l1), (7, .int .u8 v8), (8, .slice A0 l0.length c0), (9, .int .i64 (l0.length : Int)), (10, .int .i64 x10_l1), (15, .slice A4 v2.length c5), (16, .int .i64 (v2.length : Int)), (17, .int .i64 x17_l2)]) (w' := w) (by kernel_rfl) ?_
      refine WR.nil ?_
      refine At.go ?_
      refine WC.reg [0, 1, 2, 3, 4, 5, 6, 7, 8] (by kernel_rfl) (by kernel_rfl) ?_
      refine WR.runk [0, 1, 2, 3, 4, 5] [6, 7, 8] [0, 3, 4, 8, 9, 10, 15, 16, 17, 21, 26] (L' := [(0, .slice A0 l0.length c0), (3, .slice A3_l2 x3_l2.length c3_l2), (4, .int .i64 x10_l1), (8, .slice A0 l0.length c0), (9, .int .i64 (l0.length : Int)), (10, .int .i64 x10_l1), (15, .slice A4 v2.length c5), (16, .int .i64 (v2.length : Int)), (17, .int .i64 x17_l2), (21, .slice A3_l2 x3_l2.length c3_l2), (26, .int .i64 (wi ((wi v8) + (l0.length : Int))))]) (w' := w) (by kernel_rfl) ?_
      refine WR.st (St.box hS (by kernel_rfl) (.cells #[.int .i64 (wi ((wi v8) + (l0.length : Int)))] 3) (fun b10 => .slice (some ⟨b10, 0, none⟩) 1 1) (fun _ => by kernel_rfl) (fun b10 w11 hS => ?_))
      refine WR.runk [] [7, 8] [0, 3, 4, 8, 9, 10, 15, 16, 17, 21, 27] (L' := [(0, .slice A0 l0.length c0), (3, .slice A3_l2 x3_l2.length c3_l2), (4, .int .i64 x10_l1), (8, .slice A0 l0.length c0), (9, .int .i64 (l0.length : Int)), (10, .int .i64 x10_l1), (15, .slice A4 v2.length c5), (16, .int .i64 (v2.length : Int)), (17, .int .i64 x17_l2), (21, .slice A3_l2 x3_l2.length c3_l2), (27, .slice (some ⟨b10, 0, none⟩) 1 1)]) (w' := w11) (by kernel_rfl) ?_
      have hS : Sat w11 (rf w0) [osl 3 (r0 (.int .i64)) 1 A3_l2 c3_l2 x3_l2, pts b10 (.cells #[.int .i64 (wi ((wi v8) + (l0.length : Int)))] 3 (0, 0))] := hS.sel [1, 0] (by kernel_rfl)
      obtain ⟨y13, e12, H⟩ := bind_ex H
      refine WR.st (St.append' (.tmp 21) (.tmp 27) (by kernel_rfl) (by kernel_rfl) E30 (r0_one _) hS (by kernel_rfl) (by kernel_rfl) (Sat.ptsAt 1 (r0 (.int .i64)) 1 ([wi ((wi v8) + (l0.length : Int))] : List Int) hS rfl rfl (rdL.cons1 rfl (rdL.nil _ _))) 17592186044416 (by kernel_rfl) (by kernel_rfl) e12 (fun A14 c15 w16 hS => ?_))
      refine WR.runk [8] [] [0, 3, 4, 8, 9, 10, 15, 16, 17] (L' := [(0, .slice A0 l0.length c0), (3, .slice A14 y13.length c15), (4, .int .i64 x10_l1), (8, .slice A0 l0.length c0), (9, .int .i64 (l0.length : Int)), (10, .int .i64 x10_l1), (15, .slice A4 v2.length c5), (16, .int .i64 (v2.length : Int)), (17, .int .i64 x17_l2)]) (w' := w16) (by kernel_rfl) ?_
      refine WR.nil ?_
      refine At.blockNormal ?_
      refine At.go ?_
      refine WC.reg [0, 1] (by kernel_rfl) (by kernel_rfl) ?_
      refine WR.runk [0, 1] [] [0, 3, 4, 8, 9, 10, 15, 16, 17] (L' := [(0, .slice A0 l0.length c0), (3, .slice A14 y13.length c15), (4, .int .i64 x10_l1), (8, .slice A0 l0.length c0), (9, .int .i64 (l0.length : Int)), (10, .int .i64 x10_l1), (15, .slice A4 v2.length c5), (16, .int .i64 (v2.length : Int)), (17, .int .i64 (wi (x17_l2 + 1)))]) (w' := w16) (by kernel_rfl) ?_
      refine WR.nil ?_
      have hS : Sat w16 (rf w0) [osl 3 (r0 (.int .i64)) 1 A14 c15 y13] := hS.sel [0] (by kernel_rfl)
      refine At.again ?_
      refine WL.weaken [0, 3, 4, 8, 9, 10, 15, 16, 17] (L' := [(0, .slice A0 l0.length c0), (3, .slice A14 y13.length c15), (4, .int .i64 x10_l1), (8, .slice A0 l0.length c0), (9, .int .i64 (l0.length : Int)), (10, .int .i64 x10_l1), (15, .slice A4 v2.length c5), (16, .int .i64 (v2.length : Int)), (17, .int .i64 (wi (x17_l2 + 1)))]) (by kernel_rfl) ?_
      exact ih y13 (wi (x17_l2 + 1)) A14 c15 _ hS H
    · replace H := ite_f H hb7
      refine WC.exit (by kernel_rfl) ?_
      refine At.thenExit ?_
      refine At.thenExit ?_
      obtain rfl := Option.some.inj H
      have hS : Sat w (rf w0) [osl 3 (r0 (.int .i64)) 1 A3_l2 c3_l2 x3_l2] := hS.sel [0] (by kernel_rfl)
      refine At.weaken [0, 3, 4, 8, 9, 10] (L' := [(0, .slice A0 l0.length c0), (3, .slice A3_l2 x3_l2.length c3_l2), (4, .int .i64 x10_l1), (8, .slice A0 l0.length c0), (9, .int .i64 (l0.length : Int)), (10, .int .i64 x10_l1)]) (by kernel_rfl) ?_
      exact hn0 A3_l2 c3_l2 _ hS
theorem colophonref08_Symbols.l1_ok {Q} (w0 : World) (A0 : Option Addr) (c0 : Nat) (l0 : List (List Int)) (R0 : rdS (rd (hp w0) (.slice 5 (.int .u8))) 1 (hp w0) A0 c0 l0) (out : (List Int)) (hn0 : ∀ (A3_q : Option Addr) (c3_q : Nat) (w : World), Sat w (rf w0) [osl 3 (r0 (.int .i64)) 1 A3_q c3_q out] → At Q (.exit 0) 36 [(3, .slice A3_q out.length c3_q)] w) :
    ∀ (k : Nat) (x3_l1 : List Int) (x10_l1 : Int) (A3_l1 : Option Addr) (c3_l1 : Nat) (w : World), Sat w (rf w0) [osl 3 (r0 (.int .i64)) 1 A3_l1 c3_l1 x3_l1] → colophonref08_Symbols.l1 l0 k x3_l1 x10_l1 = some out → WL Try.prog (cbody (cbody (cr (cl (cr (cr C10)))))) Q 36 [(0, .slice A0 l0.length c0), (3, .slice A3_l1 x3_l1.length c3_l1), (8, .slice A0 l0.length c0), (9, .int .i64 (l0.length : Int)), (10, .int .i64 x10_l1)] w := by
  intro k
  induction k with
  | zero => intro x3_l1 x10_l1 A3_l1 c3_l1 w hS H; exact absurd (show none = some out from H) (by simp)
  | succ k ih =>
    intro x3_l1 x10_l1 A3_l1 c3_l1 w hS H
    unfold colophonref08_Symbols.l1 at H
    refine WL.round ?_
    refine WC.seq (by kernel_rfl) ?_
    refine WC.reg [0] (by kernel_rfl) (by kernel_rfl) ?_
    refine WR.runk [0] [] [0, 3, 8, 9, 10, 11] (L' := [(0, .slice A0 l0.length c0), (3, .slice A3_l1 x3_l1.length c3_l1), (8, .slice A0 l0.length c0), (9, .int .i64 (l0.length : Int)), (10, .int .i64 x10_l1), (11, .bool (decide (x10_l1 < (l0.length : Int))))]) (w' := w) (by kernel_rfl) ?_
    refine WR.nil ?_
    refine At.go ?_
    refine WC.seq (by kernel_rfl) ?_
    refine WC.cond (by kernel_rfl) (decide (x10_l1 < (l0.length : Int))) (by kernel_rfl) (by kernel_rfl) (fun hb1 => ?_) (fun hb1 => ?_)
    · replace H := ite_t H hb1
      refine WC.skip (by kernel_rfl) ?_
      refine At.go ?_
      refine WC.seq (by kernel_rfl) ?_
      refine WC.block (by kernel_rfl) ?_
      refine WC.seq (by kernel_rfl) ?_
      refine WC.reg [0, 1, 2, 3, 4] (by kernel_rfl) (by kernel_rfl) ?_
      refine WR.runk [0] [1, 2, 3, 4] [0, 3, 8, 9, 10, 12] (L' := [(0, .slice A0 l0.length c0), (3, .slice A3_l1 x3_l1.length c3_l1), (8, .slice A0 l0.length c0), (9, .int .i64 (l0.length : Int)), (10, .int .i64 x10_l1), (12, .int .i64 x10_l1)]) (w' := w) (by kernel_rfl) ?_
      obtain ⟨v2, e3, H⟩ := bind_ex H
      refine WR.st (St.ofP (PSt.idx (k := .i64) (.tmp 8) (.tmp 10) (by kernel_rfl) (by kernel_rfl) E22 (by kernel_rfl) (by kernel_rfl) (rdS.up R0 hS.sub0) e3 ?_))
      refine WR.runk [] [2, 3, 4] [0, 3, 8, 9, 10, 12, 13] (L' := [(0, .slice A0 l0.length c0), (3, .slice A3_l1 x3_l1.length c3_l1), (8, .slice A0 l0.length c0), (9, .int .i64 (l0.length : Int)), (10, .int .i64 x10_l1), (12, .int .i64 x10_l1), (13, .pointer (some (adr A0 x10_l1.toNat 1)))]) (w' := w) (by kernel_rfl) ?_
      refine WR.st (St.ofR (RSt.loadSl (t := 24) (.tmp 13) (by kernel_rfl) (by kernel_rfl) (by kernel_rfl) (by kernel_rfl) R0 e3 hS.sub0 (fun A4 c5 R6 => ?_)))
      replace R6 : rdS (r0 (.int .u8)) 1 (hp w0) A4 c5 v2 := R6
      refine WR.runk [3, 4] [] [0, 3, 4, 5, 8, 9, 10] (L' := [(0, .slice A0 l0.length c0), (3, .slice A3_l1 x3_l1.length c3_l1), (4, .int .i64 x10_l1), (5, .slice A4 v2.length c5), (8, .slice A0 l0.length c0), (9, .int .i64 (l0.length : Int)), (10, .int .i64 x10_l1)]) (w' := w) (by kernel_rfl) ?_
      refine WR.nil ?_
      refine At.go ?_
      refine WC.seq (by kernel_rfl) ?_
      refine WC.seq (by kernel_rfl) ?_
      refine WC.reg [0, 1, 2] (by kernel_rfl) (by kernel_rfl) ?_
      refine WR.runk [0, 1, 2] [] [0, 3, 4, 8, 9, 10, 15, 16, 17] (L' := [(0, .slice A0 l0.length c0), (3, .slice A3_l1 x3_l1.length c3_l1), (4, .int .i64 x10_l1), (8, .slice A0 l0.length c0), (9, .int .i64 (l0.length : Int)), (10, .int .i64 x10_l1), (15, .slice A4 v2.length c5), (16, .int .i64 (v2.length : Int)), (17, .int .i64 0)]) (w' := w) (by kernel_rfl) ?_
      refine WR.nil ?_
      refine At.go ?_
      refine WC.block (by kernel_rfl) ?_
      have hS : Sat w (rf w0) [osl 3 (r0 (.int .i64)) 1 A3_l1 c3_l1 x3_l1] := hS.sel [0] (by kernel_rfl)
      obtain ⟨o17, e18, H⟩ := bind_ex H
      refine WC.loop (by kernel_rfl) ?_
      refine WL.weaken [0, 3, 4, 8, 9, 10, 15, 16, 17] (L' := [(0, .slice A0 l0.length c0), (3, .slice A3_l1 x3_l1.length c3_l1), (4, .int .i64 x10_l1), (8, .slice A0 l0.length c0), (9, .int .i64 (l0.length : Int)), (10, .int .i64 x10_l1), (15, .slice A4 v2.length c5), (16, .int .i64 (v2.length : Int)), (17, .int .i64 0)]) (by kernel_rfl) ?_
      refine colophonref08_Symbols.l2_ok w0 A0 c0 l0 x10_l1 v2 A4 c5 R6 o17 (fun A3_q19 c3_q19 w20 hS => ?_) FU x3_l1 0 A3_l1 c3_l1 _ hS e18
      refine At.hit ?_
      refine At.go ?_
      refine WC.reg [0, 1, 2, 3, 4] (by kernel_rfl) (by kernel_rfl) ?_
      refine WR.runk [0, 1] [2, 3, 4] [0, 3, 8, 9, 10, 30, 31] (L' := [(0, .slice A0 l0.length c0), (3, .slice A3_q19 o17.length c3_q19), (8, .slice A0 l0.length c0), (9, .int .i64 (l0.length : Int)), (10, .int .i64 x10_l1), (30, .slice A3_q19 o17.length c3_q19), (31, .int .i64 x10_l1)]) (w' := w20) (by kernel_rfl) ?_
      refine WR.st (St.box hS (by kernel_rfl) (.cells #[.int .i64 x10_l1] 3) (fun b22 => .slice (some ⟨b22, 0, none⟩) 1 1) (fun _ => by kernel_rfl) (fun b22 w23 hS => ?_))
      refine WR.runk [] [3, 4] [0, 3, 8, 9, 10, 30, 32] (L' := [(0, .slice A0 l0.length c0), (3, .slice A3_q19 o17.length c3_q19), (8, .slice A0 l0.length c0), (9, .int .i64 (l0.length : Int)), (10, .int .i64 x10_l1), (30, .slice A3_q19 o17.length c3_q19), (32, .slice (some ⟨b22, 0, none⟩) 1 1)]) (w' := w23) (by kernel_rfl) ?_
      have hS : Sat w23 (rf w0) [osl 3 (r0 (.int .i64)) 1 A3_q19 c3_q19 o17, pts b22 (.cells #[.int .i64 x10_l1] 3 (0, 0))] := hS.sel [1, 0] (by kernel_rfl)
      obtain ⟨y25, e24, H⟩ := bind_ex H
      refine WR.st (St.append' (.tmp 30) (.tmp 32) (by kernel_rfl) (by kernel_rfl) E30 (r0_one _) hS (by kernel_rfl) (by kernel_rfl) (Sat.ptsAt 1 (r0 (.int .i64)) 1 ([x10_l1] : List Int) hS rfl rfl (rdL.cons1 rfl (rdL.nil _ _))) 17592186044416 (by kernel_rfl) (by kernel_rfl) e24 (fun A26 c27 w28 hS => ?_))
      refine WR.runk [4] [] [0, 3, 8, 9, 10] (L' := [(0, .slice A0 l0.length c0), (3, .slice A26 y25.length c27), (8, .slice A0 l0.length c0), (9, .int .i64 (l0.length : Int)), (10, .int .i64 x10_l1)]) (w' := w28) (by kernel_rfl) ?_
      refine WR.nil ?_
      refine At.blockNormal ?_
      refine At.go ?_
      refine WC.reg [0, 1] (by kernel_rfl) (by kernel_rfl) ?_
      refine WR.runk [0, 1] [] [0, 3, 8, 9, 10] (L' := [(0, .slice A0 l0.length c0), (3, .slice A26 y25.length c27), (8, .slice A0 l0.length c0), (9, .int .i64 (l0.length : Int)), (10, .int .i64 (wi (x10_l1 + 1)))]) (w' := w28) (by kernel_rfl) ?_
      refine WR.nil ?_
      have hS : Sat w28 (rf w0) [osl 3 (r0 (.int .i64)) 1 A26 c27 y25] := hS.sel [0] (by kernel_rfl)
      refine At.again ?_
      refine WL.weaken [0, 3, 8, 9, 10] (L' := [(0, .slice A0 l0.length c0), (3, .slice A26 y25.length c27), (8, .slice A0 l0.length c0), (9, .int .i64 (l0.length : Int)), (10, .int .i64 (wi (x10_l1 + 1)))]) (by kernel_rfl) ?_
      exact ih y25 (wi (x10_l1 + 1)) A26 c27 _ hS H
    · replace H := ite_f H hb1
      refine WC.exit (by kernel_rfl) ?_
      refine At.thenExit ?_
      refine At.thenExit ?_
      obtain rfl := Option.some.inj H
      have hS : Sat w (rf w0) [osl 3 (r0 (.int .i64)) 1 A3_l1 c3_l1 x3_l1] := hS.sel [0] (by kernel_rfl)
      refine At.weaken [3] (L' := [(3, .slice A3_l1 x3_l1.length c3_l1)]) (by kernel_rfl) ?_
      exact hn0 A3_l1 c3_l1 _ hS
theorem colophonref08_Symbols.calls (w0 : World) (A0 : Option Addr) (c0 : Nat) (l0 : List (List Int)) (R0 : rdS (rd (hp w0) (.slice 5 (.int .u8))) 1 (hp w0) A0 c0 l0) (r : (List Int)) (H : colophonref08_Symbols.f l0 = some r) :
    Calls Try.prog 10 #[.slice A0 l0.length c0] w0 (fun e w' => ∃ v, e = .returned v ∧ colophonref08_Symbols.post w0 r v w') := by
  have hS : Sat w0 (rf w0) [] := Sat.start w0
  unfold colophonref08_Symbols.f at H
  refine calls_of_WC (vs := [.slice A0 l0.length c0]) Try.func10 (c := C10) (n := 36) (by kernel_rfl) (by kernel_rfl) (by kernel_rfl) ?_
  refine WC.seq (by kernel_rfl) ?_
  refine WC.reg [0] (by kernel_rfl) (by kernel_rfl) ?_
  refine WR.runk [0] [] [0] (L' := [(0, .slice A0 l0.length c0)]) (w' := w0) (by kernel_rfl) ?_
  refine WR.nil ?_
  refine At.go ?_
  refine WC.seq (by kernel_rfl) ?_
  refine WC.reg [0] (by kernel_rfl) (by kernel_rfl) ?_
  refine WR.runk [0] [] [0, 3] (L' := [(0, .slice A0 l0.length c0), (3, .slice none 0 0)]) (w' := w0) (by kernel_rfl) ?_
  refine WR.nil ?_
  refine At.go ?_
  refine WC.seq (by kernel_rfl) ?_
  refine WC.seq (by kernel_rfl) ?_
  refine WC.reg [0, 1, 2] (by kernel_rfl) (by kernel_rfl) ?_
  refine WR.runk [0, 1, 2] [] [0, 3, 8, 9, 10] (L' := [(0, .slice A0 l0.length c0), (3, .slice none 0 0), (8, .slice A0 l0.length c0), (9, .int .i64 (l0.length : Int)), (10, .int .i64 0)]) (w' := w0) (by kernel_rfl) ?_
  refine WR.nil ?_
  refine At.go ?_
  refine WC.block (by kernel_rfl) ?_
  have hS := hS.addNil (α := Int) 3 (r0 (.int .i64)) 1
  have hS : Sat w0 (rf w0) [osl 3 (r0 (.int .i64)) 1 none 0 ([] : List Int)] := hS.sel [0] (by kernel_rfl)
  obtain ⟨o29, e30, H⟩ := bind_ex H
  refine WC.loop (by kernel_rfl) ?_
  refine WL.weaken [0, 3, 8, 9, 10] (L' := [(0, .slice A0 l0.length c0), (3, .slice none 0 0), (8, .slice A0 l0.length c0), (9, .int .i64 (l0.length : Int)), (10, .int .i64 0)]) (by kernel_rfl) ?_
  refine colophonref08_Symbols.l1_ok w0 A0 c0 l0 R0 o29 (fun A3_q31 c3_q31 w32 hS => ?_) FU ([] : List Int) 0 none 0 _ hS e30
  refine At.hit ?_
  refine At.go ?_
  refine WC.seq (by kernel_rfl) ?_
  refine WC.reg [0, 1] (by kernel_rfl) (by kernel_rfl) ?_
  refine WR.runk [0, 1] [] [2] (L' := [(2, .slice A3_q31 o29.length c3_q31)]) (w' := w32) (by kernel_rfl) ?_
  refine WR.nil ?_
  refine At.go ?_
  refine WC.ret (by kernel_rfl) ?_
  obtain rfl := Option.some.inj H
  have hS : Sat w32 (rf w0) [osl 3 (r0 (.int .i64)) 1 A3_q31 c3_q31 o29] := hS.sel [0] (by kernel_rfl)
  exact At.body [.slice A3_q31 o29.length c3_q31] (by kernel_rfl) ⟨_, rfl, _, _, rfl, hS⟩
/-! ### 17 colophon/colophonref08.Doc -/
def colophonref08_Doc.l1 (l0 : List (List Int)) : Nat → Int → Int → Option (Sum (Int × Int) Unit)
  | 0, _, _ => none
  | k + 1, x1_l1, x12_l1 => (if decide (x12_l1 < (l0.length : Int)) then ((at? l0 x12_l1).bind fun v3 => (if decide (x1_l1 ≤ (v3.length : Int)) then some (.inl (x12_l1, x1_l1)) else colophonref08_Doc.l1 l0 k (wi (x1_l1 - (wi ((v3.length : Int) + 1)))) (wi (x12_l1 + 1)))) else some (.inr ()))
def colophonref08_Doc.f (l0 : List (List Int)) (a1 : Int) : Option (Int × Int) := (if decide (a1 < 0) then some ((-1), (-1)) else ((colophonref08_Doc.l1 l0 FU a1 0).bind fun o9 => (match o9 with | .inl o11 => some (o11.1, o11.2) | .inr o15 => some ((-1), (-1)))))
def colophonref08_Doc.post (w : World) (r : Int × Int) (v : Value) (w' : World) : Prop := v = .tuple #[.int .i64 r.1, .int .i64 r.2] ∧ Sat w' (rf w) []
theorem colophonref08_Doc.l1_ok {Q} (w0 : World) (A0 : Option Addr) (c0 : Nat) (l0 : List (List Int)) (R0 : rdS (rd (hp w0) (.slice 5 (.int .u8))) 1 (hp w0) A0 c0 l0) (out : Sum (Int × Int) Unit) (hn0 : ∀ (o0 : Int × Int) (w : World), out = (.inl o0) → Sat w (rf w0) [] → At Q .ret 29 [(4, .int .i64 o0.1), (5, .int .i64 o0.2)] w) (hn1 : ∀ (o1 : Unit) (w : World), out = (.inr o1) → Sat w (rf w0) [] → At Q (.exit 0) 29 [] w) :
    ∀ (k : Nat) (x1_l1 : Int) (x12_l1 : Int) (w : World), Sat w (rf w0) [] → colophonref08_Doc.l1 l0 k x1_l1 x12_l1 = some out → WL Try.prog (cbody (cbody (cr (cl (cr (cr C17)))))) Q 29 [(1, .int .i64 x1_l1), (10, .slice A0 l0.length c0), (11, .int .i64 (l0.length : Int)), (12, .int .i64 x12_l1)] w := by
  intro k
  induction k with
  | zero => intro x1_l1 x12_l1 w hS H; exact absurd (show none = some out from H) (by simp)
  | succ k ih =>
    intro x1_l1 x12_l1 w hS H
    unfold colophonref08_Doc.l1 at H
    refine WL.round ?_
    refine WC.seq (by kernel_rfl) ?_
    refine WC.reg [0] (by kernel_rfl) (by kernel_rfl) ?_
    refine WR.runk [0] [] [1, 10, 11, 12, 13] (L' := [(1, .int .i64 x1_l1), (10, .slice A0 l0.length c0), (11, .int .i64 (l0.length : Int)), (12, .int .i64 x12_l1), (13, .bool (decide (x12_l1 < (l0.length : Int))))]) (w' := w) (by kernel_rfl) ?_
    refine WR.nil ?_
    refine At.go ?_
    refine WC.seq (by kernel_rfl) ?_
    refine WC.cond (by kernel_rfl) (decide (x12_l1 < (l0.length : Int))) (by kernel_rfl) (by kernel_rfl) (fun hb2 => ?_) (fun hb2 => ?_)
    · replace H := ite_t H hb2
      refine WC.skip (by kernel_rfl) ?_
      refine At.go ?_
      refine WC.seq (by kernel_rfl) ?_
      refine WC.block (by kernel_rfl) ?_
      refine WC.seq (by kernel_rfl) ?_
      refine WC.reg [0, 1, 2, 3, 4] (by kernel_rfl) (by kernel_rfl) ?_
      refine WR.runk [0] [1, 2, 3, 4] [1, 10, 11, 12, 14] (L' := [(1, .int .i64 x1_l1), (10, .slice A0 l0.length c0), (11, .int .i64 (l0.length : Int)), (12, .int .i64 x12_l1), (14, .int .i64 x12_l1)]) (w' := w) (by kernel_rfl) ?_
      obtain ⟨v3, e4, H⟩ := bind_ex H
      refine WR.st (St.ofP (PSt.idx (k := .i64) (.tmp 10) (.tmp 12) (by kernel_rfl) (by kernel_rfl) E22 (by kernel_rfl) (by kernel_rfl) (rdS.up R0 hS.sub0) e4 ?_))
      refine WR.runk [] [2, 3, 4] [1, 10, 11, 12, 14, 15] (L' := [(1, .int .i64 x1_l1), (10, .slice A0 l0.length c0), (11, .int .i64 (l0.length : Int)), (12, .int .i64 x12_l1), (14, .int .i64 x12_l1), (15, .pointer (some (adr A0 x12_l1.toNat 1)))]) (w' := w) (by kernel_rfl) ?_
      refine WR.st (St.ofR (RSt.loadSl (t := 24) (.tmp 15) (by kernel_rfl) (by kernel_rfl) (by kernel_rfl) (by kernel_rfl) R0 e4 hS.sub0 (fun A5 c6 R7 => ?_)))
      replace R7 : rdS (r0 (.int .u8)) 1 (hp w0) A5 c6 v3 := R7
      refine WR.runk [3, 4] [] [1, 6, 7, 10, 11, 12] (L' := [(1, .int .i64 x1_l1), (6, .int .i64 x12_l1), (7, .slice A5 v3.length c6), (10, .slice A0 l0.length c0), (11, .int .i64 (l0.length : Int)), (12, .int .i64 x12_l1)]) (w' := w) (by kernel_rfl) ?_
      refine WR.nil ?_
      refine At.go ?_
      refine WC.seq (by kernel_rfl) ?_
      refine WC.seq (by kernel_rfl) ?_
      refine WC.reg [0, 1, 2, 3] (by kernel_rfl) (by kernel_rfl) ?_
      refine WR.runk [0, 1, 2, 3] [] [1, 6, 7, 10, 11, 12, 20] (L' := [(1, .int .i64 x1_l1), (6, .int .i64 x12_l1), (7, .slice A5 v3.length c6), (10, .slice A0 l0.length c0), (11, .int .i64 (l0.length : Int)), (12, .int .i64 x12_l1), (20, .bool (decide (x1_l1 ≤ (v3.length : Int))))]) (w' := w) (by kernel_rfl) ?_
      refine WR.nil ?_
      refine At.go ?_
      refine WC.cond (by kernel_rfl) (decide (x1_l1 ≤ (v3.length : Int))) (by kernel_rfl) (by kernel_rfl) (fun hb8 => ?_) (fun hb8 => ?_)
      · replace H := ite_t H hb8
        refine WC.seq (by kernel_rfl) ?_
        refine WC.reg [0, 1, 2, 3] (by kernel_rfl) (by kernel_rfl) ?_
        refine WR.runk [0, 1, 2, 3] [] [4, 5] (L' := [(4, .int .i64 x12_l1), (5, .int .i64 x1_l1)]) (w' := w) (by kernel_rfl) ?_
        refine WR.nil ?_
        refine At.go ?_
        refine WC.ret (by kernel_rfl) ?_
        refine At.thenRet ?_
        refine At.blockRet ?_
        refine At.thenRet ?_
        refine At.thenRet ?_
        obtain rfl := Option.some.inj H
        have hS : Sat w (rf w0) [] := hS.sel [] (by kernel_rfl)
        refine At.weaken [4, 5] (L' := [(4, .int .i64 x12_l1), (5, .int .i64 x1_l1)]) (by kernel_rfl) ?_
        exact hn0 (x12_l1, x1_l1) _ rfl hS
      · replace H := ite_f H hb8
        refine WC.skip (by kernel_rfl) ?_
        refine At.go ?_
        refine WC.reg [0, 1, 2, 3, 4, 5] (by kernel_rfl) (by kernel_rfl) ?_
        refine WR.runk [0, 1, 2, 3, 4, 5] [] [1, 10, 11, 12] (L' := [(1, .int .i64 (wi (x1_l1 - (wi ((v3.length : Int) + 1))))), (10, .slice A0 l0.length c0), (11, .int .i64 (l0.length : Int)), (12, .int .i64 x12_l1)]) (w' := w) (by kernel_rfl) ?_
        refine WR.nil ?_
        refine At.blockNormal ?_
        refine At.go ?_
        refine WC.reg [0, 1] (by kernel_rfl) (by kernel_rfl) ?_
        refine WR.runk [0, 1] [] [1, 10, 11, 12] (L' := [(1, .int .i64 (wi (x1_l1 - (wi ((v3.length : Int) + 1))))), (10, .slice A0 l0.length c0), (11, .int .i64 (l0.length : Int)), (12, .int .i64 (wi (x12_l1 + 1)))]) (w' := w) (by kernel_rfl) ?_
        refine WR.nil ?_
        have hS : Sat w (rf w0) [] := hS.sel [] (by kernel_rfl)
        refine At.again ?_
        refine WL.weaken [1, 10, 11, 12] (L' := [(1, .int .i64 (wi (x1_l1 - (wi ((v3.length : Int) + 1))))), (10, .slice A0 l0.length c0), (11, .int .i64 (l0.length : Int)), (12, .int .i64 (wi (x12_l1 + 1)))]) (by kernel_rfl) ?_
        exact ih (wi (x1_l1 - (wi ((v3.length : Int) + 1)))) (wi (x12_l1 + 1)) _ hS H
    · replace H := ite_f H hb2
      refine WC.exit (by kernel_rfl) ?_
      refine At.thenExit ?_
      refine At.thenExit ?_
      obtain rfl := Option.some.inj H
      have hS : Sat w (rf w0) [] := hS.sel [] (by kernel_rfl)
      refine At.weaken [] (L' := []) (by kernel_rfl) ?_
      exact hn1 () _ rfl hS
theorem colophonref08_Doc.calls (w0 : World) (A0 : Option Addr) (c0 : Nat) (l0 : List (List Int)) (R0 : rdS (rd (hp w0) (.slice 5 (.int .u8))) 1 (hp w0) A0 c0 l0) (a1 : Int) (r : Int × Int) (H : colophonref08_Doc.f l0 a1 = some r) :
    Calls Try.prog 17 #[.slice A0 l0.length c0, .int .i64 a1] w0 (fun e w' => ∃ v, e = .returned v ∧ colophonref08_Doc.post w0 r v w') := by
  have hS : Sat w0 (rf w0) [] := Sat.start w0
  unfold colophonref08_Doc.f at H
  refine calls_of_WC (vs := [.slice A0 l0.length c0, .int .i64 a1]) Try.func17 (c := C17) (n := 29) (by kernel_rfl) (by kernel_rfl) (by kernel_rfl) ?_
  refine WC.seq (by kernel_rfl) ?_
  refine WC.reg [0, 1] (by kernel_rfl) (by kernel_rfl) ?_
  refine WR.runk [0, 1] [] [0, 1] (L' := [(0, .slice A0 l0.length c0), (1, .int .i64 a1)]) (w' := w0) (by kernel_rfl) ?_
  refine WR.nil ?_
  refine At.go ?_
  refine WC.seq (by kernel_rfl) ?_
  refine WC.seq (by kernel_rfl) ?_
  refine WC.reg [0, 1] (by kernel_rfl) (by kernel_rfl) ?_
  refine WR.runk [0, 1] [] [0, 1, 9] (L' := [(0, .slice A0 l0.length c0), (1, .int .i64 a1), (9, .bool (decide (a1 < 0)))]) (w' := w0) (by kernel_rfl) ?_
  refine WR.nil ?_
  refine At.go ?_
  refine WC.cond (by kernel_rfl) (decide (a1 < 0)) (by kernel_rfl) (by kernel_rfl) (fun hb1 => ?_) (fun hb1 => ?_)
  · replace H := ite_t H hb1
    refine WC.seq (by kernel_rfl) ?_
    refine WC.reg [0, 1] (by kernel_rfl) (by kernel_rfl) ?_
    refine WR.runk [0, 1] [] [4, 5] (L' := [(4, .int .i64 (-1)), (5, .int .i64 (-1))]) (w' := w0) (by kernel_rfl) ?_
    refine WR.nil ?_
    refine At.go ?_
    refine WC.ret (by kernel_rfl) ?_
    refine At.thenRet ?_
    obtain rfl := Option.some.inj H
    have hS : Sat w0 (rf w0) [] := hS.sel [] (by kernel_rfl)
    exact At.body [.int .i64 (-1), .int .i64 (-1)] (by kernel_rfl) ⟨_, rfl, rfl, hS⟩
  · replace H := ite_f H hb1
    refine WC.skip (by kernel_rfl) ?_
    refine At.go ?_
    refine WC.seq (by kernel_rfl) ?_
    refine WC.seq (by kernel_rfl) ?_
    refine WC.reg [0, 1, 2] (by kernel_rfl) (by kernel_rfl) ?_
    refine WR.runk [0, 1, 2] [] [1, 10, 11, 12] (L' := [(1, .int .i64 a1), (10, .slice A0 l0.length c0), (11, .int .i64 (l0.length : Int)), (12, .int .i64 0)]) (w' := w0) (by kernel_rfl) ?_
    refine WR.nil ?_
    refine At.go ?_
    refine WC.block (by kernel_rfl) ?_
    have hS : Sat w0 (rf w0) [] := hS.sel [] (by kernel_rfl)
    obtain ⟨o9, e10, H⟩ := bind_ex H
    refine WC.loop (by kernel_rfl) ?_
    refine WL.weaken [1, 10, 11, 12] (L' := [(1, .int .i64 a1), (10, .slice A0 l0.length c0), (11, .int .i64 (l0.length : Int)), (12, .int .i64 0)]) (by kernel_rfl) ?_
    refine colophonref08_Doc.l1_ok w0 A0 c0 l0 R0 o9 (fun o11 w13 ho14 hS => ?_) (fun o15 w17 ho18 hS => ?_) FU a1 0 _ hS e10
    · subst ho14
      dsimp only at H
      refine At.blockRet ?_
      refine At.thenRet ?_
      obtain rfl := Option.some.inj H
      have hS : Sat w13 (rf w0) [] := hS.sel [] (by kernel_rfl)
      exact At.body [.int .i64 o11.1, .int .i64 o11.2] (by kernel_rfl) ⟨_, rfl, rfl, hS⟩
    · subst ho18
      dsimp only at H
      refine At.hit ?_
      refine At.go ?_
      refine WC.seq (by kernel_rfl) ?_
      refine WC.reg [0, 1] (by kernel_rfl) (by kernel_rfl) ?_
      refine WR.runk [0, 1] [] [4, 5] (L' := [(4, .int .i64 (-1)), (5, .int .i64 (-1))]) (w' := w17) (by kernel_rfl) ?_
      refine WR.nil ?_
      refine At.go ?_
      refine WC.ret (by kernel_rfl) ?_
      obtain rfl := Option.some.inj H
      have hS : Sat w17 (rf w0) [] := hS.sel [] (by kernel_rfl)
      exact At.body [.int .i64 (-1), .int .i64 (-1)] (by kernel_rfl) ⟨_, rfl, rfl, hS⟩
end Go.Proofs.Ytoonceaeaigkpaa
