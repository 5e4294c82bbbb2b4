/-
  Printed by gen.py (my own tool): for each Go function a plain Lean function and the proof that a call of it does what that function says.
-/
import Derived.Test.YthnlihpmpmhidaaProg
import Derived.Test.YthnlihpmpmhidaaGM
set_option linter.unusedVariables false
set_option linter.unusedSimpArgs false
set_option maxRecDepth 100000
namespace Go.Proofs.Ythnlihpmpmhidaa
open Go Go.Gol
theorem E22 : ElemInfo Try.prog 22 44 1 24 := ElemInfo.mk' (.slice none 0 0) (by kernel_rfl) (by kernel_rfl) rfl
theorem E23 : ElemInfo Try.prog 23 3 1 8 := ElemInfo.mk' (.int .i64 0) (by kernel_rfl) (by kernel_rfl) rfl
theorem E44 : ElemInfo Try.prog 44 5 1 1 := ElemInfo.mk' (.int .u8 0) (by kernel_rfl) (by kernel_rfl) rfl
noncomputable abbrev C21 : Code := Try.f21.body.getD .skip
noncomputable abbrev C9 : Code := Try.f9.body.getD .skip
noncomputable abbrev C22 : Code := Try.f22.body.getD .skip
noncomputable abbrev C23 : Code := Try.f23.body.getD .skip
noncomputable abbrev C26 : Code := Try.f26.body.getD .skip
noncomputable abbrev C27 : Code := Try.f27.body.getD .skip
noncomputable abbrev C25 : Code := Try.f25.body.getD .skip
noncomputable abbrev C24 : Code := Try.f24.body.getD .skip
noncomputable abbrev C10 : Code := Try.f10.body.getD .skip
noncomputable abbrev C14 : Code := Try.f14.body.getD .skip
noncomputable abbrev C16 : Code := Try.f16.body.getD .skip
noncomputable abbrev C15 : Code := Try.f15.body.getD .skip
noncomputable abbrev C19 : Code := Try.f19.body.getD .skip
noncomputable abbrev C7 : Code := Try.f7.body.getD .skip
noncomputable abbrev C8 : Code := Try.f8.body.getD .skip
noncomputable abbrev C11 : Code := Try.f11.body.getD .skip
noncomputable abbrev C12 : Code := Try.f12.body.getD .skip
noncomputable abbrev C13 : Code := Try.f13.body.getD .skip
noncomputable abbrev C3 : Code := Try.f3.body.getD .skip
noncomputable abbrev C17 : Code := Try.f17.body.getD .skip
noncomputable abbrev C18 : Code := Try.f18.body.getD .skip
noncomputable abbrev C4 : Code := Try.f4.body.getD .skip
noncomputable abbrev C20 : Code := Try.f20.body.getD .skip
noncomputable abbrev C5 : Code := Try.f5.body.getD .skip
noncomputable abbrev C6 : Code := Try.f6.body.getD .skip
def O46 (b : Nat) (x : (List (List Int)) × (List Int) × Int) : HP := fun H => ∃ a : (Option Addr × Nat) × (Option Addr × Nat), SepL [pts b (.cells #[.slice a.1.1 x.1.length a.1.2, .slice a.2.1 x.2.1.length a.2.2, .int .i64 x.2.2] 46 (0, 0)), orw 44 (Esl 5 (.int .u8)) 1 a.1.1 a.1.2 x.1, osl 3 (r0 (.int .i64)) 1 a.2.1 a.2.2 x.2.1] H
theorem O46.open {w : World} {B : Rf} {cs : List HP} {b : Nat} {x : (List (List Int)) × (List Int) × Int} (h : Sat w B (O46 b x :: cs)) : ∃ (A0 : Option Addr) (c0 : Nat) (A1 : Option Addr) (c1 : Nat), Sat w B ([pts b (.cells #[.slice A0 x.1.length c0, .slice A1 x.2.1.length c1, .int .i64 x.2.2] 46 (0, 0)), orw 44 (Esl 5 (.int .u8)) 1 A0 c0 x.1, osl 3 (r0 (.int .i64)) 1 A1 c1 x.2.1] ++ cs) := by
  obtain ⟨a, h⟩ := Sat.ex h
  exact ⟨a.1.1, a.1.2, a.2.1, a.2.2, Sat.op h⟩
theorem O46.close {w : World} {B : Rf} {cs : List HP} {b : Nat} (x : (List (List Int)) × (List Int) × Int) (A0 : Option Addr) (c0 : Nat) (A1 : Option Addr) (c1 : Nat) (h : Sat w B ([pts b (.cells #[.slice A0 x.1.length c0, .slice A1 x.2.1.length c1, .int .i64 x.2.2] 46 (0, 0)), orw 44 (Esl 5 (.int .u8)) 1 A0 c0 x.1, osl 3 (r0 (.int .i64)) 1 A1 c1 x.2.1] ++ cs)) : Sat w B (O46 b x :: cs) := Sat.mono1 (c := SepL [pts b (.cells #[.slice A0 x.1.length c0, .slice A1 x.2.1.length c1, .int .i64 x.2.2] 46 (0, 0)), orw 44 (Esl 5 (.int .u8)) 1 A0 c0 x.1, osl 3 (r0 (.int .i64)) 1 A1 c1 x.2.1]) (fun H h => ⟨((A0, c0), (A1, c1)), h⟩) (Sat.cl _ h)
theorem P46.open {H : Heap} {v : Value} {o : Option ((List (List Int)) × (List Int) × Int)} (h : Gol.rd H (.ptr 46 (.pair (.slice 44 (.slice 5 (.int .u8))) (.pair (.slice 3 (.int .i64)) (.int .i64)))) [v] o) {y : (List (List Int)) × (List Int) × Int} (e : o = some y) : ∃ (b : Nat) (fr : Nat × Nat) (A0 : Option Addr) (c0 : Nat) (A1 : Option Addr) (c1 : Nat), v = .pointer (some ⟨b, 0, none⟩) ∧ H b = some (.cells #[.slice A0 y.1.length c0, .slice A1 y.2.1.length c1, .int .i64 y.2.2] 46 fr) ∧ rdS (Gol.rd H (.slice 5 (.int .u8))) 1 H A0 c0 y.1 ∧ rdS (r0 (.int .i64)) 1 H A1 c1 y.2.1 := by
  obtain ⟨b, cells, fr, hv, hb, hr⟩ := rd_ptr_some h e
  obtain ⟨_, _, e0, g0, ⟨A0, c0, z0, R0⟩, ⟨_, _, e1, g1, ⟨A1, c1, z1, R1⟩, z2⟩⟩ := hr
  have z0' := z0; replace z0' : _ = ([.slice A0 y.1.length c0] : List Value) := z0'
  have z1' := z1; replace z1' : _ = ([.slice A1 y.2.1.length c1] : List Value) := z1'
  have z2' := z2; replace z2' : _ = ([.int .i64 y.2.2] : List Value) := z2'
  have hc : cells = #[.slice A0 y.1.length c0, .slice A1 y.2.1.length c1, .int .i64 y.2.2] := by apply Array.ext'; rw [e0, z0', e1, z1', z2']; rfl
  subst hc
  exact ⟨b, fr, A0, c0, A1, c1, hv, hb, R0, R1⟩
theorem P46.mk {H : Heap} {b : Nat} {fr : Nat × Nat} {y : (List (List Int)) × (List Int) × Int} {A0 : Option Addr} {c0 : Nat} {A1 : Option Addr} {c1 : Nat} (hb : H b = some (.cells #[.slice A0 y.1.length c0, .slice A1 y.2.1.length c1, .int .i64 y.2.2] 46 fr)) (R0 : rdS (Gol.rd H (.slice 5 (.int .u8))) 1 H A0 c0 y.1) (R1 : rdS (r0 (.int .i64)) 1 H A1 c1 y.2.1) : Gol.rd H (.ptr 46 (.pair (.slice 44 (.slice 5 (.int .u8))) (.pair (.slice 3 (.int .i64)) (.int .i64)))) [.pointer (some ⟨b, 0, none⟩)] (some y) := ⟨b, _, fr, rfl, hb, ⟨[.slice A0 y.1.length c0], [.slice A1 y.2.1.length c1, .int .i64 y.2.2], rfl, rfl, ⟨A0, c0, rfl, R0⟩, ⟨[.slice A1 y.2.1.length c1], [.int .i64 y.2.2], rfl, rfl, ⟨A1, c1, rfl, (rdS.r0up R1)⟩, rfl⟩⟩⟩
theorem O46.rd (b : Nat) (x : (List (List Int)) × (List Int) × Int) (H : Heap) (h : O46 b x H) : Gol.rd H (.ptr 46 (.pair (.slice 44 (.slice 5 (.int .u8))) (.pair (.slice 3 (.int .i64)) (.int .i64)))) [.pointer (some ⟨b, 0, none⟩)] (some x) := by
  obtain ⟨a, h⟩ := h
  exact P46.mk (SepL.blockAt 0 h rfl) (SepL.rdAnyS 1 h rfl (fun _ h => orw.rdS (κ := (.slice 5 (.int .u8))) (Esl.rd (e := 5) (κ := (.int .u8))) h)) (SepL.rdAt 2 h rfl)
/-! ### 21 slices.Clone[[]byte,byte] -/
def slices_Clone.f (l0 : List Int) : Option (List Int) := ((app? 140737488355328 (([] : List Int) : List Int) l0).bind fun y5 => some y5)
def slices_Clone.post (w : World) (r : (List Int)) (v : Value) (w' : World) : Prop := ∃ (A0' : Option Addr) (c0' : Nat), v = (.slice A0' r.length c0' : Value) ∧ Sat w' (rf w) [osl 5 (r0 (.int .u8)) 1 A0' c0' r]
theorem slices_Clone.calls (w0 : World) (A0 : Option Addr) (c0 : Nat) (l0 : List Int) (R0 : rdS (r0 (.int .u8)) 1 (hp w0) A0 c0 l0) (r : (List Int)) (H : slices_Clone.f l0 = some r) :
    Calls Try.prog 21 #[.slice A0 l0.length c0] w0 (fun e w' => ∃ v, e = .returned v ∧ slices_Clone.post w0 r v w') := by
  have hS : Sat w0 (rf w0) [] := Sat.start w0
  unfold slices_Clone.f at H
  refine calls_of_WC (vs := [.slice A0 l0.length c0]) Try.func21 (c := C21) (n := 8) (by kernel_rfl) (by kernel_rfl) (by kernel_rfl) ?_
  refine WC.seq (by kernel_rfl) ?_
  refine WC.reg [0] (by kernel_rfl) (by kernel_rfl) ?_
  refine WR.runk [0] [] [0] (L' := [(0, .slice A0 l0.length c0)]) (w' := w0) (by kernel_rfl) ?_
  refine WR.nil ?_
  refine At.go ?_
  refine WC.seq (by kernel_rfl) ?_
  refine WC.seq (by kernel_rfl) ?_
  refine WC.reg [0, 1] (by kernel_rfl) (by kernel_rfl) ?_
  refine WR.runk [0] [1] [0, 3] (L' := [(0, .slice A0 l0.length c0), (3, .slice A0 l0.length c0)]) (w' := w0) (by kernel_rfl) ?_
  refine WR.st (St.ofP (PSt.eqNil (t := 44) (t2 := 44) (e := 5) (A := A0) (m := l0.length) (c := c0) .eql (by decide) (.tmp 3) (by kernel_rfl) (by kernel_rfl) (by kernel_rfl) (by kernel_rfl) ?_))
  refine WR.runk [] [] [0, 4] (L' := [(0, .slice A0 l0.length c0), (4, .bool A0.isNone)]) (w' := w0) (by kernel_rfl) ?_
  refine WR.nil ?_
  refine At.go ?_
  refine WC.cond (by kernel_rfl) A0.isNone (by kernel_rfl) (by kernel_rfl) (fun hb1 => ?_) (fun hb1 => ?_)
  · have hnl := rdS.isNone (rdS.up R0 hS.sub0) (by simpa using hb1)
    rw [hnl] at H
    refine WC.seq (by kernel_rfl) ?_
    refine WC.reg [0] (by kernel_rfl) (by kernel_rfl) ?_
    refine WR.runk [0] [] [2] (L' := [(2, .slice none 0 0)]) (w' := w0) (by kernel_rfl) ?_
    refine WR.nil ?_
    refine At.go ?_
    refine WC.ret (by kernel_rfl) ?_
    refine At.thenRet ?_
    obtain rfl := Option.some.inj (show some ([] : List Int) = some r from H)
    have hS := hS.addNil (α := Int) 5 (r0 (.int .u8)) 1
    have hS : Sat w0 (rf w0) [osl 5 (r0 (.int .u8)) 1 none 0 ([] : List Int)] := hS.sel [0] (by kernel_rfl)
    exact At.body [.slice none 0 0] (by kernel_rfl) ⟨_, rfl, _, _, rfl, hS⟩
  · refine WC.skip (by kernel_rfl) ?_
    refine At.go ?_
    refine WC.seq (by kernel_rfl) ?_
    refine WC.reg [0, 1, 2, 3] (by kernel_rfl) (by kernel_rfl) ?_
    refine WR.runk [] [0, 1, 2, 3] [0] (L' := [(0, .slice A0 l0.length c0)]) (w' := w0) (by kernel_rfl) ?_
    refine WR.st (St.box hS (by kernel_rfl) (.cells #[] 5) (fun b2 => .slice (some ⟨b2, 0, none⟩) 0 0) (fun _ => by kernel_rfl) (fun b2 w3 hS => ?_))
    refine WR.runk [1] [2, 3] [5, 6] (L' := [(5, .slice (some ⟨b2, 0, none⟩) 0 0), (6, .slice A0 l0.length c0)]) (w' := w3) (by kernel_rfl) ?_
    have hS : Sat w3 (rf w0) [osl 5 (r0 (.int .u8)) 1 (some ⟨b2, 0, none⟩) (([] : List Int) : List Int).length (([] : List Int) : List Int)] := Sat.toOsl' (r0 (.int .u8)) 1 (([] : List Int) : List Int) hS rfl (rdL.nil _ _)
    obtain ⟨y5, e4, H⟩ := bind_ex H
    refine WR.st (St.append' (.tmp 5) (.tmp 6) (by kernel_rfl) (by kernel_rfl) E44 (r0_one _) hS (by kernel_rfl) (by kernel_rfl) (rdS.up R0 hS.sub0) 140737488355328 (by kernel_rfl) (by kernel_rfl) e4 (fun A6 c7 w8 hS => ?_))
    refine WR.runk [3] [] [2] (L' := [(2, .slice A6 y5.length c7)]) (w' := w8) (by kernel_rfl) ?_
    refine WR.nil ?_
    refine At.go ?_
    refine WC.ret (by kernel_rfl) ?_
    obtain rfl := Option.some.inj H
    have hS : Sat w8 (rf w0) [osl 5 (r0 (.int .u8)) 1 A6 c7 y5] := hS.sel [0] (by kernel_rfl)
    exact At.body [.slice A6 y5.length c7] (by kernel_rfl) ⟨_, rfl, _, _, rfl, hS⟩
/-! ### 9 colophon/text.New -/
def text_New.l1 (l0 : List (List Int)) : Nat → Int → ((List (List Int)) × (List Int) × Int) → Option (Sum (Int × ((List (List Int)) × (List Int) × Int)) ((List (List Int)) × (List Int) × Int))
  | 0, _, _ => none
  | k + 1, x14_l1, q4_l1 => (if decide (x14_l1 < (l0.length : Int)) then ((at? l0 x14_l1).bind fun v6 => (if decide ((v6.length : Int) > wi (65536 - (wi (q4_l1.2.2 - (q4_l1.1.length : Int))))) then some (.inl (80, q4_l1)) else ((app? 17592186044416 q4_l1.2.1 ([q4_l1.2.2] : List Int)).bind fun y23 => ((slices_Clone.f v6).bind fun r30 => ((app? 5864062014805 q4_l1.1 [r30]).bind fun y44 => text_New.l1 l0 k (wi (x14_l1 + 1)) (y44, y23, wi (q4_l1.2.2 + (wi ((v6.length : Int) + 1))))))))) else some (.inr q4_l1))
def text_New.f (l0 : List (List Int)) : Option ((Option ((List (List Int)) × (List Int) × Int)) × Int) := (if decide ((l0.length : Int) > 256) then some (none, 80) else ((text_New.l1 l0 FU 0 (([] : List (List Int)), ([] : List Int), 0)).bind fun o55 => (match o55 with | .inl o57 => some (none, o57.1) | .inr o61 => some (some o61, 0))))
def text_New.post (w : World) (r : (Option ((List (List Int)) × (List Int) × Int)) × Int) (v : Value) (w' : World) : Prop := ∃ (v0 : Value), v = .tuple #[v0, .int .i64 r.2] ∧ Sat w' (rf w) [optP O46 v0 r.1]
theorem text_New.l1_ok {Q} (w0 : World) (A0 : Option Addr) (c0 : Nat) (l0 : List (List Int)) (b2 : Nat) (R0 : rdS (rd (hp w0) (.slice 5 (.int .u8))) 1 (hp w0) A0 c0 l0) (out : Sum (Int × ((List (List Int)) × (List Int) × Int)) ((List (List Int)) × (List Int) × Int)) (hn0 : ∀ (o0 : Int × ((List (List Int)) × (List Int) × Int)) (w : World), out = (.inl o0) → Sat w (rf w0) [O46 b2 o0.2] → At Q .ret 68 [(2, .pointer none), (3, .int .i64 o0.1)] w) (hn1 : ∀ (o1 : ((List (List Int)) × (List Int) × Int)) (w : World), out = (.inr o1) → Sat w (rf w0) [O46 b2 o1] → At Q (.exit 0) 68 [(4, .pointer (some ⟨b2, 0, none⟩))] w) :
    ∀ (k : Nat) (x14_l1 : Int) (q4_l1 : (List (List Int)) × (List Int) × Int) (w : World), Sat w (rf w0) [O46 b2 q4_l1] → text_New.l1 l0 k x14_l1 q4_l1 = some out → WL Try.prog (cbody (cbody (cr (cl (cr (cr (cr C9))))))) Q 68 [(4, .pointer (some ⟨b2, 0, none⟩)), (12, .slice A0 l0.length c0), (13, .int .i64 (l0.length : Int)), (14, .int .i64 x14_l1)] w := by
  intro k
  induction k with
  | zero => intro x14_l1 q4_l1 w hS H; exact absurd (show none = some out from H) (by simp)
  | succ k ih =>
    intro x14_l1 q4_l1 w hS H
    unfold text_New.l1 at H
    refine WL.round ?_
    refine WC.seq (by kernel_rfl) ?_
    refine WC.reg [0] (by kernel_rfl) (by kernel_rfl) ?_
    refine WR.runk [0] [] [4, 12, 13, 14, 15] (L' := [(4, .pointer (some ⟨b2, 0, none⟩)), (12, .slice A0 l0.length c0), (13, .int .i64 (l0.length : Int)), (14, .int .i64 x14_l1), (15, .bool (decide (x14_l1 < (l0.length : Int))))]) (w' := w) (by kernel_rfl) ?_
    refine WR.nil ?_
    refine At.go ?_
    refine WC.seq (by kernel_rfl) ?_
    refine WC.cond (by kernel_rfl) (decide (x14_l1 < (l0.length : Int))) (by kernel_rfl) (by kernel_rfl) (fun hb5 => ?_) (fun hb5 => ?_)
    · replace H := ite_t H hb5
      refine WC.skip (by kernel_rfl) ?_
      refine At.go ?_
      refine WC.seq (by kernel_rfl) ?_
      refine WC.block (by kernel_rfl) ?_
      refine WC.seq (by kernel_rfl) ?_
      refine WC.reg [0, 1, 2] (by kernel_rfl) (by kernel_rfl) ?_
      refine WR.runk [] [0, 1, 2] [4, 12, 13, 14] (L' := [(4, .pointer (some ⟨b2, 0, none⟩)), (12, .slice A0 l0.length c0), (13, .int .i64 (l0.length : Int)), (14, .int .i64 x14_l1)]) (w' := w) (by kernel_rfl) ?_
      obtain ⟨v6, e7, H⟩ := bind_ex H
      refine WR.st (St.ofP (PSt.idx (k := .i64) (.tmp 12) (.tmp 14) (by kernel_rfl) (by kernel_rfl) E22 (by kernel_rfl) (by kernel_rfl) (rdS.up R0 hS.sub0) e7 ?_))
      refine WR.runk [] [1, 2] [4, 12, 13, 14, 16] (L' := [(4, .pointer (some ⟨b2, 0, none⟩)), (12, .slice A0 l0.length c0), (13, .int .i64 (l0.length : Int)), (14, .int .i64 x14_l1), (16, .pointer (some (adr A0 x14_l1.toNat 1)))]) (w' := w) (by kernel_rfl) ?_
      refine WR.st (St.ofR (RSt.loadSl (t := 44) (.tmp 16) (by kernel_rfl) (by kernel_rfl) (by kernel_rfl) (by kernel_rfl) R0 e7 hS.sub0 (fun A8 c9 R10 => ?_)))
      replace R10 : rdS (r0 (.int .u8)) 1 (hp w0) A8 c9 v6 := R10
      refine WR.runk [2] [] [4, 6, 12, 13, 14] (L' := [(4, .pointer (some ⟨b2, 0, none⟩)), (6, .slice A8 v6.length c9), (12, .slice A0 l0.length c0), (13, .int .i64 (l0.length : Int)), (14, .int .i64 x14_l1)]) (w' := w) (by kernel_rfl) ?_
      refine WR.nil ?_
      refine At.go ?_
      refine WC.seq (by kernel_rfl) ?_
      refine WC.seq (by kernel_rfl) ?_
      refine WC.drawn (by kernel_rfl) (by kernel_rfl) 14 (by kernel_rfl) (fun w11 hw12 => ?_)
      have hS := hS.heap hw12.1 hw12.2
      refine WD.weaken [4, 6, 12, 13, 14] (L' := [(4, .pointer (some ⟨b2, 0, none⟩)), (6, .slice A8 v6.length c9), (12, .slice A0 l0.length c0), (13, .int .i64 (l0.length : Int)), (14, .int .i64 x14_l1)]) (by kernel_rfl) ?_
      refine WD.pure (i := 0) (v := .slice A8 v6.length c9) (by kernel_rfl) (by kernel_rfl) (fun _ => by kernel_rfl) ?_
      refine WD.weaken [4, 6, 12, 13, 14, 18] (L' := [(4, .pointer (some ⟨b2, 0, none⟩)), (6, .slice A8 v6.length c9), (12, .slice A0 l0.length c0), (13, .int .i64 (l0.length : Int)), (14, .int .i64 x14_l1), (18, .slice A8 v6.length c9)]) (by kernel_rfl) ?_
      refine WD.pure (i := 1) (v := .int .i64 (v6.length : Int)) (by kernel_rfl) (by kernel_rfl) (fun _ => by kernel_rfl) ?_
      refine WD.weaken [4, 6, 12, 13, 14, 19] (L' := [(4, .pointer (some ⟨b2, 0, none⟩)), (6, .slice A8 v6.length c9), (12, .slice A0 l0.length c0), (13, .int .i64 (l0.length : Int)), (14, .int .i64 x14_l1), (19, .int .i64 (v6.length : Int))]) (by kernel_rfl) ?_
      refine WD.pure (i := 2) (v := .pointer (some ⟨b2, 0, none⟩)) (by kernel_rfl) (by kernel_rfl) (fun _ => by kernel_rfl) ?_
      refine WD.weaken [4, 6, 12, 13, 14, 19, 20] (L' := [(4, .pointer (some ⟨b2, 0, none⟩)), (6, .slice A8 v6.length c9), (12, .slice A0 l0.length c0), (13, .int .i64 (l0.length : Int)), (14, .int .i64 x14_l1), (19, .int .i64 (v6.length : Int)), (20, .pointer (some ⟨b2, 0, none⟩))]) (by kernel_rfl) ?_
      refine WD.pure (i := 3) (v := .pointer (some ⟨b2, 0, none⟩)) (by kernel_rfl) (by kernel_rfl) (fun _ => by kernel_rfl) ?_
      refine WD.weaken [4, 6, 12, 13, 14, 19, 21] (L' := [(4, .pointer (some ⟨b2, 0, none⟩)), (6, .slice A8 v6.length c9), (12, .slice A0 l0.length c0), (13, .int .i64 (l0.length : Int)), (14, .int .i64 x14_l1), (19, .int .i64 (v6.length : Int)), (21, .pointer (some ⟨b2, 0, none⟩))]) (by kernel_rfl) ?_
      refine WD.pure (i := 4) (v := .pointer (some ⟨b2, 2, none⟩)) (by kernel_rfl) (by kernel_rfl) (fun _ => by kernel_rfl) ?_
      refine WD.weaken [4, 6, 12, 13, 14, 19, 22] (L' := [(4, .pointer (some ⟨b2, 0, none⟩)), (6, .slice A8 v6.length c9), (12, .slice A0 l0.length c0), (13, .int .i64 (l0.length : Int)), (14, .int .i64 x14_l1), (19, .int .i64 (v6.length : Int)), (22, .pointer (some ⟨b2, 2, none⟩))]) (by kernel_rfl) ?_
      obtain ⟨A13, c14, A15, c16, hS⟩ := O46.open hS
      have hS : Sat w11 (rf w0) [pts b2 (.cells #[.slice A13 q4_l1.1.length c14, .slice A15 q4_l1.2.1.length c16, .int .i64 q4_l1.2.2] 46 (0, 0)), orw 44 (Esl 5 (.int .u8)) 1 A13 c14 q4_l1.1, osl 3 (r0 (.int .i64)) 1 A15 c16 q4_l1.2.1] := hS
      refine WD.ofR (i := 5) (by kernel_rfl) (RSt.loadObj (t := 3) (k := 2) (v := .int .i64 q4_l1.2.2) (.tmp 22) (by kernel_rfl) (by kernel_rfl) (by kernel_rfl) 0 hS rfl (by kernel_rfl) rfl ?_)
      refine WD.weaken [4, 6, 12, 13, 14, 19, 23] (L' := [(4, .pointer (some ⟨b2, 0, none⟩)), (6, .slice A8 v6.length c9), (12, .slice A0 l0.length c0), (13, .int .i64 (l0.length : Int)), (14, .int .i64 x14_l1), (19, .int .i64 (v6.length : Int)), (23, .int .i64 q4_l1.2.2)]) (by kernel_rfl) ?_
      refine WD.pure (i := 6) (v := .pointer (some ⟨b2, 0, none⟩)) (by kernel_rfl) (by kernel_rfl) (fun _ => by kernel_rfl) ?_
      refine WD.weaken [4, 6, 12, 13, 14, 19, 23, 24] (L' := [(4, .pointer (some ⟨b2, 0, none⟩)), (6, .slice A8 v6.length c9), (12, .slice A0 l0.length c0), (13, .int .i64 (l0.length : Int)), (14, .int .i64 x14_l1), (19, .int .i64 (v6.length : Int)), (23, .int .i64 q4_l1.2.2), (24, .pointer (some ⟨b2, 0, none⟩))]) (by kernel_rfl) ?_
      refine WD.pure (i := 7) (v := .pointer (some ⟨b2, 0, none⟩)) (by kernel_rfl) (by kernel_rfl) (fun _ => by kernel_rfl) ?_
      refine WD.weaken [4, 6, 12, 13, 14, 19, 23, 25] (L' := [(4, .pointer (some ⟨b2, 0, none⟩)), (6, .slice A8 v6.length c9), (12, .slice A0 l0.length c0), (13, .int .i64 (l0.length : Int)), (14, .int .i64 x14_l1), (19, .int .i64 (v6.length : Int)), (23, .int .i64 q4_l1.2.2), (25, .pointer (some ⟨b2, 0, none⟩))]) (by kernel_rfl) ?_
      refine WD.pure (i := 8) (v := .pointer (some ⟨b2, 0, none⟩)) (by kernel_rfl) (by kernel_rfl) (fun _ => by kernel_rfl) ?_
      refine WD.weaken [4, 6, 12, 13, 14, 19, 23, 26] (L' := [(4, .pointer (some ⟨b2, 0, none⟩)), (6, .slice A8 v6.length c9), (12, .slice A0 l0.length c0), (13, .int .i64 (l0.length : Int)), (14, .int .i64 x14_l1), (19, .int .i64 (v6.length : Int)), (23, .int .i64 q4_l1.2.2), (26, .pointer (some ⟨b2, 0, none⟩))]) (by kernel_rfl) ?_
      refine WD.ofR (i := 9) (by kernel_rfl) (RSt.loadObj (t := 22) (k := 0) (v := .slice A13 q4_l1.1.length c14) (.tmp 26) (by kernel_rfl) (by kernel_rfl) (by kernel_rfl) 0 hS rfl (by kernel_rfl) rfl ?_)
      refine WD.weaken [4, 6, 12, 13, 14, 19, 23, 27] (L' := [(4, .pointer (some ⟨b2, 0, none⟩)), (6, .slice A8 v6.length c9), (12, .slice A0 l0.length c0), (13, .int .i64 (l0.length : Int)), (14, .int .i64 x14_l1), (19, .int .i64 (v6.length : Int)), (23, .int .i64 q4_l1.2.2), (27, .slice A13 q4_l1.1.length c14)]) (by kernel_rfl) ?_
      refine WD.pure (i := 10) (v := .int .i64 (q4_l1.1.length : Int)) (by kernel_rfl) (by kernel_rfl) (fun _ => by kernel_rfl) ?_
      refine WD.weaken [4, 6, 12, 13, 14, 19, 23, 28] (L' := [(4, .pointer (some ⟨b2, 0, none⟩)), (6, .slice A8 v6.length c9), (12, .slice A0 l0.length c0), (13, .int .i64 (l0.length : Int)), (14, .int .i64 x14_l1), (19, .int .i64 (v6.length : Int)), (23, .int .i64 q4_l1.2.2), (28, .int .i64 (q4_l1.1.length : Int))]) (by kernel_rfl) ?_
      refine WD.pure (i := 11) (v := .int .i64 (wi (q4_l1.2.2 - (q4_l1.1.length : Int)))) (by kernel_rfl) (by kernel_rfl) (fun _ => by kernel_rfl) ?_
      refine WD.weaken [4, 6, 12, 13, 14, 19, 29] (L' := [(4, .pointer (some ⟨b2, 0, none⟩)), (6, .slice A8 v6.length c9), (12, .slice A0 l0.length c0), (13, .int .i64 (l0.length : Int)), (14, .int .i64 x14_l1), (19, .int .i64 (v6.length : Int)), (29, .int .i64 (wi (q4_l1.2.2 - (q4_l1.1.length : Int))))]) (by kernel_rfl) ?_
      refine WD.pure (i := 12) (v := .int .i64 (wi (65536 - (wi (q4_l1.2.2 - (q4_l1.1.length : Int)))))) (by kernel_rfl) (by kernel_rfl) (fun _ => by kernel_rfl) ?_
      refine WD.weaken [4, 6, 12, 13, 14, 19, 30] (L' := [(4, .pointer (some ⟨b2, 0, none⟩)), (6, .slice A8 v6.length c9), (12, .slice A0 l0.length c0), (13, .int .i64 (l0.length : Int)), (14, .int .i64 x14_l1), (19, .int .i64 (v6.length : Int)), (30, .int .i64 (wi (65536 - (wi (q4_l1.2.2 - (q4_l1.1.length : Int))))))]) (by kernel_rfl) ?_
      refine WD.pure (i := 13) (v := .bool (decide ((v6.length : Int) > wi (65536 - (wi (q4_l1.2.2 - (q4_l1.1.length : Int))))))) (by kernel_rfl) (by kernel_rfl) (fun _ => by kernel_rfl) ?_
      refine WD.weaken [4, 6, 12, 13, 14, 31] (L' := [(4, .pointer (some ⟨b2, 0, none⟩)), (6, .slice A8 v6.length c9), (12, .slice A0 l0.length c0), (13, .int .i64 (l0.length : Int)), (14, .int .i64 x14_l1), (31, .bool (decide ((v6.length : Int) > wi (65536 - (wi (q4_l1.2.2 - (q4_l1.1.length : Int)))))))]) (by kernel_rfl) ?_
      refine WD.nil (by kernel_rfl) ?_
      refine At.go ?_
      refine WC.cond (by kernel_rfl) (decide ((v6.length : Int) > wi (65536 - (wi (q4_l1.2.2 - (q4_l1.1.length : Int)))))) (by kernel_rfl) (by kernel_rfl) (fun hb17 => ?_) (fun hb17 => ?_)
      · replace H := ite_t H hb17
        refine WC.seq (by kernel_rfl) ?_
        refine WC.reg [0, 1] (by kernel_rfl) (by kernel_rfl) ?_
        refine WR.runk [0, 1] [] [2, 3] (L' := [(2, .pointer none), (3, .int .i64 80)]) (w' := w11) (by kernel_rfl) ?_
        refine WR.nil ?_
        refine At.go ?_
        refine WC.ret (by kernel_rfl) ?_
        refine At.thenRet ?_
        refine At.blockRet ?_
        refine At.thenRet ?_
        refine At.thenRet ?_
        obtain rfl := Option.some.inj H
        have hS : Sat w11 (rf w0) [pts b2 (.cells #[.slice A13 q4_l1.1.length c14, .slice A15 q4_l1.2.1.length c16, .int .i64 q4_l1.2.2] 46 (0, 0)), orw 44 (Esl 5 (.int .u8)) 1 A13 c14 q4_l1.1, osl 3 (r0 (.int .i64)) 1 A15 c16 q4_l1.2.1] := hS.sel [0, 1, 2] (by kernel_rfl)
        have hS : Sat w11 (rf w0) [O46 b2 q4_l1] := O46.close q4_l1 A13 c14 A15 c16 hS
        have hS : Sat w11 (rf w0) [O46 b2 q4_l1] := hS.sel [0] (by kernel_rfl)
        refine At.weaken [2, 3] (L' := [(2, .pointer none), (3, .int .i64 80)]) (by kernel_rfl) ?_
        exact hn0 (80, q4_l1) _ rfl hS
      · replace H := ite_f H hb17
        refine WC.skip (by kernel_rfl) ?_
        refine At.go ?_
        refine WC.seq (by kernel_rfl) ?_
        refine WC.drawn (by kernel_rfl) (by kernel_rfl) 14 (by kernel_rfl) (fun w18 hw19 => ?_)
        have hS := hS.heap hw19.1 hw19.2
        refine WD.weaken [4, 6, 12, 13, 14] (L' := [(4, .pointer (some ⟨b2, 0, none⟩)), (6, .slice A8 v6.length c9), (12, .slice A0 l0.length c0), (13, .int .i64 (l0.length : Int)), (14, .int .i64 x14_l1)]) (by kernel_rfl) ?_
        refine WD.pure (i := 0) (v := .pointer (some ⟨b2, 0, none⟩)) (by kernel_rfl) (by kernel_rfl) (fun _ => by kernel_rfl) ?_
        refine WD.weaken [4, 6, 12, 13, 14, 32] (L' := [(4, .pointer (some ⟨b2, 0, none⟩)), (6, .slice A8 v6.length c9), (12, .slice A0 l0.length c0), (13, .int .i64 (l0.length : Int)), (14, .int .i64 x14_l1), (32, .pointer (some ⟨b2, 0, none⟩))]) (by kernel_rfl) ?_
        refine WD.pure (i := 1) (v := .pointer (some ⟨b2, 0, none⟩)) (by kernel_rfl) (by kernel_rfl) (fun _ => by kernel_rfl) ?_
        refine WD.weaken [4, 6, 12, 13, 14, 32, 33] (L' := [(4, .pointer (some ⟨b2, 0, none⟩)), (6, .slice A8 v6.length c9), (12, .slice A0 l0.length c0), (13, .int .i64 (l0.length : Int)), (14, .int .i64 x14_l1), (32, .pointer (some ⟨b2, 0, none⟩)), (33, .pointer (some ⟨b2, 0, none⟩))]) (by kernel_rfl) ?_
        refine WD.pure (i := 2) (v := .pointer (some ⟨b2, 0, none⟩)) (by kernel_rfl) (by kernel_rfl) (fun _ => by kernel_rfl) ?_
        refine WD.weaken [4, 6, 12, 13, 14, 32, 34] (L' := [(4, .pointer (some ⟨b2, 0, none⟩)), (6, .slice A8 v6.length c9), (12, .slice A0 l0.length c0), (13, .int .i64 (l0.length : Int)), (14, .int .i64 x14_l1), (32, .pointer (some ⟨b2, 0, none⟩)), (34, .pointer (some ⟨b2, 0, none⟩))]) (by kernel_rfl) ?_
        refine WD.pure (i := 3) (v := .pointer (some ⟨b2, 1, none⟩)) (by kernel_rfl) (by kernel_rfl) (fun _ => by kernel_rfl) ?_
        refine WD.weaken [4, 6, 12, 13, 14, 32, 35] (L' := [(4, .pointer (some ⟨b2, 0, none⟩)), (6, .slice A8 v6.length c9), (12, .slice A0 l0.length c0), (13, .int .i64 (l0.length : Int)), (14, .int .i64 x14_l1), (32, .pointer (some ⟨b2, 0, none⟩)), (35, .pointer (some ⟨b2, 1, none⟩))]) (by kernel_rfl) ?_
        refine WD.ofR (i := 4) (by kernel_rfl) (RSt.loadObj (t := 23) (k := 1) (v := .slice A15 q4_l1.2.1.length c16) (.tmp 35) (by kernel_rfl) (by kernel_rfl) (by kernel_rfl) 0 hS rfl (by kernel_rfl) rfl ?_)
        refine WD.weaken [4, 6, 12, 13, 14, 32, 36] (L' := [(4, .pointer (some ⟨b2, 0, none⟩)), (6, .slice A8 v6.length c9), (12, .slice A0 l0.length c0), (13, .int .i64 (l0.length : Int)), (14, .int .i64 x14_l1), (32, .pointer (some ⟨b2, 0, none⟩)), (36, .slice A15 q4_l1.2.1.length c16)]) (by kernel_rfl) ?_
        refine WD.pure (i := 5) (v := .pointer (some ⟨b2, 0, none⟩)) (by kernel_rfl) (by kernel_rfl) (fun _ => by kernel_rfl) ?_
        refine WD.weaken [4, 6, 12, 13, 14, 32, 36, 37] (L' := [(4, .pointer (some ⟨b2, 0, none⟩)), (6, .slice A8 v6.length c9), (12, .slice A0 l0.length c0), (13, .int .i64 (l0.length : Int)), (14, .int .i64 x14_l1), (32, .pointer (some ⟨b2, 0, none⟩)), (36, .slice A15 q4_l1.2.1.length c16), (37, .pointer (some ⟨b2, 0, none⟩))]) (by kernel_rfl) ?_
        refine WD.pure (i := 6) (v := .pointer (some ⟨b2, 0, none⟩)) (by kernel_rfl) (by kernel_rfl) (fun _ => by kernel_rfl) ?_
        refine WD.weaken [4, 6, 12, 13, 14, 32, 36, 38] (L' := [(4, .pointer (some ⟨b2, 0, none⟩)), (6, .slice A8 v6.length c9), (12, .slice A0 l0.length c0), (13, .int .i64 (l0.length : Int)), (14, .int .i64 x14_l1), (32, .pointer (some ⟨b2, 0, none⟩)), (36, .slice A15 q4_l1.2.1.length c16), (38, .pointer (some ⟨b2, 0, none⟩))]) (by kernel_rfl) ?_
        refine WD.pure (i := 7) (v := .pointer (some ⟨b2, 2, none⟩)) (by kernel_rfl) (by kernel_rfl) (fun _ => by kernel_rfl) ?_
        refine WD.weaken [4, 6, 12, 13, 14, 32, 36, 39] (L' := [(4, .pointer (some ⟨b2, 0, none⟩)), (6, .slice A8 v6.length c9), (12, .slice A0 l0.length c0), (13, .int .i64 (l0.length : Int)), (14, .int .i64 x14_l1), (32, .pointer (some ⟨b2, 0, none⟩)), (36, .slice A15 q4_l1.2.1.length c16), (39, .pointer (some ⟨b2, 2, none⟩))]) (by kernel_rfl) ?_
        refine WD.ofR (i := 8) (by kernel_rfl) (RSt.loadObj (t := 3) (k := 2) (v := .int .i64 q4_l1.2.2) (.tmp 39) (by kernel_rfl) (by kernel_rfl) (by kernel_rfl) 0 hS rfl (by kernel_rfl) rfl ?_)
        refine WD.weaken [4, 6, 12, 13, 14, 32, 36, 40] (L' := [(4, .pointer (some ⟨b2, 0, none⟩)), (6, .slice A8 v6.length c9), (12, .slice A0 l0.length c0), (13, .int .i64 (l0.length : Int)), (14, .int .i64 x14_l1), (32, .pointer (some ⟨b2, 0, none⟩)), (36, .slice A15 q4_l1.2.1.length c16), (40, .int .i64 q4_l1.2.2)]) (by kernel_rfl) ?_
        refine WD.act (i := 9) (by kernel_rfl) (St.box hS (by kernel_rfl) (.cells #[.int .i64 q4_l1.2.2] 3) (fun b20 => .slice (some ⟨b20, 0, none⟩) 1 1) (fun _ => by kernel_rfl) (fun b20 w21 hS => ?_))
        refine ⟨(asked.anc (by kernel_rfl) (asked.cons (RSt.run (n := 68) (RSt.loadObj (t := 23) (k := 1) (v := .slice A15 q4_l1.2.1.length c16) (.tmp 35) (by kernel_rfl) (by kernel_rfl) (by kernel_rfl) 1 hS rfl (by kernel_rfl) rfl rfl)) (asked.nil _ _))), ?_⟩
        refine WD.weaken [4, 6, 12, 13, 14, 32, 36, 41] (L' := [(4, .pointer (some ⟨b2, 0, none⟩)), (6, .slice A8 v6.length c9), (12, .slice A0 l0.length c0), (13, .int .i64 (l0.length : Int)), (14, .int .i64 x14_l1), (32, .pointer (some ⟨b2, 0, none⟩)), (36, .slice A15 q4_l1.2.1.length c16), (41, .slice (some ⟨b20, 0, none⟩) 1 1)]) (by kernel_rfl) ?_
        have hS : Sat w21 (rf w0) [osl 3 (r0 (.int .i64)) 1 A15 c16 q4_l1.2.1, pts b20 (.cells #[.int .i64 q4_l1.2.2] 3 (0, 0)), pts b2 (.cells #[.slice A13 q4_l1.1.length c14, .slice A15 q4_l1.2.1.length c16, .int .i64 q4_l1.2.2] 46 (0, 0)), orw 44 (Esl 5 (.int .u8)) 1 A13 c14 q4_l1.1] := hS.sel [3, 0, 1, 2] (by kernel_rfl)
        obtain ⟨y23, e22, H⟩ := bind_ex H
        refine WD.act (i := 10) (by kernel_rfl) (St.append' (.tmp 36) (.tmp 41) (by kernel_rfl) (by kernel_rfl) E23 (r0_one _) hS (by kernel_rfl) (by kernel_rfl) (Sat.ptsAt 1 (r0 (.int .i64)) 1 ([q4_l1.2.2] : List Int) hS rfl rfl (rdL.cons1 rfl (rdL.nil _ _))) 17592186044416 (by kernel_rfl) (by kernel_rfl) e22 (fun A24 c25 w26 hS => ?_))
        refine ⟨(asked.anc (by kernel_rfl) (asked.anc (by kernel_rfl) (asked.nil _ _))), ?_⟩
        refine WD.weaken [4, 6, 12, 13, 14, 32, 42] (L' := [(4, .pointer (some ⟨b2, 0, none⟩)), (6, .slice A8 v6.length c9), (12, .slice A0 l0.length c0), (13, .int .i64 (l0.length : Int)), (14, .int .i64 x14_l1), (32, .pointer (some ⟨b2, 0, none⟩)), (42, .slice A24 y23.length c25)]) (by kernel_rfl) ?_
        refine WD.pure (i := 11) (v := .pointer (some ⟨b2, 0, none⟩)) (by kernel_rfl) (by kernel_rfl) (fun _ => by kernel_rfl) ?_
        refine WD.weaken [4, 6, 12, 13, 14, 42, 43] (L' := [(4, .pointer (some ⟨b2, 0, none⟩)), (6, .slice A8 v6.length c9), (12, .slice A0 l0.length c0), (13, .int .i64 (l0.length : Int)), (14, .int .i64 x14_l1), (42, .slice A24 y23.length c25), (43, .pointer (some ⟨b2, 0, none⟩))]) (by kernel_rfl) ?_
        refine WD.pure (i := 12) (v := .pointer (some ⟨b2, 1, none⟩)) (by kernel_rfl) (by kernel_rfl) (fun _ => by kernel_rfl) ?_
        refine WD.weaken [4, 6, 12, 13, 14, 42, 44] (L' := [(4, .pointer (some ⟨b2, 0, none⟩)), (6, .slice A8 v6.length c9), (12, .slice A0 l0.length c0), (13, .int .i64 (l0.length : Int)), (14, .int .i64 x14_l1), (42, .slice A24 y23.length c25), (44, .pointer (some ⟨b2, 1, none⟩))]) (by kernel_rfl) ?_
        have hS : Sat w26 (rf w0) [pts b2 (.cells #[.slice A13 q4_l1.1.length c14, .slice A15 q4_l1.2.1.length c16, .int .i64 q4_l1.2.2] 46 (0, 0)), osl 3 (r0 (.int .i64)) 1 A24 c25 y23, pts b20 (.cells #[.int .i64 q4_l1.2.2] 3 (0, 0)), orw 44 (Esl 5 (.int .u8)) 1 A13 c14 q4_l1.1] := hS.sel [2, 0, 1, 3] (by kernel_rfl)
        refine WD.act (i := 13) (by kernel_rfl) (St.storeObj (t := 23) (k := 1) (cur' := #[.slice A13 q4_l1.1.length c14, .slice A24 y23.length c25, .int .i64 q4_l1.2.2]) (.tmp 44) (.tmp 42) (by kernel_rfl) (by kernel_rfl) (by kernel_rfl) hS (by kernel_rfl) (by kernel_rfl) (by kernel_rfl) rfl rfl (fun w27 hS => ?_))
        refine ⟨(asked.anc (by kernel_rfl) (asked.anc (by kernel_rfl) (asked.nil _ _))), ?_⟩
        refine WD.weaken [4, 6, 12, 13, 14] (L' := [(4, .pointer (some ⟨b2, 0, none⟩)), (6, .slice A8 v6.length c9), (12, .slice A0 l0.length c0), (13, .int .i64 (l0.length : Int)), (14, .int .i64 x14_l1)]) (by kernel_rfl) ?_
        refine WD.nil (by kernel_rfl) ?_
        refine At.go ?_
        refine WC.seq (by kernel_rfl) ?_
        refine WC.drawn (by kernel_rfl) (by kernel_rfl) 12 (by kernel_rfl) (fun w28 hw29 => ?_)
        have hS := hS.heap hw29.1 hw29.2
        refine WD.weaken [4, 6, 12, 13, 14] (L' := [(4, .pointer (some ⟨b2, 0, none⟩)), (6, .slice A8 v6.length c9), (12, .slice A0 l0.length c0), (13, .int .i64 (l0.length : Int)), (14, .int .i64 x14_l1)]) (by kernel_rfl) ?_
        refine WD.pure (i := 0) (v := .pointer (some ⟨b2, 0, none⟩)) (by kernel_rfl) (by kernel_rfl) (fun _ => by kernel_rfl) ?_
        refine WD.weaken [4, 6, 12, 13, 14, 45] (L' := [(4, .pointer (some ⟨b2, 0, none⟩)), (6, .slice A8 v6.length c9), (12, .slice A0 l0.length c0), (13, .int .i64 (l0.length : Int)), (14, .int .i64 x14_l1), (45, .pointer (some ⟨b2, 0, none⟩))]) (by kernel_rfl) ?_
        refine WD.pure (i := 1) (v := .pointer (some ⟨b2, 0, none⟩)) (by kernel_rfl) (by kernel_rfl) (fun _ => by kernel_rfl) ?_
        refine WD.weaken [4, 6, 12, 13, 14, 45, 46] (L' := [(4, .pointer (some ⟨b2, 0, none⟩)), (6, .slice A8 v6.length c9), (12, .slice A0 l0.length c0), (13, .int .i64 (l0.length : Int)), (14, .int .i64 x14_l1), (45, .pointer (some ⟨b2, 0, none⟩)), (46, .pointer (some ⟨b2, 0, none⟩))]) (by kernel_rfl) ?_
        refine WD.pure (i := 2) (v := .pointer (some ⟨b2, 0, none⟩)) (by kernel_rfl) (by kernel_rfl) (fun _ => by kernel_rfl) ?_
        refine WD.weaken [4, 6, 12, 13, 14, 45, 47] (L' := [(4, .pointer (some ⟨b2, 0, none⟩)), (6, .slice A8 v6.length c9), (12, .slice A0 l0.length c0), (13, .int .i64 (l0.length : Int)), (14, .int .i64 x14_l1), (45, .pointer (some ⟨b2, 0, none⟩)), (47, .pointer (some ⟨b2, 0, none⟩))]) (by kernel_rfl) ?_
        refine WD.pure (i := 3) (v := .pointer (some ⟨b2, 0, none⟩)) (by kernel_rfl) (by kernel_rfl) (fun _ => by kernel_rfl) ?_
        refine WD.weaken [4, 6, 12, 13, 14, 45, 48] (L' := [(4, .pointer (some ⟨b2, 0, none⟩)), (6, .slice A8 v6.length c9), (12, .slice A0 l0.length c0), (13, .int .i64 (l0.length : Int)), (14, .int .i64 x14_l1), (45, .pointer (some ⟨b2, 0, none⟩)), (48, .pointer (some ⟨b2, 0, none⟩))]) (by kernel_rfl) ?_
        refine WD.ofR (i := 4) (by kernel_rfl) (RSt.loadObj (t := 22) (k := 0) (v := .slice A13 q4_l1.1.length c14) (.tmp 48) (by kernel_rfl) (by kernel_rfl) (by kernel_rfl) 0 hS rfl (by kernel_rfl) rfl ?_)
        refine WD.weaken [4, 6, 12, 13, 14, 45, 49] (L' := [(4, .pointer (some ⟨b2, 0, none⟩)), (6, .slice A8 v6.length c9), (12, .slice A0 l0.length c0), (13, .int .i64 (l0.length : Int)), (14, .int .i64 x14_l1), (45, .pointer (some ⟨b2, 0, none⟩)), (49, .slice A13 q4_l1.1.length c14)]) (by kernel_rfl) ?_
        refine WD.pure (i := 5) (v := .slice A8 v6.length c9) (by kernel_rfl) (by kernel_rfl) (fun _ => by kernel_rfl) ?_
        refine WD.weaken [4, 6, 12, 13, 14, 45, 49, 50] (L' := [(4, .pointer (some ⟨b2, 0, none⟩)), (6, .slice A8 v6.length c9), (12, .slice A0 l0.length c0), (13, .int .i64 (l0.length : Int)), (14, .int .i64 x14_l1), (45, .pointer (some ⟨b2, 0, none⟩)), (49, .slice A13 q4_l1.1.length c14), (50, .slice A8 v6.length c9)]) (by kernel_rfl) ?_
        obtain ⟨r30, e31, H⟩ := bind_ex H
        refine WD.act (i := 6) (by kernel_rfl) (St.call (by kernel_rfl) (f := 21) (args := #[.slice A8 v6.length c9]) (by kernel_rfl) (slices_Clone.calls w28 A8 c9 v6 (rdS.up R10 hS.sub0) r30 e31) ?_)
        rintro _ w37 ⟨A39, c40, rfl, hS38⟩
        have hS : Sat w37 (rf w0) [osl 5 (r0 (.int .u8)) 1 A39 c40 r30, pts b2 (.cells #[.slice A13 q4_l1.1.length c14, .slice A24 y23.length c25, .int .i64 q4_l1.2.2] 46 (0, 0)), osl 3 (r0 (.int .i64)) 1 A24 c25 y23, pts b20 (.cells #[.int .i64 q4_l1.2.2] 3 (0, 0)), orw 44 (Esl 5 (.int .u8)) 1 A13 c14 q4_l1.1] := hS.ext hS38
        refine ⟨(asked.cons (RSt.run (n := 68) (RSt.loadObj (t := 22) (k := 0) (v := .slice A13 q4_l1.1.length c14) (.tmp 48) (by kernel_rfl) (by kernel_rfl) (by kernel_rfl) 1 hS rfl (by kernel_rfl) rfl rfl)) (asked.nil _ _)), ?_⟩
        refine WD.weaken [4, 6, 12, 13, 14, 45, 49, 51] (L' := [(4, .pointer (some ⟨b2, 0, none⟩)), (6, .slice A8 v6.length c9), (12, .slice A0 l0.length c0), (13, .int .i64 (l0.length : Int)), (14, .int .i64 x14_l1), (45, .pointer (some ⟨b2, 0, none⟩)), (49, .slice A13 q4_l1.1.length c14), (51, .slice A39 r30.length c40)]) (by kernel_rfl) ?_
        refine WD.act (i := 7) (by kernel_rfl) (St.box hS (by kernel_rfl) (.cells #[.slice A39 r30.length c40] 44) (fun b41 => .slice (some ⟨b41, 0, none⟩) 1 1) (fun _ => by kernel_rfl) (fun b41 w42 hS => ?_))
        refine ⟨(asked.cons (RSt.run (n := 68) (RSt.loadObj (t := 22) (k := 0) (v := .slice A13 q4_l1.1.length c14) (.tmp 48) (by kernel_rfl) (by kernel_rfl) (by kernel_rfl) 2 hS rfl (by kernel_rfl) rfl rfl)) (asked.nil _ _)), ?_⟩
        refine WD.weaken [4, 6, 12, 13, 14, 45, 49, 52] (L' := [(4, .pointer (some ⟨b2, 0, none⟩)), (6, .slice A8 v6.length c9), (12, .slice A0 l0.length c0), (13, .int .i64 (l0.length : Int)), (14, .int .i64 x14_l1), (45, .pointer (some ⟨b2, 0, none⟩)), (49, .slice A13 q4_l1.1.length c14), (52, .slice (some ⟨b41, 0, none⟩) 1 1)]) (by kernel_rfl) ?_
        have hS : Sat w42 (rf w0) [orw 44 (Esl 5 (.int .u8)) 1 A13 c14 q4_l1.1, pts b41 (.cells #[.slice A39 r30.length c40] 44 (0, 0)), osl 5 (r0 (.int .u8)) 1 A39 c40 r30, pts b2 (.cells #[.slice A13 q4_l1.1.length c14, .slice A24 y23.length c25, .int .i64 q4_l1.2.2] 46 (0, 0)), osl 3 (r0 (.int .i64)) 1 A24 c25 y23, pts b20 (.cells #[.int .i64 q4_l1.2.2] 3 (0, 0))] := hS.sel [5, 0, 1, 2, 3, 4] (by kernel_rfl)
        have hS : Sat w42 (rf w0) [osl 5 (r0 (.int .u8)) 1 A39 c40 r30, orw 44 (Esl 5 (.int .u8)) 1 A13 c14 q4_l1.1, pts b41 (.cells #[.slice A39 r30.length c40] 44 (0, 0)), pts b2 (.cells #[.slice A13 q4_l1.1.length c14, .slice A24 y23.length c25, .int .i64 q4_l1.2.2] 46 (0, 0)), osl 3 (r0 (.int .i64)) 1 A24 c25 y23, pts b20 (.cells #[.int .i64 q4_l1.2.2] 3 (0, 0))] := hS.sel [2, 0, 1, 3, 4, 5] (by kernel_rfl)
        have hS : Sat w42 (rf w0) [orw 44 (Esl 5 (.int .u8)) 1 A13 c14 q4_l1.1, osl 5 (r0 (.int .u8)) 1 A39 c40 r30, pts b41 (.cells #[.slice A39 r30.length c40] 44 (0, 0)), pts b2 (.cells #[.slice A13 q4_l1.1.length c14, .slice A24 y23.length c25, .int .i64 q4_l1.2.2] 46 (0, 0)), osl 3 (r0 (.int .i64)) 1 A24 c25 y23, pts b20 (.cells #[.int .i64 q4_l1.2.2] 3 (0, 0))] := hS.sel [1, 0, 2, 3, 4, 5] (by kernel_rfl)
        obtain ⟨y44, e43, H⟩ := bind_ex H
        refine WD.act (i := 8) (by kernel_rfl) (St.appendOwn (.tmp 49) (.tmp 52) (by kernel_rfl) (by kernel_rfl) E22 (fun H h => Esl.mk H h) hS 0 rfl (by kernel_rfl) (by kernel_rfl) (by kernel_rfl) (by kernel_rfl) 5864062014805 (by kernel_rfl) (by kernel_rfl) e43 (fun A45 c46 w47 K48 hS hK49 hM50 => ?_))
        refine ⟨(asked.anc (by kernel_rfl) (asked.nil _ _)), ?_⟩
        have R51 : rdS (rd K48 (.slice 5 (.int .u8))) 1 K48 A45 c46 y44 := orw.rdS (κ := (.slice 5 (.int .u8))) (Esl.rd (e := 5) (κ := (.int .u8))) hK49
        have R52 : rdS (r0 (.int .u8)) 1 K48 A39 c40 r30 := by obtain ⟨M, hM, hm⟩ := hM50; exact (osl.read hm).mono hM (fun _ _ h => h)
        refine WD.weaken [4, 6, 12, 13, 14, 45, 53] (L' := [(4, .pointer (some ⟨b2, 0, none⟩)), (6, .slice A8 v6.length c9), (12, .slice A0 l0.length c0), (13, .int .i64 (l0.length : Int)), (14, .int .i64 x14_l1), (45, .pointer (some ⟨b2, 0, none⟩)), (53, .slice A45 y44.length c46)]) (by kernel_rfl) ?_
        refine WD.pure (i := 9) (v := .pointer (some ⟨b2, 0, none⟩)) (by kernel_rfl) (by kernel_rfl) (fun _ => by kernel_rfl) ?_
        refine WD.weaken [4, 6, 12, 13, 14, 53, 54] (L' := [(4, .pointer (some ⟨b2, 0, none⟩)), (6, .slice A8 v6.length c9), (12, .slice A0 l0.length c0), (13, .int .i64 (l0.length : Int)), (14, .int .i64 x14_l1), (53, .slice A45 y44.length c46), (54, .pointer (some ⟨b2, 0, none⟩))]) (by kernel_rfl) ?_
        refine WD.pure (i := 10) (v := .pointer (some ⟨b2, 0, none⟩)) (by kernel_rfl) (by kernel_rfl) (fun _ => by kernel_rfl) ?_
        refine WD.weaken [4, 6, 12, 13, 14, 53, 55] (L' := [(4, .pointer (some ⟨b2, 0, none⟩)), (6, .slice A8 v6.length c9), (12, .slice A0 l0.length c0), (13, .int .i64 (l0.length : Int)), (14, .int .i64 x14_l1), (53, .slice A45 y44.length c46), (55, .pointer (some ⟨b2, 0, none⟩))]) (by kernel_rfl) ?_
        have hS : Sat w47 (rf w0) [pts b2 (.cells #[.slice A13 q4_l1.1.length c14, .slice A24 y23.length c25, .int .i64 q4_l1.2.2] 46 (0, 0)), gh K48, pts b41 (.cells #[.slice A39 r30.length c40] 44 (0, 0)), osl 3 (r0 (.int .i64)) 1 A24 c25 y23, pts b20 (.cells #[.int .i64 q4_l1.2.2] 3 (0, 0))] := hS.sel [2, 0, 1, 3, 4] (by kernel_rfl)
        refine WD.act (i := 11) (by kernel_rfl) (St.storeObj (t := 22) (k := 0) (cur' := #[.slice A45 y44.length c46, .slice A24 y23.length c25, .int .i64 q4_l1.2.2]) (.tmp 55) (.tmp 53) (by kernel_rfl) (by kernel_rfl) (by kernel_rfl) hS (by kernel_rfl) (by kernel_rfl) (by kernel_rfl) rfl rfl (fun w53 hS => ?_))
        refine ⟨(asked.anc (by kernel_rfl) (asked.nil _ _)), ?_⟩
        refine WD.weaken [4, 6, 12, 13, 14] (L' := [(4, .pointer (some ⟨b2, 0, none⟩)), (6, .slice A8 v6.length c9), (12, .slice A0 l0.length c0), (13, .int .i64 (l0.length : Int)), (14, .int .i64 x14_l1)]) (by kernel_rfl) ?_
        refine WD.nil (by kernel_rfl) ?_
        refine At.go ?_
        refine WC.reg [0, 1, 2, 3, 4, 5, 6, 7, 8, 9, 10] (by kernel_rfl) (by kernel_rfl) ?_
        refine WR.runk [0, 1, 2] [3, 4, 5, 6, 7, 8, 9, 10] [4, 6, 12, 13, 14, 56, 58] (L' := [(4, .pointer (some ⟨b2, 0, none⟩)), (6, .slice A8 v6.length c9), (12, .slice A0 l0.length c0), (13, .int .i64 (l0.length : Int)), (14, .int .i64 x14_l1), (56, .pointer (some ⟨b2, 0, none⟩)), (58, .pointer (some ⟨b2, 2, none⟩))]) (w' := w53) (by kernel_rfl) ?_
        refine WR.st (St.ofR (RSt.loadObj (t := 3) (k := 2) (v := .int .i64 q4_l1.2.2) (.tmp 58) (by kernel_rfl) (by kernel_rfl) (by kernel_rfl) 0 hS rfl (by kernel_rfl) rfl ?_))
        refine WR.runk [4, 5, 6, 7, 8, 9] [10] [4, 12, 13, 14, 63, 65] (L' := [(4, .pointer (some ⟨b2, 0, none⟩)), (12, .slice A0 l0.length c0), (13, .int .i64 (l0.length : Int)), (14, .int .i64 x14_l1), (63, .int .i64 (wi (q4_l1.2.2 + (wi ((v6.length : Int) + 1))))), (65, .pointer (some ⟨b2, 2, none⟩))]) (w' := w53) (by kernel_rfl) ?_
        refine WR.st (St.storeObj (t := 3) (k := 2) (cur' := #[.slice A45 y44.length c46, .slice A24 y23.length c25, .int .i64 (wi (q4_l1.2.2 + (wi ((v6.length : Int) + 1))))]) (.tmp 65) (.tmp 63) (by kernel_rfl) (by kernel_rfl) (by kernel_rfl) hS (by kernel_rfl) (by kernel_rfl) (by kernel_rfl) rfl rfl (fun w54 hS => ?_))
        refine WR.runk [] [] [4, 12, 13, 14] (L' := [(4, .pointer (some ⟨b2, 0, none⟩)), (12, .slice A0 l0.length c0), (13, .int .i64 (l0.length : Int)), (14, .int .i64 x14_l1)]) (w' := w54) (by kernel_rfl) ?_
        refine WR.nil ?_
        refine At.blockNormal ?_
        refine At.go ?_
        refine WC.reg [0, 1] (by kernel_rfl) (by kernel_rfl) ?_
        refine WR.runk [0, 1] [] [4, 12, 13, 14] (L' := [(4, .pointer (some ⟨b2, 0, none⟩)), (12, .slice A0 l0.length c0), (13, .int .i64 (l0.length : Int)), (14, .int .i64 (wi (x14_l1 + 1)))]) (w' := w54) (by kernel_rfl) ?_
        refine WR.nil ?_
        have hS : Sat w54 (rf w0) [gh K48, pts b2 (.cells #[.slice A45 y44.length c46, .slice A24 y23.length c25, .int .i64 (wi (q4_l1.2.2 + (wi ((v6.length : Int) + 1))))] 46 (0, 0)), pts b41 (.cells #[.slice A39 r30.length c40] 44 (0, 0)), osl 3 (r0 (.int .i64)) 1 A24 c25 y23, pts b20 (.cells #[.int .i64 q4_l1.2.2] 3 (0, 0))] := hS.sel [1, 0, 2, 3, 4] (by kernel_rfl)
        have hS : Sat w54 (rf w0) [orw 44 (Esl 5 (.int .u8)) 1 A45 c46 y44, pts b2 (.cells #[.slice A45 y44.length c46, .slice A24 y23.length c25, .int .i64 (wi (q4_l1.2.2 + (wi ((v6.length : Int) + 1))))] 46 (0, 0)), pts b41 (.cells #[.slice A39 r30.length c40] 44 (0, 0)), osl 3 (r0 (.int .i64)) 1 A24 c25 y23, pts b20 (.cells #[.int .i64 q4_l1.2.2] 3 (0, 0))] := Sat.ungh hK49 hS
        have hS : Sat w54 (rf w0) [pts b2 (.cells #[.slice A45 y44.length c46, .slice A24 y23.length c25, .int .i64 (wi (q4_l1.2.2 + (wi ((v6.length : Int) + 1))))] 46 (0, 0)), orw 44 (Esl 5 (.int .u8)) 1 A45 c46 y44, osl 3 (r0 (.int .i64)) 1 A24 c25 y23, pts b41 (.cells #[.slice A39 r30.length c40] 44 (0, 0)), pts b20 (.cells #[.int .i64 q4_l1.2.2] 3 (0, 0))] := hS.sel [1, 0, 3, 2, 4] (by kernel_rfl)
        have hS : Sat w54 (rf w0) [O46 b2 (y44, y23, wi (q4_l1.2.2 + (wi ((v6.length : Int) + 1)))), pts b41 (.cells #[.slice A39 r30.length c40] 44 (0, 0)), pts b20 (.cells #[.int .i64 q4_l1.2.2] 3 (0, 0))] := O46.close (y44, y23, wi (q4_l1.2.2 + (wi ((v6.length : Int) + 1)))) A45 c46 A24 c25 hS
        have hS : Sat w54 (rf w0) [O46 b2 (y44, y23, wi (q4_l1.2.2 + (wi ((v6.length : Int) + 1))))] := hS.sel [0] (by kernel_rfl)
        refine At.again ?_
        refine WL.weaken [4, 12, 13, 14] (L' := [(4, .pointer (some ⟨b2, 0, none⟩)), (12, .slice A0 l0.length c0), (13, .int .i64 (l0.length : Int)), (14, .int .i64 (wi (x14_l1 + 1)))]) (by kernel_rfl) ?_
        exact ih (wi (x14_l1 + 1)) (y44, y23, wi (q4_l1.2.2 + (wi ((v6.length : Int) + 1)))) _ hS H
    · replace H := ite_f H hb5
      refine WC.exit (by kernel_rfl) ?_
      refine At.thenExit ?_
      refine At.thenExit ?_
      obtain rfl := Option.some.inj H
      have hS : Sat w (rf w0) [O46 b2 q4_l1] := hS.sel [0] (by kernel_rfl)
      refine At.weaken [4] (L' := [(4, .pointer (some ⟨b2, 0, none⟩))]) (by kernel_rfl) ?_
      exact hn1 q4_l1 _ rfl hS
theorem text_New.calls (w0 : World) (A0 : Option Addr) (c0 : Nat) (l0 : List (List Int)) (R0 : rdS (rd (hp w0) (.slice 5 (.int .u8))) 1 (hp w0) A0 c0 l0) (r : (Option ((List (List Int)) × (List Int) × Int)) × Int) (H : text_New.f l0 = some r) :
    Calls Try.prog 9 #[.slice A0 l0.length c0] w0 (fun e w' => ∃ v, e = .returned v ∧ text_New.post w0 r v w') := by
  have hS : Sat w0 (rf w0) [] := Sat.start w0
  unfold text_New.f at H
  refine calls_of_WC (vs := [.slice A0 l0.length c0]) Try.func9 (c := C9) (n := 68) (by kernel_rfl) (by kernel_rfl) (by kernel_rfl) ?_
  refine WC.seq (by kernel_rfl) ?_
  refine WC.reg [0, 1] (by kernel_rfl) (by kernel_rfl) ?_
  refine WR.runk [0, 1] [] [0] (L' := [(0, .slice A0 l0.length c0)]) (w' := w0) (by kernel_rfl) ?_
  refine WR.nil ?_
  refine At.go ?_
  refine WC.seq (by kernel_rfl) ?_
  refine WC.seq (by kernel_rfl) ?_
  refine WC.reg [0, 1, 2] (by kernel_rfl) (by kernel_rfl) ?_
  refine WR.runk [0, 1, 2] [] [0, 9] (L' := [(0, .slice A0 l0.length c0), (9, .bool (decide ((l0.length : Int) > 256)))]) (w' := w0) (by kernel_rfl) ?_
  refine WR.nil ?_
  refine At.go ?_
  refine WC.cond (by kernel_rfl) (decide ((l0.length : Int) > 256)) (by kernel_rfl) (by kernel_rfl) (fun hb1 => ?_) (fun hb1 => ?_)
  · replace H := ite_t H hb1
    refine WC.seq (by kernel_rfl) ?_
    refine WC.reg [0, 1] (by kernel_rfl) (by kernel_rfl) ?_
    refine WR.runk [0, 1] [] [2, 3] (L' := [(2, .pointer none), (3, .int .i64 80)]) (w' := w0) (by kernel_rfl) ?_
    refine WR.nil ?_
    refine At.go ?_
    refine WC.ret (by kernel_rfl) ?_
    refine At.thenRet ?_
    obtain rfl := Option.some.inj H
    have hS := optP.nil (O := O46) hS
    have hS : Sat w0 (rf w0) [optP O46 (.pointer none) none] := hS.sel [0] (by kernel_rfl)
    exact At.body [.pointer none, .int .i64 80] (by kernel_rfl) ⟨_, rfl, _, rfl, hS⟩
  · replace H := ite_f H hb1
    refine WC.skip (by kernel_rfl) ?_
    refine At.go ?_
    refine WC.seq (by kernel_rfl) ?_
    refine WC.reg [0, 1, 2] (by kernel_rfl) (by kernel_rfl) ?_
    refine WR.runk [0] [1, 2] [0, 10] (L' := [(0, .slice A0 l0.length c0), (10, .agg #[.slice none 0 0, .slice none 0 0, .int .i64 0])]) (w' := w0) (by kernel_rfl) ?_
    refine WR.st (St.box hS (by kernel_rfl) (.cells #[.slice none 0 0, .slice none 0 0, .int .i64 0] 46) (fun b2 => .pointer (some ⟨b2, 0, none⟩)) (fun _ => by kernel_rfl) (fun b2 w3 hS => ?_))
    refine WR.runk [2] [] [0, 4] (L' := [(0, .slice A0 l0.length c0), (4, .pointer (some ⟨b2, 0, none⟩))]) (w' := w3) (by kernel_rfl) ?_
    refine WR.nil ?_
    refine At.go ?_
    refine WC.seq (by kernel_rfl) ?_
    refine WC.seq (by kernel_rfl) ?_
    refine WC.reg [0, 1, 2] (by kernel_rfl) (by kernel_rfl) ?_
    refine WR.runk [0, 1, 2] [] [4, 12, 13, 14] (L' := [(4, .pointer (some ⟨b2, 0, none⟩)), (12, .slice A0 l0.length c0), (13, .int .i64 (l0.length : Int)), (14, .int .i64 0)]) (w' := w3) (by kernel_rfl) ?_
    refine WR.nil ?_
    refine At.go ?_
    refine WC.block (by kernel_rfl) ?_
    have hS := hS.addNilR (α := (List Int)) 44 (Esl 5 (.int .u8)) 1
    have hS := hS.addNil (α := Int) 3 (r0 (.int .i64)) 1
    have hS : Sat w3 (rf w0) [pts b2 (.cells #[.slice none 0 0, .slice none 0 0, .int .i64 0] 46 (0, 0)), orw 44 (Esl 5 (.int .u8)) 1 none 0 ([] : List (List Int)), osl 3 (r0 (.int .i64)) 1 none 0 ([] : List Int)] := hS.sel [2, 1, 0] (by kernel_rfl)
    have hS : Sat w3 (rf w0) [O46 b2 (([] : List (List Int)), ([] : List Int), 0)] := O46.close (([] : List (List Int)), ([] : List Int), 0) none 0 none 0 hS
    have hS : Sat w3 (rf w0) [O46 b2 (([] : List (List Int)), ([] : List Int), 0)] := hS.sel [0] (by kernel_rfl)
    obtain ⟨o55, e56, H⟩ := bind_ex H
    refine WC.loop (by kernel_rfl) ?_
    refine WL.weaken [4, 12, 13, 14] (L' := [(4, .pointer (some ⟨b2, 0, none⟩)), (12, .slice A0 l0.length c0), (13, .int .i64 (l0.length : Int)), (14, .int .i64 0)]) (by kernel_rfl) ?_
    refine text_New.l1_ok w0 A0 c0 l0 b2 R0 o55 (fun o57 w59 ho60 hS => ?_) (fun o61 w63 ho64 hS => ?_) FU 0 (([] : List (List Int)), ([] : List Int), 0) _ hS e56
    · subst ho60
      dsimp only at H
      refine At.blockRet ?_
      refine At.thenRet ?_
      obtain rfl := Option.some.inj H
      have hS := optP.nil (O := O46) hS
      have hS : Sat w59 (rf w0) [optP O46 (.pointer none) none] := hS.sel [0] (by kernel_rfl)
      exact At.body [.pointer none, .int .i64 o57.1] (by kernel_rfl) ⟨_, rfl, _, rfl, hS⟩
    · subst ho64
      dsimp only at H
      refine At.hit ?_
      refine At.go ?_
      refine WC.seq (by kernel_rfl) ?_
      refine WC.reg [0, 1, 2] (by kernel_rfl) (by kernel_rfl) ?_
      refine WR.runk [0, 1, 2] [] [2, 3] (L' := [(2, .pointer (some ⟨b2, 0, none⟩)), (3, .int .i64 0)]) (w' := w63) (by kernel_rfl) ?_
      refine WR.nil ?_
      refine At.go ?_
      refine WC.ret (by kernel_rfl) ?_
      obtain rfl := Option.some.inj H
      have hS : Sat w63 (rf w0) [optP O46 (.pointer (some ⟨b2, 0, none⟩)) (some o61)] := optP.mk hS
      have hS : Sat w63 (rf w0) [optP O46 (.pointer (some ⟨b2, 0, none⟩)) (some o61)] := hS.sel [0] (by kernel_rfl)
      exact At.body [.pointer (some ⟨b2, 0, none⟩), .int .i64 0] (by kernel_rfl) ⟨_, rfl, _, rfl, hS⟩
/-! ### 22 colophon/suffix.Turn -/
def suffix_Turn.l1 (y1 : List Int) : Nat → (List Int) → Int → Option (List Int)
  | 0, _, _ => none
  | k + 1, x4_l1, x13_l1 => (if decide (x13_l1 < (y1.length : Int)) then ((at? x4_l1 x13_l1).bind fun v7 => ((set? x4_l1 x13_l1 (-1)).bind fun y9 => suffix_Turn.l1 y1 k y9 (wi (x13_l1 + 1)))) else some x4_l1)
def suffix_Turn.l2 (l0 : List Int) : Nat → (List Int) → Int → Option (Sum ((List Int) × Int) (List Int))
  | 0, _, _ => none
  | k + 1, x4_l2, x22_l2 => (if decide (x22_l2 < (l0.length : Int)) then ((at? l0 x22_l2).bind fun v19 => (if decide (v19 < 0) then some (.inl (([] : List Int), 2)) else (if decide (v19 ≥ (l0.length : Int)) then some (.inl (([] : List Int), 2)) else ((at? x4_l2 v19).bind fun v23 => (if decide (v23 ≥ 0) then some (.inl (([] : List Int), 2)) else ((set? x4_l2 v19 x22_l2).bind fun y26 => suffix_Turn.l2 l0 k y26 (wi (x22_l2 + 1)))))))) else some (.inr x4_l2))
def suffix_Turn.f (l0 : List Int) : Option ((List Int) × Int) := ((make? 17592186044416 0 (l0.length : Int)).bind fun y1 => ((suffix_Turn.l1 y1 FU y1 0).bind fun o13 => ((suffix_Turn.l2 l0 FU o13 0).bind fun o30 => (match o30 with | .inl o32 => some (o32.1, o32.2) | .inr o36 => some (o36, 0)))))
def suffix_Turn.post (w : World) (r : (List Int) × Int) (v : Value) (w' : World) : Prop := ∃ (A0' : Option Addr) (c0' : Nat), v = .tuple #[.slice A0' r.1.length c0', .int .i64 r.2] ∧ Sat w' (rf w) [osl 3 (r0 (.int .i64)) 1 A0' c0' r.1]
theorem suffix_Turn.l1_ok {Q} (w0 : World) (A0 : Option Addr) (c0 : Nat) (l0 : List Int) (y1 : List Int) (out : (List Int)) (hn0 : ∀ (A4_q : Option Addr) (c4_q : Nat) (w : World), Sat w (rf w0) [osl 3 (r0 (.int .i64)) 1 A4_q c4_q out] → At Q (.exit 0) 48 [(0, .slice A0 l0.length c0), (4, .slice A4_q out.length c4_q)] w) :
    ∀ (k : Nat) (x4_l1 : List Int) (x13_l1 : Int) (A4_l1 : Option Addr) (c4_l1 : Nat) (w : World), Sat w (rf w0) [osl 3 (r0 (.int .i64)) 1 A4_l1 c4_l1 x4_l1] → suffix_Turn.l1 y1 k x4_l1 x13_l1 = some out → WL Try.prog (cbody (cbody (cr (cl (cr (cr C22)))))) Q 48 [(0, .slice A0 l0.length c0), (4, .slice A4_l1 x4_l1.length c4_l1), (12, .int .i64 (y1.length : Int)), (13, .int .i64 x13_l1)] w := by
  intro k
  induction k with
  | zero => intro x4_l1 x13_l1 A4_l1 c4_l1 w hS H; exact absurd (show none = some out from H) (by simp)
  | succ k ih =>
    intro x4_l1 x13_l1 A4_l1 c4_l1 w hS H
    unfold suffix_Turn.l1 at H
    refine WL.round ?_
    refine WC.seq (by kernel_rfl) ?_
    refine WC.reg [0] (by kernel_rfl) (by kernel_rfl) ?_
    refine WR.runk [0] [] [0, 4, 12, 13, 14] (L' := [(0, .slice A0 l0.length c0), (4, .slice A4_l1 x4_l1.length c4_l1), (12, .int .i64 (y1.length : Int)), (13, .int .i64 x13_l1), (14, .bool (decide (x13_l1 < (y1.length : Int))))]) (w' := w) (by kernel_rfl) ?_
    refine WR.nil ?_
    refine At.go ?_
    refine WC.seq (by kernel_rfl) ?_
    refine WC.cond (by kernel_rfl) (decide (x13_l1 < (y1.length : Int))) (by kernel_rfl) (by kernel_rfl) (fun hb6 => ?_) (fun hb6 => ?_)
    · replace H := ite_t H hb6
      refine WC.skip (by kernel_rfl) ?_
      refine At.go ?_
      refine WC.seq (by kernel_rfl) ?_
      refine WC.block (by kernel_rfl) ?_
      refine WC.seq (by kernel_rfl) ?_
      refine WC.reg [0, 1] (by kernel_rfl) (by kernel_rfl) ?_
      refine WR.runk [0, 1] [] [0, 4, 5, 12, 13] (L' := [(0, .slice A0 l0.length c0), (4, .slice A4_l1 x4_l1.length c4_l1), (5, .int .i64 x13_l1), (12, .int .i64 (y1.length : Int)), (13, .int .i64 x13_l1)]) (w' := w) (by kernel_rfl) ?_
      refine WR.nil ?_
      refine At.go ?_
      refine WC.reg [0, 1, 2, 3] (by kernel_rfl) (by kernel_rfl) ?_
      refine WR.runk [0, 1] [2, 3] [0, 4, 12, 13, 16, 17] (L' := [(0, .slice A0 l0.length c0), (4, .slice A4_l1 x4_l1.length c4_l1), (12, .int .i64 (y1.length : Int)), (13, .int .i64 x13_l1), (16, .slice A4_l1 x4_l1.length c4_l1), (17, .int .i64 x13_l1)]) (w' := w) (by kernel_rfl) ?_
      obtain ⟨v7, e8, H⟩ := bind_ex H
      refine WR.st (St.ofP (PSt.idx (k := .i64) (.tmp 16) (.tmp 17) (by kernel_rfl) (by kernel_rfl) E23 (by kernel_rfl) (by kernel_rfl) (Sat.rdAt 0 hS rfl) e8 ?_))
      refine WR.runk [] [3] [0, 4, 12, 13, 18] (L' := [(0, .slice A0 l0.length c0), (4, .slice A4_l1 x4_l1.length c4_l1), (12, .int .i64 (y1.length : Int)), (13, .int .i64 x13_l1), (18, .pointer (some (adr A4_l1 x13_l1.toNat 1)))]) (w' := w) (by kernel_rfl) ?_
      obtain ⟨y9, e10, H⟩ := bind_ex H
      refine WR.st (St.storeElem' (t := 3) (.tmp 18) (.const (.int .i64 (-1))) (by kernel_rfl) (by kernel_rfl) (by kernel_rfl) hS (by kernel_rfl) (by kernel_rfl) rfl e10 rfl (fun w11 hS => ?_))
      have hl12 := set?_len e10
      refine WR.know 4 (.slice A4_l1 y9.length c4_l1) (.slice A4_l1 x4_l1.length c4_l1) (by kernel_rfl) (by rw [hl12]) ?_
      refine WR.runk [] [] [0, 4, 12, 13] (L' := [(0, .slice A0 l0.length c0), (4, .slice A4_l1 y9.length c4_l1), (12, .int .i64 (y1.length : Int)), (13, .int .i64 x13_l1)]) (w' := w11) (by kernel_rfl) ?_
      refine WR.nil ?_
      refine At.blockNormal ?_
      refine At.go ?_
      refine WC.reg [0, 1] (by kernel_rfl) (by kernel_rfl) ?_
      refine WR.runk [0, 1] [] [0, 4, 12, 13] (L' := [(0, .slice A0 l0.length c0), (4, .slice A4_l1 y9.length c4_l1), (12, .int .i64 (y1.length : Int)), (13, .int .i64 (wi (x13_l1 + 1)))]) (w' := w11) (by kernel_rfl) ?_
      refine WR.nil ?_
      have hS : Sat w11 (rf w0) [osl 3 (r0 (.int .i64)) 1 A4_l1 c4_l1 y9] := hS.sel [0] (by kernel_rfl)
      refine At.again ?_
      refine WL.weaken [0, 4, 12, 13] (L' := [(0, .slice A0 l0.length c0), (4, .slice A4_l1 y9.length c4_l1), (12, .int .i64 (y1.length : Int)), (13, .int .i64 (wi (x13_l1 + 1)))]) (by kernel_rfl) ?_
      exact ih y9 (wi (x13_l1 + 1)) A4_l1 c4_l1 _ hS H
    · replace H := ite_f H hb6
      refine WC.exit (by kernel_rfl) ?_
      refine At.thenExit ?_
      refine At.thenExit ?_
      obtain rfl := Option.some.inj H
      have hS : Sat w (rf w0) [osl 3 (r0 (.int .i64)) 1 A4_l1 c4_l1 x4_l1] := hS.sel [0] (by kernel_rfl)
      refine At.weaken [0, 4] (L' := [(0, .slice A0 l0.length c0), (4, .slice A4_l1 x4_l1.length c4_l1)]) (by kernel_rfl) ?_
      exact hn0 A4_l1 c4_l1 _ hS
theorem suffix_Turn.l2_ok {Q} (w0 : World) (A0 : Option Addr) (c0 : Nat) (l0 : List Int) (R0 : rdS (r0 (.int .i64)) 1 (hp w0) A0 c0 l0) (out : Sum ((List Int) × Int) (List Int)) (hn0 : ∀ (o0 : (List Int) × Int) (A2_q : Option Addr) (c2_q : Nat) (w : World), out = (.inl o0) → Sat w (rf w0) [osl 3 (r0 (.int .i64)) 1 A2_q c2_q o0.1] → At Q .ret 48 [(2, .slice A2_q o0.1.length c2_q), (3, .int .i64 o0.2)] w) (hn1 : ∀ (o1 : (List Int)) (A4_q : Option Addr) (c4_q : Nat) (w : World), out = (.inr o1) → Sat w (rf w0) [osl 3 (r0 (.int .i64)) 1 A4_q c4_q o1] → At Q (.exit 2) 48 [(4, .slice A4_q o1.length c4_q)] w) :
    ∀ (k : Nat) (x4_l2 : List Int) (x22_l2 : Int) (A4_l2 : Option Addr) (c4_l2 : Nat) (w : World), Sat w (rf w0) [osl 3 (r0 (.int .i64)) 1 A4_l2 c4_l2 x4_l2] → suffix_Turn.l2 l0 k x4_l2 x22_l2 = some out → WL Try.prog (cbody (cbody (cr (cl (cr (cr (cr C22))))))) Q 48 [(0, .slice A0 l0.length c0), (4, .slice A4_l2 x4_l2.length c4_l2), (20, .slice A0 l0.length c0), (21, .int .i64 (l0.length : Int)), (22, .int .i64 x22_l2)] w := by
  intro k
  induction k with
  | zero => intro x4_l2 x22_l2 A4_l2 c4_l2 w hS H; exact absurd (show none = some out from H) (by simp)
  | succ k ih =>
    intro x4_l2 x22_l2 A4_l2 c4_l2 w hS H
    unfold suffix_Turn.l2 at H
    refine WL.round ?_
    refine WC.seq (by kernel_rfl) ?_
    refine WC.reg [0] (by kernel_rfl) (by kernel_rfl) ?_
    refine WR.runk [0] [] [0, 4, 20, 21, 22, 23] (L' := [(0, .slice A0 l0.length c0), (4, .slice A4_l2 x4_l2.length c4_l2), (20, .slice A0 l0.length c0), (21, .int .i64 (l0.length : Int)), (22, .int .i64 x22_l2), (23, .bool (decide (x22_l2 < (l0.length : Int))))]) (w' := w) (by kernel_rfl) ?_
    refine WR.nil ?_
    refine At.go ?_
    refine WC.seq (by kernel_rfl) ?_
    refine WC.cond (by kernel_rfl) (decide (x22_l2 < (l0.length : Int))) (by kernel_rfl) (by kernel_rfl) (fun hb18 => ?_) (fun hb18 => ?_)
    · replace H := ite_t H hb18
      refine WC.skip (by kernel_rfl) ?_
      refine At.go ?_
      refine WC.seq (by kernel_rfl) ?_
      refine WC.block (by kernel_rfl) ?_
      refine WC.seq (by kernel_rfl) ?_
      refine WC.reg [0, 1, 2, 3, 4] (by kernel_rfl) (by kernel_rfl) ?_
      refine WR.runk [0] [1, 2, 3, 4] [0, 4, 20, 21, 22, 24] (L' := [(0, .slice A0 l0.length c0), (4, .slice A4_l2 x4_l2.length c4_l2), (20, .slice A0 l0.length c0), (21, .int .i64 (l0.length : Int)), (22, .int .i64 x22_l2), (24, .int .i64 x22_l2)]) (w' := w) (by kernel_rfl) ?_
      obtain ⟨v19, e20, H⟩ := bind_ex H
      refine WR.st (St.ofP (PSt.idx (k := .i64) (.tmp 20) (.tmp 22) (by kernel_rfl) (by kernel_rfl) E23 (by kernel_rfl) (by kernel_rfl) (rdS.up R0 hS.sub0) e20 ?_))
      refine WR.runk [] [2, 3, 4] [0, 4, 20, 21, 22, 24, 25] (L' := [(0, .slice A0 l0.length c0), (4, .slice A4_l2 x4_l2.length c4_l2), (20, .slice A0 l0.length c0), (21, .int .i64 (l0.length : Int)), (22, .int .i64 x22_l2), (24, .int .i64 x22_l2), (25, .pointer (some (adr A0 x22_l2.toNat 1)))]) (w' := w) (by kernel_rfl) ?_
      refine WR.st (St.ofR (RSt.loadInt (t := 3) (.tmp 25) (by kernel_rfl) (by kernel_rfl) (by kernel_rfl) (by kernel_rfl) (rdS.up R0 hS.sub0) e20 ?_))
      refine WR.runk [3, 4] [] [0, 4, 6, 7, 20, 21, 22] (L' := [(0, .slice A0 l0.length c0), (4, .slice A4_l2 x4_l2.length c4_l2), (6, .int .i64 x22_l2), (7, .int .i64 v19), (20, .slice A0 l0.length c0), (21, .int .i64 (l0.length : Int)), (22, .int .i64 x22_l2)]) (w' := w) (by kernel_rfl) ?_
      refine WR.nil ?_
      refine At.go ?_
      refine WC.seq (by kernel_rfl) ?_
      refine WC.seq (by kernel_rfl) ?_
      refine WC.reg [0, 1, 2, 3, 4, 5, 6, 7, 8, 9, 10, 11, 12, 13, 14] (by kernel_rfl) (by kernel_rfl) ?_
      refine WR.runk [0, 1, 2] [3, 4, 5, 6, 7, 8, 9, 10, 11, 12, 13, 14] [0, 4, 6, 7, 20, 21, 22, 29] (L' := [(0, .slice A0 l0.length c0), (4, .slice A4_l2 x4_l2.length c4_l2), (6, .int .i64 x22_l2), (7, .int .i64 v19), (20, .slice A0 l0.length c0), (21, .int .i64 (l0.length : Int)), (22, .int .i64 x22_l2), (29, .bool (decide (v19 < 0)))]) (w' := w) (by kernel_rfl) ?_
      refine WR.split 29 (b := decide (v19 < 0)) (by kernel_rfl) (fun hb21 => ?_) (fun hb21 => ?_)
      · replace H := ite_t H hb21
        refine WR.runk [3, 4, 5, 6, 7, 8, 9, 10, 11, 12, 13, 14] [] [0, 4, 6, 7, 20, 21, 22, 30, 31, 32, 33, 36, 37, 38, 39, 40, 41] (L' := [(0, .slice A0 l0.length c0), (4, .slice A4_l2 x4_l2.length c4_l2), (6, .int .i64 x22_l2), (7, .int .i64 v19), (20, .slice A0 l0.length c0), (21, .int .i64 (l0.length : Int)), (22, .int .i64 x22_l2), (30, undef), (31, undef), (32, undef), (33, undef), (36, undef), (37, undef), (38, undef), (39, undef), (40, undef), (41, .bool true)]) (w' := w) (by kernel_rfl) ?_
        refine WR.nil ?_
        refine At.go ?_
        refine WC.condT (by kernel_rfl) (by kernel_rfl) (by kernel_rfl) ?_
        refine WC.seq (by kernel_rfl) ?_
        refine WC.reg [0, 1] (by kernel_rfl) (by kernel_rfl) ?_
        refine WR.runk [0, 1] [] [2, 3] (L' := [(2, .slice none 0 0), (3, .int .i64 2)]) (w' := w) (by kernel_rfl) ?_
        refine WR.nil ?_
        refine At.go ?_
        refine WC.ret (by kernel_rfl) ?_
        refine At.thenRet ?_
        refine At.blockRet ?_
        refine At.thenRet ?_
        refine At.thenRet ?_
        obtain rfl := Option.some.inj H
        have hS := hS.addNil (α := Int) 3 (r0 (.int .i64)) 1
        have hS : Sat w (rf w0) [osl 3 (r0 (.int .i64)) 1 none 0 ([] : List Int)] := hS.sel [0] (by kernel_rfl)
        refine At.weaken [2, 3] (L' := [(2, .slice none 0 0), (3, .int .i64 2)]) (by kernel_rfl) ?_
        exact hn0 (([] : List Int), 2) none 0 _ rfl hS
      · replace H := ite_f H hb21
        refine WR.runk [3, 4, 5, 6, 7, 8] [9, 10, 11, 12, 13, 14] [0, 4, 6, 7, 20, 21, 22, 30, 31, 32, 33, 35] (L' := [(0, .slice A0 l0.length c0), (4, .slice A4_l2 x4_l2.length c4_l2), (6, .int .i64 x22_l2), (7, .int .i64 v19), (20, .slice A0 l0.length c0), (21, .int .i64 (l0.length : Int)), (22, .int .i64 x22_l2), (30, .int .i64 v19), (31, .slice A0 l0.length c0), (32, .int .i64 (l0.length : Int)), (33, .bool (decide (v19 ≥ (l0.length : Int)))), (35, .bool (decide (v19 ≥ (l0.length : Int))))]) (w' := w) (by kernel_rfl) ?_
        refine WR.split 35 (b := decide (v19 ≥ (l0.length : Int))) (by kernel_rfl) (fun hb22 => ?_) (fun hb22 => ?_)
        · replace H := ite_t H hb22
          refine WR.runk [9, 10, 11, 12, 13, 14] [] [0, 4, 6, 7, 20, 21, 22, 30, 31, 32, 33, 36, 37, 38, 39, 40, 41] (L' := [(0, .slice A0 l0.length c0), (4, .slice A4_l2 x4_l2.length c4_l2), (6, .int .i64 x22_l2), (7, .int .i64 v19), (20, .slice A0 l0.length c0), (21, .int .i64 (l0.length : Int)), (22, .int .i64 x22_l2), (30, .int .i64 v19), (31, .slice A0 l0.length c0), (32, .int .i64 (l0.length : Int)), (33, .bool (decide (v19 ≥ (l0.length : Int)))), (36, undef), (37, undef), (38, undef), (39, undef), (40, undef), (41, .bool true)]) (w' := w) (by kernel_rfl) ?_
          refine WR.nil ?_
          refine At.go ?_
          refine WC.condT (by kernel_rfl) (by kernel_rfl) (by kernel_rfl) ?_
          refine WC.seq (by kernel_rfl) ?_
          refine WC.reg [0, 1] (by kernel_rfl) (by kernel_rfl) ?_
          refine WR.runk [0, 1] [] [2, 3] (L' := [(2, .slice none 0 0), (3, .int .i64 2)]) (w' := w) (by kernel_rfl) ?_
          refine WR.nil ?_
          refine At.go ?_
          refine WC.ret (by kernel_rfl) ?_
          refine At.thenRet ?_
          refine At.blockRet ?_
          refine At.thenRet ?_
          refine At.thenRet ?_
          obtain rfl := Option.some.inj H
          have hS := hS.addNil (α := Int) 3 (r0 (.int .i64)) 1
          have hS : Sat w (rf w0) [osl 3 (r0 (.int .i64)) 1 none 0 ([] : List Int)] := hS.sel [0] (by kernel_rfl)
          refine At.weaken [2, 3] (L' := [(2, .slice none 0 0), (3, .int .i64 2)]) (by kernel_rfl) ?_
          exact hn0 (([] : List Int), 2) none 0 _ rfl hS
        · replace H := ite_f H hb22
          refine WR.runk [9, 10] [11, 12, 13, 14] [0, 4, 6, 7, 20, 21, 22, 30, 31, 32, 33, 35, 36, 37] (L' := [(0, .slice A0 l0.length c0), (4, .slice A4_l2 x4_l2.length c4_l2), (6, .int .i64 x22_l2), (7, .int .i64 v19), (20, .slice A0 l0.length c0), (21, .int .i64 (l0.length : Int)), (22, .int .i64 x22_l2), (30, .int .i64 v19), (31, .slice A0 l0.length c0), (32, .int .i64 (l0.length : Int)), (33, .bool (decide (v19 ≥ (l0.length : Int)))), (35, .bool false), (36, .slice A4_l2 x4_l2.length c4_l2), (37, .int .i64 v19)]) (w' := w) (by kernel_rfl) ?_
          obtain ⟨v23, e24, H⟩ := bind_ex H
          refine WR.st (St.ofP (PSt.idx (k := .i64) (.tmp 36) (.tmp 37) (by kernel_rfl) (by kernel_rfl) E23 (by kernel_rfl) (by kernel_rfl) (Sat.rdAt 0 hS rfl) e24 ?_))
          refine WR.runk [] [12, 13, 14] [0, 4, 6, 7, 20, 21, 22, 30, 31, 32, 33, 35, 36, 37, 38] (L' := [(0, .slice A0 l0.length c0), (4, .slice A4_l2 x4_l2.length c4_l2), (6, .int .i64 x22_l2), (7, .int .i64 v19), (20, .slice A0 l0.length c0), (21, .int .i64 (l0.length : Int)), (22, .int .i64 x22_l2), (30, .int .i64 v19), (31, .slice A0 l0.length c0), (32, .int .i64 (l0.length : Int)), (33, .bool (decide (v19 ≥ (l0.length : Int)))), (35, .bool false), (36, .slice A4_l2 x4_l2.length c4_l2), (37, .int .i64 v19), (38, .pointer (some (adr A4_l2 v19.toNat 1)))]) (w' := w) (by kernel_rfl) ?_
          refine WR.st (St.ofR (RSt.loadInt (t := 3) (.tmp 38) (by kernel_rfl) (by kernel_rfl) (by kernel_rfl) (by kernel_rfl) (Sat.rdAt 0 hS rfl) e24 ?_))
          refine WR.runk [13, 14] [] [0, 4, 6, 7, 20, 21, 22, 30, 31, 32, 33, 36, 37, 38, 39, 40, 41] (L' := [(0, .slice A0 l0.length c0), (4, .slice A4_l2 x4_l2.length c4_l2), (6, .int .i64 x22_l2), (7, .int .i64 v19), (20, .slice A0 l0.length c0), (21, .int .i64 (l0.length : Int)), (22, .int .i64 x22_l2), (30, .int .i64 v19), (31, .slice A0 l0.length c0), (32, .int .i64 (l0.length : Int)), (33, .bool (decide (v19 ≥ (l0.length : Int)))), (36, .slice A4_l2 x4_l2.length c4_l2), (37, .int .i64 v19), (38, .pointer (some (adr A4_l2 v19.toNat 1))), (39, .int .i64 v23), (40, .bool (decide (v23 ≥ 0))), (41, .bool (decide (v23 ≥ 0)))]) (w' := w) (by kernel_rfl) ?_
          refine WR.nil ?_
          refine At.go ?_
          refine WC.cond (by kernel_rfl) (decide (v23 ≥ 0)) (by kernel_rfl) (by kernel_rfl) (fun hb25 => ?_) (fun hb25 => ?_)
          · replace H := ite_t H hb25
            refine WC.seq (by kernel_rfl) ?_
            refine WC.reg [0, 1] (by kernel_rfl) (by kernel_rfl) ?_
            refine WR.runk [0, 1] [] [2, 3] (L' := [(2, .slice none 0 0), (3, .int .i64 2)]) (w' := w) (by kernel_rfl) ?_
            refine WR.nil ?_
            refine At.go ?_
            refine WC.ret (by kernel_rfl) ?_
            refine At.thenRet ?_
            refine At.blockRet ?_
            refine At.thenRet ?_
            refine At.thenRet ?_
            obtain rfl := Option.some.inj H
            have hS := hS.addNil (α := Int) 3 (r0 (.int .i64)) 1
            have hS : Sat w (rf w0) [osl 3 (r0 (.int .i64)) 1 none 0 ([] : List Int)] := hS.sel [0] (by kernel_rfl)
            refine At.weaken [2, 3] (L' := [(2, .slice none 0 0), (3, .int .i64 2)]) (by kernel_rfl) ?_
            exact hn0 (([] : List Int), 2) none 0 _ rfl hS
          · replace H := ite_f H hb25
            refine WC.skip (by kernel_rfl) ?_
            refine At.go ?_
            refine WC.reg [0, 1, 2, 3, 4] (by kernel_rfl) (by kernel_rfl) ?_
            refine WR.runk [0, 1, 2] [3, 4] [0, 4, 20, 21, 22, 30, 31, 32, 33, 36, 37, 38, 39, 42, 43, 44] (L' := [(0, .slice A0 l0.length c0), (4, .slice A4_l2 x4_l2.length c4_l2), (20, .slice A0 l0.length c0), (21, .int .i64 (l0.length : Int)), (22, .int .i64 x22_l2), (30, .int .i64 v19), (31, .slice A0 l0.length c0), (32, .int .i64 (l0.length : Int)), (33, .bool (decide (v19 ≥ (l0.length : Int)))), (36, .slice A4_l2 x4_l2.length c4_l2), (37, .int .i64 v19), (38, .pointer (some (adr A4_l2 v19.toNat 1))), (39, .int .i64 v23), (42, .slice A4_l2 x4_l2.length c4_l2), (43, .int .i64 v19), (44, .int .i64 x22_l2)]) (w' := w) (by kernel_rfl) ?_
            refine WR.st (St.ofP (PSt.idx (k := .i64) (.tmp 42) (.tmp 43) (by kernel_rfl) (by kernel_rfl) E23 (by kernel_rfl) (by kernel_rfl) (Sat.rdAt 0 hS rfl) e24 ?_))
            refine WR.runk [] [4] [0, 4, 20, 21, 22, 30, 31, 32, 33, 36, 37, 38, 39, 44, 45] (L' := [(0, .slice A0 l0.length c0), (4, .slice A4_l2 x4_l2.length c4_l2), (20, .slice A0 l0.length c0), (21, .int .i64 (l0.length : Int)), (22, .int .i64 x22_l2), (30, .int .i64 v19), (31, .slice A0 l0.length c0), (32, .int .i64 (l0.length : Int)), (33, .bool (decide (v19 ≥ (l0.length : Int)))), (36, .slice A4_l2 x4_l2.length c4_l2), (37, .int .i64 v19), (38, .pointer (some (adr A4_l2 v19.toNat 1))), (39, .int .i64 v23), (44, .int .i64 x22_l2), (45, .pointer (some (adr A4_l2 v19.toNat 1)))]) (w' := w) (by kernel_rfl) ?_
            obtain ⟨y26, e27, H⟩ := bind_ex H
            refine WR.st (St.storeElem' (t := 3) (.tmp 45) (.tmp 44) (by kernel_rfl) (by kernel_rfl) (by kernel_rfl) hS (by kernel_rfl) (by kernel_rfl) rfl e27 rfl (fun w28 hS => ?_))
            have hl29 := set?_len e27
            refine WR.know 4 (.slice A4_l2 y26.length c4_l2) (.slice A4_l2 x4_l2.length c4_l2) (by kernel_rfl) (by rw [hl29]) ?_
            refine WR.know 36 (.slice A4_l2 y26.length c4_l2) (.slice A4_l2 x4_l2.length c4_l2) (by kernel_rfl) (by rw [hl29]) ?_
            refine WR.runk [] [] [0, 4, 20, 21, 22, 30, 31, 32, 33, 36, 37, 38, 39] (L' := [(0, .slice A0 l0.length c0), (4, .slice A4_l2 y26.length c4_l2), (20, .slice A0 l0.length c0), (21, .int .i64 (l0.length : Int)), (22, .int .i64 x22_l2), (30, .int .i64 v19), (31, .slice A0 l0.length c0), (32, .int .i64 (l0.length : Int)), (33, .bool (decide (v19 ≥ (l0.length : Int)))), (36, .slice A4_l2 y26.length c4_l2), (37, .int .i64 v19), (38, .pointer (some (adr A4_l2 v19.toNat 1))), (39, .int .i64 v23)]) (w' := w28) (by kernel_rfl) ?_
            refine WR.nil ?_
            refine At.blockNormal ?_
            refine At.go ?_
            refine WC.reg [0, 1] (by kernel_rfl) (by kernel_rfl) ?_
            refine WR.runk [0, 1] [] [0, 4, 20, 21, 22, 30, 31, 32, 33, 36, 37, 38, 39] (L' := [(0, .slice A0 l0.length c0), (4, .slice A4_l2 y26.length c4_l2), (20, .slice A0 l0.length c0), (21, .int .i64 (l0.length : Int)), (22, .int .i64 (wi (x22_l2 + 1))), (30, .int .i64 v19), (31, .slice A0 l0.length c0), (32, .int .i64 (l0.length : Int)), (33, .bool (decide (v19 ≥ (l0.length : Int)))), (36, .slice A4_l2 y26.length c4_l2), (37, .int .i64 v19), (38, .pointer (some (adr A4_l2 v19.toNat 1))), (39, .int .i64 v23)]) (w' := w28) (by kernel_rfl) ?_
            refine WR.nil ?_
            have hS : Sat w28 (rf w0) [osl 3 (r0 (.int .i64)) 1 A4_l2 c4_l2 y26] := hS.sel [0] (by kernel_rfl)
            refine At.again ?_
            refine WL.weaken [0, 4, 20, 21, 22] (L' := [(0, .slice A0 l0.length c0), (4, .slice A4_l2 y26.length c4_l2), (20, .slice A0 l0.length c0), (21, .int .i64 (l0.length : Int)), (22, .int .i64 (wi (x22_l2 + 1)))]) (by kernel_rfl) ?_
            exact ih y26 (wi (x22_l2 + 1)) A4_l2 c4_l2 _ hS H
    · replace H := ite_f H hb18
      refine WC.exit (by kernel_rfl) ?_
      refine At.thenExit ?_
      refine At.thenExit ?_
      obtain rfl := Option.some.inj H
      have hS : Sat w (rf w0) [osl 3 (r0 (.int .i64)) 1 A4_l2 c4_l2 x4_l2] := hS.sel [0] (by kernel_rfl)
      refine At.weaken [4] (L' := [(4, .slice A4_l2 x4_l2.length c4_l2)]) (by kernel_rfl) ?_
      exact hn1 x4_l2 A4_l2 c4_l2 _ rfl hS
theorem suffix_Turn.calls (w0 : World) (A0 : Option Addr) (c0 : Nat) (l0 : List Int) (R0 : rdS (r0 (.int .i64)) 1 (hp w0) A0 c0 l0) (r : (List Int) × Int) (H : suffix_Turn.f l0 = some r) :
    Calls Try.prog 22 #[.slice A0 l0.length c0] w0 (fun e w' => ∃ v, e = .returned v ∧ suffix_Turn.post w0 r v w') := by
  have hS : Sat w0 (rf w0) [] := Sat.start w0
  unfold suffix_Turn.f at H
  refine calls_of_WC (vs := [.slice A0 l0.length c0]) Try.func22 (c := C22) (n := 48) (by kernel_rfl) (by kernel_rfl) (by kernel_rfl) ?_
  refine WC.seq (by kernel_rfl) ?_
  refine WC.reg [0, 1] (by kernel_rfl) (by kernel_rfl) ?_
  refine WR.runk [0, 1] [] [0] (L' := [(0, .slice A0 l0.length c0)]) (w' := w0) (by kernel_rfl) ?_
  refine WR.nil ?_
  refine At.go ?_
  refine WC.seq (by kernel_rfl) ?_
  refine WC.reg [0, 1, 2, 3] (by kernel_rfl) (by kernel_rfl) ?_
  refine WR.runk [0, 1] [2, 3] [0, 9] (L' := [(0, .slice A0 l0.length c0), (9, .int .i64 (l0.length : Int))]) (w' := w0) (by kernel_rfl) ?_
  obtain ⟨y1, e2, H⟩ := bind_ex H
  refine WR.st (St.make' (t := 23) (e := 3) (sz := 1) (bytes := 8) (k1 := .i64) (k2 := .i64) (R := (r0 (.int .i64))) (.tmp 9) (.tmp 9) (by kernel_rfl) (by kernel_rfl) (.int .i64 0) (by kernel_rfl) (by kernel_rfl) rfl (by kernel_rfl) hS (by kernel_rfl) (by kernel_rfl) 17592186044416 (by kernel_rfl) (by kernel_rfl) e2 (fun A3 c4 w5 hS => ?_))
  refine WR.runk [3] [] [0, 4] (L' := [(0, .slice A0 l0.length c0), (4, .slice A3 y1.length c4)]) (w' := w5) (by kernel_rfl) ?_
  refine WR.nil ?_
  refine At.go ?_
  refine WC.seq (by kernel_rfl) ?_
  refine WC.seq (by kernel_rfl) ?_
  refine WC.reg [0, 1, 2] (by kernel_rfl) (by kernel_rfl) ?_
  refine WR.runk [0, 1, 2] [] [0, 4, 12, 13] (L' := [(0, .slice A0 l0.length c0), (4, .slice A3 y1.length c4), (12, .int .i64 (y1.length : Int)), (13, .int .i64 0)]) (w' := w5) (by kernel_rfl) ?_
  refine WR.nil ?_
  refine At.go ?_
  refine WC.block (by kernel_rfl) ?_
  have hS : Sat w5 (rf w0) [osl 3 (r0 (.int .i64)) 1 A3 c4 y1] := hS.sel [0] (by kernel_rfl)
  obtain ⟨o13, e14, H⟩ := bind_ex H
  refine WC.loop (by kernel_rfl) ?_
  refine WL.weaken [0, 4, 12, 13] (L' := [(0, .slice A0 l0.length c0), (4, .slice A3 y1.length c4), (12, .int .i64 (y1.length : Int)), (13, .int .i64 0)]) (by kernel_rfl) ?_
  refine suffix_Turn.l1_ok w0 A0 c0 l0 y1 o13 (fun A4_q15 c4_q15 w16 hS => ?_) FU y1 0 A3 c4 _ hS e14
  refine At.hit ?_
  refine At.go ?_
  refine WC.seq (by kernel_rfl) ?_
  refine WC.seq (by kernel_rfl) ?_
  refine WC.reg [0, 1, 2] (by kernel_rfl) (by kernel_rfl) ?_
  refine WR.runk [0, 1, 2] [] [0, 4, 20, 21, 22] (L' := [(0, .slice A0 l0.length c0), (4, .slice A4_q15 o13.length c4_q15), (20, .slice A0 l0.length c0), (21, .int .i64 (l0.length : Int)), (22, .int .i64 0)]) (w' := w16) (by kernel_rfl) ?_
  refine WR.nil ?_
  refine At.go ?_
  refine WC.block (by kernel_rfl) ?_
  have hS : Sat w16 (rf w0) [osl 3 (r0 (.int .i64)) 1 A4_q15 c4_q15 o13] := hS.sel [0] (by kernel_rfl)
  obtain ⟨o30, e31, H⟩ := bind_ex H
  refine WC.loop (by kernel_rfl) ?_
  refine WL.weaken [0, 4, 20, 21, 22] (L' := [(0, .slice A0 l0.length c0), (4, .slice A4_q15 o13.length c4_q15), (20, .slice A0 l0.length c0), (21, .int .i64 (l0.length : Int)), (22, .int .i64 0)]) (by kernel_rfl) ?_
  refine suffix_Turn.l2_ok w0 A0 c0 l0 R0 o30 (fun o32 A2_q33 c2_q33 w34 ho35 hS => ?_) (fun o36 A4_q37 c4_q37 w38 ho39 hS => ?_) FU o13 0 A4_q15 c4_q15 _ hS e31
  · subst ho35
    dsimp only at H
    refine At.blockRet ?_
    refine At.thenRet ?_
    obtain rfl := Option.some.inj H
    have hS : Sat w34 (rf w0) [osl 3 (r0 (.int .i64)) 1 A2_q33 c2_q33 o32.1] := hS.sel [0] (by kernel_rfl)
    exact At.body [.slice A2_q33 o32.1.length c2_q33, .int .i64 o32.2] (by kernel_rfl) ⟨_, rfl, _, _, rfl, hS⟩
  · subst ho39
    dsimp only at H
    refine At.hit ?_
    refine At.go ?_
    refine WC.seq (by kernel_rfl) ?_
    refine WC.reg [0, 1, 2] (by kernel_rfl) (by kernel_rfl) ?_
    refine WR.runk [0, 1, 2] [] [2, 3] (L' := [(2, .slice A4_q37 o36.length c4_q37), (3, .int .i64 0)]) (w' := w38) (by kernel_rfl) ?_
    refine WR.nil ?_
    refine At.go ?_
    refine WC.ret (by kernel_rfl) ?_
    obtain rfl := Option.some.inj H
    have hS : Sat w38 (rf w0) [osl 3 (r0 (.int .i64)) 1 A4_q37 c4_q37 o36] := hS.sel [0] (by kernel_rfl)
    exact At.body [.slice A4_q37 o36.length c4_q37, .int .i64 0] (by kernel_rfl) ⟨_, rfl, _, _, rfl, hS⟩
/-! ### 23 (*colophon/text.Text).Len -/
def text_Text_Len.f (p0 : Option ((List (List Int)) × (List Int) × Int)) : Option Int := (match p0 with | none => some 0 | some y3 => some y3.2.2)
def text_Text_Len.post (w : World) (r : Int) (v : Value) (w' : World) : Prop := v = (.int .i64 r : Value) ∧ Sat w' (rf w) []
theorem text_Text_Len.calls (w0 : World) (v0 : Value) (p0 : Option ((List (List Int)) × (List Int) × Int)) (R0 : rd (hp w0) (.ptr 46 (.pair (.slice 44 (.slice 5 (.int .u8))) (.pair (.slice 3 (.int .i64)) (.int .i64)))) [v0] p0) (r : Int) (H : text_Text_Len.f p0 = some r) :
    Calls Try.prog 23 #[v0] w0 (fun e w' => ∃ v, e = .returned v ∧ text_Text_Len.post w0 r v w') := by
  have hS : Sat w0 (rf w0) [] := Sat.start w0
  unfold text_Text_Len.f at H
  refine calls_of_WC (vs := [v0]) Try.func23 (c := C23) (n := 9) (by kernel_rfl) (by kernel_rfl) (by kernel_rfl) ?_
  refine WC.seq (by kernel_rfl) ?_
  refine WC.reg [0] (by kernel_rfl) (by kernel_rfl) ?_
  refine WR.runk [0] [] [0] (L' := [(0, v0)]) (w' := w0) (by kernel_rfl) ?_
  refine WR.nil ?_
  refine At.go ?_
  refine WC.seq (by kernel_rfl) ?_
  refine WC.seq (by kernel_rfl) ?_
  refine WC.reg [0, 1] (by kernel_rfl) (by kernel_rfl) ?_
  refine WR.runk [0] [1] [0, 3] (L' := [(0, v0), (3, v0)]) (w' := w0) (by kernel_rfl) ?_
  rcases opt_cases p0 with hr1 | ⟨y3, hr1⟩
  · rw [hr1] at H
    dsimp only at H
    have hx2 := rd_ptr_none R0 hr1
    try subst hx2
    refine WR.runk [1] [] [0, 4] (L' := [(0, .pointer none), (4, .bool true)]) (w' := w0) (by kernel_rfl) ?_
    refine WR.nil ?_
    refine At.go ?_
    refine WC.condT (by kernel_rfl) (by kernel_rfl) (by kernel_rfl) ?_
    refine WC.seq (by kernel_rfl) ?_
    refine WC.reg [0] (by kernel_rfl) (by kernel_rfl) ?_
    refine WR.runk [0] [] [2] (L' := [(2, .int .i64 0)]) (w' := w0) (by kernel_rfl) ?_
    refine WR.nil ?_
    refine At.go ?_
    refine WC.ret (by kernel_rfl) ?_
    refine At.thenRet ?_
    obtain rfl := Option.some.inj H
    have hS : Sat w0 (rf w0) [] := hS.sel [] (by kernel_rfl)
    exact At.body [.int .i64 0] (by kernel_rfl) ⟨_, rfl, rfl, hS⟩
  · rw [hr1] at H
    dsimp only at H
    obtain ⟨b4, fr5, A9, c10, A12, c13, hv6, hb7, R11, R14⟩ := P46.open R0 hr1
    have R8 := R0
    rw [hv6, hr1] at R8
    try subst hv6
    replace R11 : rdS (rd (hp w0) (.slice 5 (.int .u8))) 1 (hp w0) A9 c10 y3.1 := R11
    replace R14 : rdS (r0 (.int .i64)) 1 (hp w0) A12 c13 y3.2.1 := R14
    refine WR.runk [1] [] [0, 4] (L' := [(0, .pointer (some ⟨b4, 0, none⟩)), (4, .bool false)]) (w' := w0) (by kernel_rfl) ?_
    refine WR.nil ?_
    refine At.go ?_
    refine WC.condF (by kernel_rfl) (by kernel_rfl) (by kernel_rfl) ?_
    refine WC.skip (by kernel_rfl) ?_
    refine At.go ?_
    refine WC.seq (by kernel_rfl) ?_
    refine WC.reg [0, 1, 2, 3, 4] (by kernel_rfl) (by kernel_rfl) ?_
    refine WR.runk [0, 1, 2] [3, 4] [7] (L' := [(7, .pointer (some ⟨b4, 2, none⟩))]) (w' := w0) (by kernel_rfl) ?_
    refine WR.st (St.ofR (RSt.loadRo (t := 3) (k := 2) (v := .int .i64 y3.2.2) (.tmp 7) (by kernel_rfl) (by kernel_rfl) (by kernel_rfl) hS.sub0 hb7 (by kernel_rfl) rfl ?_))
    refine WR.runk [4] [] [2] (L' := [(2, .int .i64 y3.2.2)]) (w' := w0) (by kernel_rfl) ?_
    refine WR.nil ?_
    refine At.go ?_
    refine WC.ret (by kernel_rfl) ?_
    obtain rfl := Option.some.inj H
    have hS : Sat w0 (rf w0) [] := hS.sel [] (by kernel_rfl)
    exact At.body [.int .i64 y3.2.2] (by kernel_rfl) ⟨_, rfl, rfl, hS⟩
/-! ### 25 sort.SearchInts -/
def sort_SearchInts.l1 (l0 : List Int) (a1 : Int) : Nat → Int → Int → Option Int
  | 0, _, _ => none
  | k + 1, x5_l1, x6_l1 => (if decide (x5_l1 < x6_l1) then ((at? l0 (wi (ishr .u64 (IntKind.wrap .u64 (wi (x5_l1 + x6_l1))) 1))).bind fun v10 => (if (!(decide (v10 ≥ a1))) then sort_SearchInts.l1 l0 a1 k (wi ((wi (ishr .u64 (IntKind.wrap .u64 (wi (x5_l1 + x6_l1))) 1)) + 1)) x6_l1 else sort_SearchInts.l1 l0 a1 k x5_l1 (wi (ishr .u64 (IntKind.wrap .u64 (wi (x5_l1 + x6_l1))) 1)))) else some x5_l1)
def sort_SearchInts.f (l0 : List Int) (a1 : Int) : Option Int := ((sort_SearchInts.l1 l0 a1 FU 0 (l0.length : Int)).bind fun o13 => some o13)
def sort_SearchInts.post (w : World) (r : Int) (v : Value) (w' : World) : Prop := v = (.int .i64 r : Value) ∧ Sat w' (rf w) []
theorem sort_SearchInts.l1_ok {Q} (w0 : World) (A0 : Option Addr) (c0 : Nat) (l0 : List Int) (a1 : Int) (b1 : Nat) (b4 : Nat) (R0 : rdS (r0 (.int .i64)) 1 (hp w0) A0 c0 l0) (out : Int) (hn0 : ∀ (w : World), Sat w (rf w0) [pts b4 (.cells #[.int .i64 a1] 3 (0, 0)), pts b1 (.cells #[.slice A0 l0.length c0] 23 (0, 0))] → At Q (.exit 0) 26 [(5, .int .i64 out)] w) :
    ∀ (k : Nat) (x5_l1 : Int) (x6_l1 : Int) (w : World), Sat w (rf w0) [pts b4 (.cells #[.int .i64 a1] 3 (0, 0)), pts b1 (.cells #[.slice A0 l0.length c0] 23 (0, 0))] → sort_SearchInts.l1 l0 a1 k x5_l1 x6_l1 = some out → WL Try.prog (cbody (cbody (cl (cr (cr C26))))) Q 26 [(1, .func (.func 27) #[] #[.pointer (some ⟨b1, 0, none⟩), .pointer (some ⟨b4, 0, none⟩)]), (5, .int .i64 x5_l1), (6, .int .i64 x6_l1)] w := by
  intro k
  induction k with
  | zero => intro x5_l1 x6_l1 w hS H; exact absurd (show none = some out from H) (by simp)
  | succ k ih =>
    intro x5_l1 x6_l1 w hS H
    unfold sort_SearchInts.l1 at H
    refine WL.round ?_
    refine WC.seq (by kernel_rfl) ?_
    refine WC.seq (by kernel_rfl) ?_
    refine WC.reg [0, 1, 2] (by kernel_rfl) (by kernel_rfl) ?_
    refine WR.runk [0, 1, 2] [] [1, 5, 6, 11] (L' := [(1, .func (.func 27) #[] #[.pointer (some ⟨b1, 0, none⟩), .pointer (some ⟨b4, 0, none⟩)]), (5, .int .i64 x5_l1), (6, .int .i64 x6_l1), (11, .bool (decide (x5_l1 < x6_l1)))]) (w' := w) (by kernel_rfl) ?_
    refine WR.nil ?_
    refine At.go ?_
    refine WC.cond (by kernel_rfl) (decide (x5_l1 < x6_l1)) (by kernel_rfl) (by kernel_rfl) (fun hb7 => ?_) (fun hb7 => ?_)
    · replace H := ite_t H hb7
      refine WC.skip (by kernel_rfl) ?_
      refine At.go ?_
      refine WC.block (by kernel_rfl) ?_
      refine WC.seq (by kernel_rfl) ?_
      refine WC.reg [0, 1, 2, 3, 4, 5, 6] (by kernel_rfl) (by kernel_rfl) ?_
      refine WR.runk [0, 1, 2, 3, 4, 5, 6] [] [1, 5, 6, 7] (L' := [(1, .func (.func 27) #[] #[.pointer (some ⟨b1, 0, none⟩), .pointer (some ⟨b4, 0, none⟩)]), (5, .int .i64 x5_l1), (6, .int .i64 x6_l1), (7, .int .i64 (wi (ishr .u64 (IntKind.wrap .u64 (wi (x5_l1 + x6_l1))) 1)))]) (w' := w) (by kernel_rfl) ?_
      refine WR.nil ?_
      refine At.go ?_
      refine WC.seq (by kernel_rfl) ?_
      refine WC.reg [0, 1, 2, 3] (by kernel_rfl) (by kernel_rfl) ?_
      refine WR.runk [0, 1] [2, 3] [1, 5, 6, 7, 18, 19] (L' := [(1, .func (.func 27) #[] #[.pointer (some ⟨b1, 0, none⟩), .pointer (some ⟨b4, 0, none⟩)]), (5, .int .i64 x5_l1), (6, .int .i64 x6_l1), (7, .int .i64 (wi (ishr .u64 (IntKind.wrap .u64 (wi (x5_l1 + x6_l1))) 1))), (18, .func (.func 27) #[] #[.pointer (some ⟨b1, 0, none⟩), .pointer (some ⟨b4, 0, none⟩)]), (19, .int .i64 (wi (ishr .u64 (IntKind.wrap .u64 (wi (x5_l1 + x6_l1))) 1)))]) (w' := w) (by kernel_rfl) ?_
      refine WR.st (St.call (by kernel_rfl) (f := 27) (args := #[.int .i64 (wi (ishr .u64 (IntKind.wrap .u64 (wi (x5_l1 + x6_l1))) 1)), .pointer (some ⟨b1, 0, none⟩), .pointer (some ⟨b4, 0, none⟩)]) (by kernel_rfl) (calls_of_WC (vs := [.int .i64 (wi (ishr .u64 (IntKind.wrap .u64 (wi (x5_l1 + x6_l1))) 1)), .pointer (some ⟨b1, 0, none⟩), .pointer (some ⟨b4, 0, none⟩)]) Try.func27 (c := C27) (n := 11) (by kernel_rfl) (by kernel_rfl) (by kernel_rfl) ?_) (fun _ _ h => h))
      refine WC.seq (by kernel_rfl) ?_
      refine WC.reg [0] (by kernel_rfl) (by kernel_rfl) ?_
      refine WR.runk [0] [] [0, 1, 2] (L' := [(0, .int .i64 (wi (ishr .u64 (IntKind.wrap .u64 (wi (x5_l1 + x6_l1))) 1))), (1, .pointer (some ⟨b1, 0, none⟩)), (2, .pointer (some ⟨b4, 0, none⟩))]) (w' := w) (by kernel_rfl) ?_
      refine WR.nil ?_
      refine At.go ?_
      refine WC.seq (by kernel_rfl) ?_
      refine WC.drawn (by kernel_rfl) (by kernel_rfl) 7 (by kernel_rfl) (fun w8 hw9 => ?_)
      have hS := hS.heap hw9.1 hw9.2
      refine WD.weaken [0, 1, 2] (L' := [(0, .int .i64 (wi (ishr .u64 (IntKind.wrap .u64 (wi (x5_l1 + x6_l1))) 1))), (1, .pointer (some ⟨b1, 0, none⟩)), (2, .pointer (some ⟨b4, 0, none⟩))]) (by kernel_rfl) ?_
      refine WD.ofR (i := 0) (by kernel_rfl) (RSt.loadObj (t := 23) (k := 0) (v := .slice A0 l0.length c0) (.tmp 1) (by kernel_rfl) (by kernel_rfl) (by kernel_rfl) 1 hS rfl (by kernel_rfl) rfl ?_)
      refine WD.weaken [0, 2, 5] (L' := [(0, .int .i64 (wi (ishr .u64 (IntKind.wrap .u64 (wi (x5_l1 + x6_l1))) 1))), (2, .pointer (some ⟨b4, 0, none⟩)), (5, .slice A0 l0.length c0)]) (by kernel_rfl) ?_
      refine WD.pure (i := 1) (v := .int .i64 (wi (ishr .u64 (IntKind.wrap .u64 (wi (x5_l1 + x6_l1))) 1))) (by kernel_rfl) (by kernel_rfl) (fun _ => by kernel_rfl) ?_
      refine WD.weaken [2, 5, 6] (L' := [(2, .pointer (some ⟨b4, 0, none⟩)), (5, .slice A0 l0.length c0), (6, .int .i64 (wi (ishr .u64 (IntKind.wrap .u64 (wi (x5_l1 + x6_l1))) 1)))]) (by kernel_rfl) ?_
      obtain ⟨v10, e11, H⟩ := bind_ex H
      refine WD.ofP (i := 2) (by kernel_rfl) (PSt.idx (k := .i64) (.tmp 5) (.tmp 6) (by kernel_rfl) (by kernel_rfl) E23 (by kernel_rfl) (by kernel_rfl) (rdS.up R0 hS.sub0) e11 ?_)
      refine WD.weaken [2, 7] (L' := [(2, .pointer (some ⟨b4, 0, none⟩)), (7, .pointer (some (adr A0 (wi (ishr .u64 (IntKind.wrap .u64 (wi (x5_l1 + x6_l1))) 1)).toNat 1)))]) (by kernel_rfl) ?_
      refine WD.ofR (i := 3) (by kernel_rfl) (RSt.loadInt (t := 3) (.tmp 7) (by kernel_rfl) (by kernel_rfl) (by kernel_rfl) (by kernel_rfl) (rdS.up R0 hS.sub0) e11 ?_)
      refine WD.weaken [2, 8] (L' := [(2, .pointer (some ⟨b4, 0, none⟩)), (8, .int .i64 v10)]) (by kernel_rfl) ?_
      refine WD.ofR (i := 4) (by kernel_rfl) (RSt.loadObj (t := 3) (k := 0) (v := .int .i64 a1) (.tmp 2) (by kernel_rfl) (by kernel_rfl) (by kernel_rfl) 0 hS rfl (by kernel_rfl) rfl ?_)
      refine WD.weaken [8, 9] (L' := [(8, .int .i64 v10), (9, .int .i64 a1)]) (by kernel_rfl) ?_
      refine WD.pure (i := 5) (v := .bool (decide (v10 ≥ a1))) (by kernel_rfl) (by kernel_rfl) (fun _ => by kernel_rfl) ?_
      refine WD.weaken [10] (L' := [(10, .bool (decide (v10 ≥ a1)))]) (by kernel_rfl) ?_
      refine WD.pure (i := 6) (v := .bool (decide (v10 ≥ a1))) (by kernel_rfl) (by kernel_rfl) (fun _ => by kernel_rfl) ?_
      refine WD.weaken [4] (L' := [(4, .bool (decide (v10 ≥ a1)))]) (by kernel_rfl) ?_
      refine WD.nil (by kernel_rfl) ?_
      refine At.go ?_
      refine WC.ret (by kernel_rfl) ?_
      refine At.bodyK [.bool (decide (v10 ≥ a1))] (.bool (decide (v10 ≥ a1))) (by kernel_rfl) rfl ?_
      refine WR.runk [3] [] [1, 5, 6, 7, 21] (L' := [(1, .func (.func 27) #[] #[.pointer (some ⟨b1, 0, none⟩), .pointer (some ⟨b4, 0, none⟩)]), (5, .int .i64 x5_l1), (6, .int .i64 x6_l1), (7, .int .i64 (wi (ishr .u64 (IntKind.wrap .u64 (wi (x5_l1 + x6_l1))) 1))), (21, .bool (!(decide (v10 ≥ a1))))]) (w' := w8) (by kernel_rfl) ?_
      refine WR.nil ?_
      refine At.go ?_
      refine WC.cond (by kernel_rfl) (!(decide (v10 ≥ a1))) (by kernel_rfl) (by kernel_rfl) (fun hb12 => ?_) (fun hb12 => ?_)
      · replace H := ite_t H hb12
        refine WC.reg [0, 1, 2] (by kernel_rfl) (by kernel_rfl) ?_
        refine WR.runk [0, 1, 2] [] [1, 5, 6] (L' := [(1, .func (.func 27) #[] #[.pointer (some ⟨b1, 0, none⟩), .pointer (some ⟨b4, 0, none⟩)]), (5, .int .i64 (wi ((wi (ishr .u64 (IntKind.wrap .u64 (wi (x5_l1 + x6_l1))) 1)) + 1))), (6, .int .i64 x6_l1)]) (w' := w8) (by kernel_rfl) ?_
        refine WR.nil ?_
        refine At.blockNormal ?_
        have hS : Sat w8 (rf w0) [pts b4 (.cells #[.int .i64 a1] 3 (0, 0)), pts b1 (.cells #[.slice A0 l0.length c0] 23 (0, 0))] := hS.sel [0, 1] (by kernel_rfl)
        refine At.again ?_
        refine WL.weaken [1, 5, 6] (L' := [(1, .func (.func 27) #[] #[.pointer (some ⟨b1, 0, none⟩), .pointer (some ⟨b4, 0, none⟩)]), (5, .int .i64 (wi ((wi (ishr .u64 (IntKind.wrap .u64 (wi (x5_l1 + x6_l1))) 1)) + 1))), (6, .int .i64 x6_l1)]) (by kernel_rfl) ?_
        exact ih (wi ((wi (ishr .u64 (IntKind.wrap .u64 (wi (x5_l1 + x6_l1))) 1)) + 1)) x6_l1 _ hS H
      · replace H := ite_f H hb12
        refine WC.reg [0, 1] (by kernel_rfl) (by kernel_rfl) ?_
        refine WR.runk [0, 1] [] [1, 5, 6] (L' := [(1, .func (.func 27) #[] #[.pointer (some ⟨b1, 0, none⟩), .pointer (some ⟨b4, 0, none⟩)]), (5, .int .i64 x5_l1), (6, .int .i64 (wi (ishr .u64 (IntKind.wrap .u64 (wi (x5_l1 + x6_l1))) 1)))]) (w' := w8) (by kernel_rfl) ?_
        refine WR.nil ?_
        refine At.blockNormal ?_
        have hS : Sat w8 (rf w0) [pts b4 (.cells #[.int .i64 a1] 3 (0, 0)), pts b1 (.cells #[.slice A0 l0.length c0] 23 (0, 0))] := hS.sel [0, 1] (by kernel_rfl)
        refine At.again ?_
        refine WL.weaken [1, 5, 6] (L' := [(1, .func (.func 27) #[] #[.pointer (some ⟨b1, 0, none⟩), .pointer (some ⟨b4, 0, none⟩)]), (5, .int .i64 x5_l1), (6, .int .i64 (wi (ishr .u64 (IntKind.wrap .u64 (wi (x5_l1 + x6_l1))) 1)))]) (by kernel_rfl) ?_
        exact ih x5_l1 (wi (ishr .u64 (IntKind.wrap .u64 (wi (x5_l1 + x6_l1))) 1)) _ hS H
    · replace H := ite_f H hb7
      refine WC.exit (by kernel_rfl) ?_
      refine At.thenExit ?_
      refine At.thenExit ?_
      obtain rfl := Option.some.inj H
      have hS : Sat w (rf w0) [pts b4 (.cells #[.int .i64 a1] 3 (0, 0)), pts b1 (.cells #[.slice A0 l0.length c0] 23 (0, 0))] := hS.sel [0, 1] (by kernel_rfl)
      refine At.weaken [5] (L' := [(5, .int .i64 x5_l1)]) (by kernel_rfl) ?_
      exact hn0 _ hS
theorem sort_SearchInts.calls (w0 : World) (A0 : Option Addr) (c0 : Nat) (l0 : List Int) (R0 : rdS (r0 (.int .i64)) 1 (hp w0) A0 c0 l0) (a1 : Int) (r : Int) (H : sort_SearchInts.f l0 a1 = some r) :
    Calls Try.prog 25 #[.slice A0 l0.length c0, .int .i64 a1] w0 (fun e w' => ∃ v, e = .returned v ∧ sort_SearchInts.post w0 r v w') := by
  have hS : Sat w0 (rf w0) [] := Sat.start w0
  unfold sort_SearchInts.f at H
  refine calls_of_WC (vs := [.slice A0 l0.length c0, .int .i64 a1]) Try.func25 (c := C25) (n := 9) (by kernel_rfl) (by kernel_rfl) (by kernel_rfl) ?_
  refine WC.seq (by kernel_rfl) ?_
  refine WC.reg [0, 1, 2] (by kernel_rfl) (by kernel_rfl) ?_
  refine WR.runk [] [0, 1, 2] [0, 1] (L' := [(0, .slice A0 l0.length c0), (1, .int .i64 a1)]) (w' := w0) (by kernel_rfl) ?_
  refine WR.st (St.box hS (by kernel_rfl) (.cells #[.slice A0 l0.length c0] 23) (fun b1 => .pointer (some ⟨b1, 0, none⟩)) (fun _ => by kernel_rfl) (fun b1 w2 hS => ?_))
  refine WR.runk [] [1, 2] [1, 2] (L' := [(1, .int .i64 a1), (2, .pointer (some ⟨b1, 0, none⟩))]) (w' := w2) (by kernel_rfl) ?_
  refine WR.st (St.box hS (by kernel_rfl) (.cells #[.int .i64 a1] 3) (fun b4 => .pointer (some ⟨b4, 0, none⟩)) (fun _ => by kernel_rfl) (fun b4 w5 hS => ?_))
  refine WR.runk [2] [] [2, 3] (L' := [(2, .pointer (some ⟨b1, 0, none⟩)), (3, .pointer (some ⟨b4, 0, none⟩))]) (w' := w5) (by kernel_rfl) ?_
  refine WR.nil ?_
  refine At.go ?_
  refine WC.seq (by kernel_rfl) ?_
  refine WC.reg [0, 1, 2, 3, 4] (by kernel_rfl) (by kernel_rfl) ?_
  refine WR.st (St.ofR (RSt.loadObj (t := 23) (k := 0) (v := .slice A0 l0.length c0) (.tmp 2) (by kernel_rfl) (by kernel_rfl) (by kernel_rfl) 1 hS rfl (by kernel_rfl) rfl ?_))
  refine WR.runk [1, 2] [3, 4] [6, 7] (L' := [(6, .int .i64 (l0.length : Int)), (7, .func (.func 27) #[] #[.pointer (some ⟨b1, 0, none⟩), .pointer (some ⟨b4, 0, none⟩)])]) (w' := w5) (by kernel_rfl) ?_
  refine WR.st (St.call (by kernel_rfl) (f := 26) (args := #[.int .i64 (l0.length : Int), .func (.func 27) #[] #[.pointer (some ⟨b1, 0, none⟩), .pointer (some ⟨b4, 0, none⟩)]]) (by kernel_rfl) (calls_of_WC (vs := [.int .i64 (l0.length : Int), .func (.func 27) #[] #[.pointer (some ⟨b1, 0, none⟩), .pointer (some ⟨b4, 0, none⟩)]]) Try.func26 (c := C26) (n := 26) (by kernel_rfl) (by kernel_rfl) (by kernel_rfl) ?_) (fun _ _ h => h))
  refine WC.seq (by kernel_rfl) ?_
  refine WC.reg [0] (by kernel_rfl) (by kernel_rfl) ?_
  refine WR.runk [0] [] [0, 1] (L' := [(0, .int .i64 (l0.length : Int)), (1, .func (.func 27) #[] #[.pointer (some ⟨b1, 0, none⟩), .pointer (some ⟨b4, 0, none⟩)])]) (w' := w5) (by kernel_rfl) ?_
  refine WR.nil ?_
  refine At.go ?_
  refine WC.seq (by kernel_rfl) ?_
  refine WC.reg [0, 1, 2] (by kernel_rfl) (by kernel_rfl) ?_
  refine WR.runk [0, 1, 2] [] [1, 5, 6] (L' := [(1, .func (.func 27) #[] #[.pointer (some ⟨b1, 0, none⟩), .pointer (some ⟨b4, 0, none⟩)]), (5, .int .i64 0), (6, .int .i64 (l0.length : Int))]) (w' := w5) (by kernel_rfl) ?_
  refine WR.nil ?_
  refine At.go ?_
  refine WC.seq (by kernel_rfl) ?_
  refine WC.block (by kernel_rfl) ?_
  have hS : Sat w5 (rf w0) [pts b4 (.cells #[.int .i64 a1] 3 (0, 0)), pts b1 (.cells #[.slice A0 l0.length c0] 23 (0, 0))] := hS.sel [0, 1] (by kernel_rfl)
  obtain ⟨o13, e14, H⟩ := bind_ex H
  refine WC.loop (by kernel_rfl) ?_
  refine WL.weaken [1, 5, 6] (L' := [(1, .func (.func 27) #[] #[.pointer (some ⟨b1, 0, none⟩), .pointer (some ⟨b4, 0, none⟩)]), (5, .int .i64 0), (6, .int .i64 (l0.length : Int))]) (by kernel_rfl) ?_
  refine sort_SearchInts.l1_ok w0 A0 c0 l0 a1 b1 b4 R0 o13 (fun w16 hS => ?_) FU 0 (l0.length : Int) _ hS e14
  refine At.hit ?_
  refine At.go ?_
  refine WC.seq (by kernel_rfl) ?_
  refine WC.reg [0, 1] (by kernel_rfl) (by kernel_rfl) ?_
  refine WR.runk [0, 1] [] [4] (L' := [(4, .int .i64 o13)]) (w' := w16) (by kernel_rfl) ?_
  refine WR.nil ?_
  refine At.go ?_
  refine WC.ret (by kernel_rfl) ?_
  refine At.bodyK [.int .i64 o13] (.int .i64 o13) (by kernel_rfl) rfl ?_
  refine WR.runk [4] [] [4] (L' := [(4, .int .i64 o13)]) (w' := w16) (by kernel_rfl) ?_
  refine WR.nil ?_
  refine At.go ?_
  refine WC.ret (by kernel_rfl) ?_
  obtain rfl := Option.some.inj H
  have hS : Sat w16 (rf w0) [] := hS.sel [] (by kernel_rfl)
  exact At.body [.int .i64 o13] (by kernel_rfl) ⟨_, rfl, rfl, hS⟩
/-! ### 24 (*colophon/text.Text).Doc -/
def text_Text_Doc.f (p0 : Option ((List (List Int)) × (List Int) × Int)) (a1 : Int) : Option (Int × Int) := (if decide (a1 < 0) then some ((-1), (-1)) else ((text_Text_Len.f p0).bind fun r2 => (if decide (a1 ≥ r2) then some ((-1), (-1)) else (p0.bind fun y14 => ((sort_SearchInts.f y14.2.1 (wi (a1 + 1))).bind fun r26 => ((at? y14.2.1 (wi (r26 - 1))).bind fun v37 => some (wi (r26 - 1), wi (a1 - v37))))))))
def text_Text_Doc.post (w : World) (r : Int × Int) (v : Value) (w' : World) : Prop := v = .tuple #[.int .i64 r.1, .int .i64 r.2] ∧ Sat w' (rf w) []
theorem text_Text_Doc.calls (w0 : World) (v0 : Value) (p0 : Option ((List (List Int)) × (List Int) × Int)) (R0 : rd (hp w0) (.ptr 46 (.pair (.slice 44 (.slice 5 (.int .u8))) (.pair (.slice 3 (.int .i64)) (.int .i64)))) [v0] p0) (a1 : Int) (r : Int × Int) (H : text_Text_Doc.f p0 a1 = some r) :
    Calls Try.prog 24 #[v0, .int .i64 a1] w0 (fun e w' => ∃ v, e = .returned v ∧ text_Text_Doc.post w0 r v w') := by
  have hS : Sat w0 (rf w0) [] := Sat.start w0
  unfold text_Text_Doc.f at H
  refine calls_of_WC (vs := [v0, .int .i64 a1]) Try.func24 (c := C24) (n := 33) (by kernel_rfl) (by kernel_rfl) (by kernel_rfl) ?_
  refine WC.seq (by kernel_rfl) ?_
  refine WC.reg [0, 1] (by kernel_rfl) (by kernel_rfl) ?_
  refine WR.runk [0, 1] [] [0, 1] (L' := [(0, v0), (1, .int .i64 a1)]) (w' := w0) (by kernel_rfl) ?_
  refine WR.nil ?_
  refine At.go ?_
  refine WC.seq (by kernel_rfl) ?_
  refine WC.seq (by kernel_rfl) ?_
  refine WC.reg [0, 1, 2, 3, 4, 5, 6, 7] (by kernel_rfl) (by kernel_rfl) ?_
  refine WR.runk [0, 1, 2] [3, 4, 5, 6, 7] [0, 1, 9] (L' := [(0, v0), (1, .int .i64 a1), (9, .bool (decide (a1 < 0)))]) (w' := w0) (by kernel_rfl) ?_
  refine WR.split 9 (b := decide (a1 < 0)) (by kernel_rfl) (fun hb1 => ?_) (fun hb1 => ?_)
  · replace H := ite_t H hb1
    refine WR.runk [3, 4, 5, 6, 7] [] [0, 1, 14] (L' := [(0, v0), (1, .int .i64 a1), (14, .bool true)]) (w' := w0) (by kernel_rfl) ?_
    refine WR.nil ?_
    refine At.go ?_
    refine WC.condT (by kernel_rfl) (by kernel_rfl) (by kernel_rfl) ?_
    refine WC.seq (by kernel_rfl) ?_
    refine WC.reg [0, 1] (by kernel_rfl) (by kernel_rfl) ?_
    refine WR.runk [0, 1] [] [4, 5] (L' := [(4, .int .i64 (-1)), (5, .int .i64 (-1))]) (w' := w0) (by kernel_rfl) ?_
    refine WR.nil ?_
    refine At.go ?_
    refine WC.ret (by kernel_rfl) ?_
    refine At.thenRet ?_
    obtain rfl := Option.some.inj H
    have hS : Sat w0 (rf w0) [] := hS.sel [] (by kernel_rfl)
    exact At.body [.int .i64 (-1), .int .i64 (-1)] (by kernel_rfl) ⟨_, rfl, rfl, hS⟩
  · replace H := ite_f H hb1
    refine WR.runk [3, 4] [5, 6, 7] [0, 1, 9, 10, 11] (L' := [(0, v0), (1, .int .i64 a1), (9, .bool false), (10, .int .i64 a1), (11, v0)]) (w' := w0) (by kernel_rfl) ?_
    obtain ⟨r2, e3, H⟩ := bind_ex H
    refine WR.st (St.call (by kernel_rfl) (f := 23) (args := #[v0]) (by kernel_rfl) (text_Text_Len.calls w0 (v0) p0 (rd.mono hS.sub0 _ _ _ R0) r2 e3) ?_)
    rintro _ w9 ⟨rfl, hS10⟩
    have hS : Sat w9 (rf w0) [] := hS.ext hS10
    refine WR.runk [6, 7] [] [0, 1, 14] (L' := [(0, v0), (1, .int .i64 a1), (14, .bool (decide (a1 ≥ r2)))]) (w' := w9) (by kernel_rfl) ?_
    refine WR.nil ?_
    refine At.go ?_
    refine WC.cond (by kernel_rfl) (decide (a1 ≥ r2)) (by kernel_rfl) (by kernel_rfl) (fun hb11 => ?_) (fun hb11 => ?_)
    · replace H := ite_t H hb11
      refine WC.seq (by kernel_rfl) ?_
      refine WC.reg [0, 1] (by kernel_rfl) (by kernel_rfl) ?_
      refine WR.runk [0, 1] [] [4, 5] (L' := [(4, .int .i64 (-1)), (5, .int .i64 (-1))]) (w' := w9) (by kernel_rfl) ?_
      refine WR.nil ?_
      refine At.go ?_
      refine WC.ret (by kernel_rfl) ?_
      refine At.thenRet ?_
      obtain rfl := Option.some.inj H
      have hS : Sat w9 (rf w0) [] := hS.sel [] (by kernel_rfl)
      exact At.body [.int .i64 (-1), .int .i64 (-1)] (by kernel_rfl) ⟨_, rfl, rfl, hS⟩
    · replace H := ite_f H hb11
      refine WC.skip (by kernel_rfl) ?_
      refine At.go ?_
      refine WC.seq (by kernel_rfl) ?_
      refine WC.reg [0, 1, 2, 3, 4, 5, 6, 7, 8] (by kernel_rfl) (by kernel_rfl) ?_
      refine WR.runk [0] [1, 2, 3, 4, 5, 6, 7, 8] [0, 1, 15] (L' := [(0, v0), (1, .int .i64 a1), (15, v0)]) (w' := w9) (by kernel_rfl) ?_
      obtain ⟨y14, hr12, H⟩ := bind_ex H
      obtain ⟨b15, fr16, A20, c21, A23, c24, hv17, hb18, R22, R25⟩ := P46.open R0 hr12
      have R19 := R0
      rw [hv17, hr12] at R19
      try subst hv17
      replace R22 : rdS (rd (hp w0) (.slice 5 (.int .u8))) 1 (hp w0) A20 c21 y14.1 := R22
      replace R25 : rdS (r0 (.int .i64)) 1 (hp w0) A23 c24 y14.2.1 := R25
      refine WR.runk [1, 2] [3, 4, 5, 6, 7, 8] [0, 1, 17] (L' := [(0, .pointer (some ⟨b15, 0, none⟩)), (1, .int .i64 a1), (17, .pointer (some ⟨b15, 1, none⟩))]) (w' := w9) (by kernel_rfl) ?_
      refine WR.st (St.ofR (RSt.loadRo (t := 23) (k := 1) (v := .slice A23 y14.2.1.length c24) (.tmp 17) (by kernel_rfl) (by kernel_rfl) (by kernel_rfl) hS.sub0 hb18 (by kernel_rfl) rfl ?_))
      refine WR.runk [4, 5] [6, 7, 8] [0, 1, 18, 20] (L' := [(0, .pointer (some ⟨b15, 0, none⟩)), (1, .int .i64 a1), (18, .slice A23 y14.2.1.length c24), (20, .int .i64 (wi (a1 + 1)))]) (w' := w9) (by kernel_rfl) ?_
      obtain ⟨r26, e27, H⟩ := bind_ex H
      refine WR.st (St.call (by kernel_rfl) (f := 25) (args := #[.slice A23 y14.2.1.length c24, .int .i64 (wi (a1 + 1))]) (by kernel_rfl) (sort_SearchInts.calls w9 A23 c24 y14.2.1 (rdS.up R25 hS.sub0) (wi (a1 + 1)) r26 e27) ?_)
      rintro _ w33 ⟨rfl, hS34⟩
      have hS : Sat w33 (rf w0) [] := hS.ext hS34
      refine WR.runk [7, 8] [] [0, 1, 6] (L' := [(0, .pointer (some ⟨b15, 0, none⟩)), (1, .int .i64 a1), (6, .int .i64 (wi (r26 - 1)))]) (w' := w33) (by kernel_rfl) ?_
      refine WR.nil ?_
      refine At.go ?_
      refine WC.seq (by kernel_rfl) ?_
      refine WC.drawn (by kernel_rfl) (by kernel_rfl) 12 (by kernel_rfl) (fun w35 hw36 => ?_)
      have hS := hS.heap hw36.1 hw36.2
      refine WD.weaken [0, 1, 6] (L' := [(0, .pointer (some ⟨b15, 0, none⟩)), (1, .int .i64 a1), (6, .int .i64 (wi (r26 - 1)))]) (by kernel_rfl) ?_
      refine WD.pure (i := 0) (v := .int .i64 (wi (r26 - 1))) (by kernel_rfl) (by kernel_rfl) (fun _ => by kernel_rfl) ?_
      refine WD.weaken [0, 1, 6, 23] (L' := [(0, .pointer (some ⟨b15, 0, none⟩)), (1, .int .i64 a1), (6, .int .i64 (wi (r26 - 1))), (23, .int .i64 (wi (r26 - 1)))]) (by kernel_rfl) ?_
      refine WD.pure (i := 1) (v := .int .i64 a1) (by kernel_rfl) (by kernel_rfl) (fun _ => by kernel_rfl) ?_
      refine WD.weaken [0, 6, 23, 24] (L' := [(0, .pointer (some ⟨b15, 0, none⟩)), (6, .int .i64 (wi (r26 - 1))), (23, .int .i64 (wi (r26 - 1))), (24, .int .i64 a1)]) (by kernel_rfl) ?_
      refine WD.pure (i := 2) (v := .pointer (some ⟨b15, 0, none⟩)) (by kernel_rfl) (by kernel_rfl) (fun _ => by kernel_rfl) ?_
      refine WD.weaken [6, 23, 24, 25] (L' := [(6, .int .i64 (wi (r26 - 1))), (23, .int .i64 (wi (r26 - 1))), (24, .int .i64 a1), (25, .pointer (some ⟨b15, 0, none⟩))]) (by kernel_rfl) ?_
      refine WD.pure (i := 3) (v := .pointer (some ⟨b15, 0, none⟩)) (by kernel_rfl) (by kernel_rfl) (fun _ => by kernel_rfl) ?_
      refine WD.weaken [6, 23, 24, 26] (L' := [(6, .int .i64 (wi (r26 - 1))), (23, .int .i64 (wi (r26 - 1))), (24, .int .i64 a1), (26, .pointer (some ⟨b15, 0, none⟩))]) (by kernel_rfl) ?_
      refine WD.pure (i := 4) (v := .pointer (some ⟨b15, 1, none⟩)) (by kernel_rfl) (by kernel_rfl) (fun _ => by kernel_rfl) ?_
      refine WD.weaken [6, 23, 24, 27] (L' := [(6, .int .i64 (wi (r26 - 1))), (23, .int .i64 (wi (r26 - 1))), (24, .int .i64 a1), (27, .pointer (some ⟨b15, 1, none⟩))]) (by kernel_rfl) ?_
      refine WD.ofR (i := 5) (by kernel_rfl) (RSt.loadRo (t := 23) (k := 1) (v := .slice A23 y14.2.1.length c24) (.tmp 27) (by kernel_rfl) (by kernel_rfl) (by kernel_rfl) hS.sub0 hb18 (by kernel_rfl) rfl ?_)
      refine WD.weaken [6, 23, 24, 28] (L' := [(6, .int .i64 (wi (r26 - 1))), (23, .int .i64 (wi (r26 - 1))), (24, .int .i64 a1), (28, .slice A23 y14.2.1.length c24)]) (by kernel_rfl) ?_
      refine WD.pure (i := 6) (v := .int .i64 (wi (r26 - 1))) (by kernel_rfl) (by kernel_rfl) (fun _ => by kernel_rfl) ?_
      refine WD.weaken [23, 24, 28, 29] (L' := [(23, .int .i64 (wi (r26 - 1))), (24, .int .i64 a1), (28, .slice A23 y14.2.1.length c24), (29, .int .i64 (wi (r26 - 1)))]) (by kernel_rfl) ?_
      obtain ⟨v37, e38, H⟩ := bind_ex H
      refine WD.ofP (i := 7) (by kernel_rfl) (PSt.idx (k := .i64) (.tmp 28) (.tmp 29) (by kernel_rfl) (by kernel_rfl) E23 (by kernel_rfl) (by kernel_rfl) (rdS.up R25 hS.sub0) e38 ?_)
      refine WD.weaken [23, 24, 30] (L' := [(23, .int .i64 (wi (r26 - 1))), (24, .int .i64 a1), (30, .pointer (some (adr A23 (wi (r26 - 1)).toNat 1)))]) (by kernel_rfl) ?_
      refine WD.ofR (i := 8) (by kernel_rfl) (RSt.loadInt (t := 3) (.tmp 30) (by kernel_rfl) (by kernel_rfl) (by kernel_rfl) (by kernel_rfl) (rdS.up R25 hS.sub0) e38 ?_)
      refine WD.weaken [23, 24, 31] (L' := [(23, .int .i64 (wi (r26 - 1))), (24, .int .i64 a1), (31, .int .i64 v37)]) (by kernel_rfl) ?_
      refine WD.pure (i := 9) (v := .int .i64 (wi (a1 - v37))) (by kernel_rfl) (by kernel_rfl) (fun _ => by kernel_rfl) ?_
      refine WD.weaken [23, 32] (L' := [(23, .int .i64 (wi (r26 - 1))), (32, .int .i64 (wi (a1 - v37)))]) (by kernel_rfl) ?_
      refine WD.pure (i := 10) (v := .int .i64 (wi (r26 - 1))) (by kernel_rfl) (by kernel_rfl) (fun _ => by kernel_rfl) ?_
      refine WD.weaken [4, 32] (L' := [(4, .int .i64 (wi (r26 - 1))), (32, .int .i64 (wi (a1 - v37)))]) (by kernel_rfl) ?_
      refine WD.pure (i := 11) (v := .int .i64 (wi (a1 - v37))) (by kernel_rfl) (by kernel_rfl) (fun _ => by kernel_rfl) ?_
      refine WD.weaken [4, 5] (L' := [(4, .int .i64 (wi (r26 - 1))), (5, .int .i64 (wi (a1 - v37)))]) (by kernel_rfl) ?_
      refine WD.nil (by kernel_rfl) ?_
      refine At.go ?_
      refine WC.ret (by kernel_rfl) ?_
      obtain rfl := Option.some.inj H
      have hS : Sat w35 (rf w0) [] := hS.sel [] (by kernel_rfl)
      exact At.body [.int .i64 (wi (r26 - 1)), .int .i64 (wi (a1 - v37))] (by kernel_rfl) ⟨_, rfl, rfl, hS⟩
/-! ### 10 colophon/docs.Array -/
def docs_Array.l1 (l1 : List Int) (y3 : (List (List Int)) × (List Int) × Int) : Nat → (List Int) → Int → Option (List Int)
  | 0, _, _ => none
  | k + 1, x8_l1, x32_l1 => (if decide (x32_l1 < (l1.length : Int)) then ((at? l1 x32_l1).bind fun v43 => ((text_Text_Doc.f (some y3) v43).bind fun r45 => ((at? x8_l1 x32_l1).bind fun v54 => ((set? x8_l1 x32_l1 r45.1).bind fun y56 => docs_Array.l1 l1 y3 k y56 (wi (x32_l1 + 1)))))) else some x8_l1)
def docs_Array.f (p0 : Option ((List (List Int)) × (List Int) × Int)) (l1 : List Int) : Option ((List Int) × Int) := (match p0 with | none => some (([] : List Int), 1) | some y3 => ((suffix_Turn.f l1).bind fun r15 => (if (r15.2 != 0) then some (([] : List Int), 2) else ((text_Text_Len.f (some y3)).bind fun r27 => (if ((l1.length : Int) != r27) then some (([] : List Int), 2) else ((make? 17592186044416 0 (l1.length : Int)).bind fun y37 => ((docs_Array.l1 l1 y3 FU y37 0).bind fun o60 => some (o60, 0))))))))
def docs_Array.post (w : World) (r : (List Int) × Int) (v : Value) (w' : World) : Prop := ∃ (A0' : Option Addr) (c0' : Nat), v = .tuple #[.slice A0' r.1.length c0', .int .i64 r.2] ∧ Sat w' (rf w) [osl 3 (r0 (.int .i64)) 1 A0' c0' r.1]
theorem docs_Array.l1_ok {Q} (w0 : World) (A1 : Option Addr) (c1 : Nat) (l1 : List Int) (y3 : (List (List Int)) × (List Int) × Int) (b4 : Nat) (R1 : rdS (r0 (.int .i64)) 1 (hp w0) A1 c1 l1) (R8 : rd (hp w0) (.ptr 46 (.pair (.slice 44 (.slice 5 (.int .u8))) (.pair (.slice 3 (.int .i64)) (.int .i64)))) [.pointer (some ⟨b4, 0, none⟩)] (some y3)) (out : (List Int)) (hn0 : ∀ (A8_q : Option Addr) (c8_q : Nat) (w : World), Sat w (rf w0) [osl 3 (r0 (.int .i64)) 1 A8_q c8_q out] → At Q (.exit 0) 48 [(8, .slice A8_q out.length c8_q)] w) :
    ∀ (k : Nat) (x8_l1 : List Int) (x32_l1 : Int) (A8_l1 : Option Addr) (c8_l1 : Nat) (w : World), Sat w (rf w0) [osl 3 (r0 (.int .i64)) 1 A8_l1 c8_l1 x8_l1] → docs_Array.l1 l1 y3 k x8_l1 x32_l1 = some out → WL Try.prog (cbody (cbody (cr (cl (cr (cr (cr (cr C10)))))))) Q 48 [(0, .pointer (some ⟨b4, 0, none⟩)), (8, .slice A8_l1 x8_l1.length c8_l1), (30, .slice A1 l1.length c1), (31, .int .i64 (l1.length : Int)), (32, .int .i64 x32_l1)] w := by
  intro k
  induction k with
  | zero => intro x8_l1 x32_l1 A8_l1 c8_l1 w hS H; exact absurd (show none = some out from H) (by simp)
  | succ k ih =>
    intro x8_l1 x32_l1 A8_l1 c8_l1 w hS H
    unfold docs_Array.l1 at H
    refine WL.round ?_
    refine WC.seq (by kernel_rfl) ?_
    refine WC.reg [0] (by kernel_rfl) (by kernel_rfl) ?_
    refine WR.runk [0] [] [0, 8, 30, 31, 32, 33] (L' := [(0, .pointer (some ⟨b4, 0, none⟩)), (8, .slice A8_l1 x8_l1.length c8_l1), (30, .slice A1 l1.length c1), (31, .int .i64 (l1.length : Int)), (32, .int .i64 x32_l1), (33, .bool (decide (x32_l1 < (l1.length : Int))))]) (w' := w) (by kernel_rfl) ?_
    refine WR.nil ?_
    refine At.go ?_
    refine WC.seq (by kernel_rfl) ?_
    refine WC.cond (by kernel_rfl) (decide (x32_l1 < (l1.length : Int))) (by kernel_rfl) (by kernel_rfl) (fun hb42 => ?_) (fun hb42 => ?_)
    · replace H := ite_t H hb42
      refine WC.skip (by kernel_rfl) ?_
      refine At.go ?_
      refine WC.seq (by kernel_rfl) ?_
      refine WC.block (by kernel_rfl) ?_
      refine WC.seq (by kernel_rfl) ?_
      refine WC.reg [0, 1, 2, 3, 4] (by kernel_rfl) (by kernel_rfl) ?_
      refine WR.runk [0] [1, 2, 3, 4] [0, 8, 30, 31, 32, 34] (L' := [(0, .pointer (some ⟨b4, 0, none⟩)), (8, .slice A8_l1 x8_l1.length c8_l1), (30, .slice A1 l1.length c1), (31, .int .i64 (l1.length : Int)), (32, .int .i64 x32_l1), (34, .int .i64 x32_l1)]) (w' := w) (by kernel_rfl) ?_
      obtain ⟨v43, e44, H⟩ := bind_ex H
      refine WR.st (St.ofP (PSt.idx (k := .i64) (.tmp 30) (.tmp 32) (by kernel_rfl) (by kernel_rfl) E23 (by kernel_rfl) (by kernel_rfl) (rdS.up R1 hS.sub0) e44 ?_))
      refine WR.runk [] [2, 3, 4] [0, 8, 30, 31, 32, 34, 35] (L' := [(0, .pointer (some ⟨b4, 0, none⟩)), (8, .slice A8_l1 x8_l1.length c8_l1), (30, .slice A1 l1.length c1), (31, .int .i64 (l1.length : Int)), (32, .int .i64 x32_l1), (34, .int .i64 x32_l1), (35, .pointer (some (adr A1 x32_l1.toNat 1)))]) (w' := w) (by kernel_rfl) ?_
      refine WR.st (St.ofR (RSt.loadInt (t := 3) (.tmp 35) (by kernel_rfl) (by kernel_rfl) (by kernel_rfl) (by kernel_rfl) (rdS.up R1 hS.sub0) e44 ?_))
      refine WR.runk [3, 4] [] [0, 8, 9, 10, 30, 31, 32] (L' := [(0, .pointer (some ⟨b4, 0, none⟩)), (8, .slice A8_l1 x8_l1.length c8_l1), (9, .int .i64 x32_l1), (10, .int .i64 v43), (30, .slice A1 l1.length c1), (31, .int .i64 (l1.length : Int)), (32, .int .i64 x32_l1)]) (w' := w) (by kernel_rfl) ?_
      refine WR.nil ?_
      refine At.go ?_
      refine WC.reg [0, 1, 2, 3, 4, 5, 6, 7, 8, 9] (by kernel_rfl) (by kernel_rfl) ?_
      refine WR.runk [0, 1, 2, 3] [4, 5, 6, 7, 8, 9] [0, 8, 30, 31, 32, 38, 39, 40, 41] (L' := [(0, .pointer (some ⟨b4, 0, none⟩)), (8, .slice A8_l1 x8_l1.length c8_l1), (30, .slice A1 l1.length c1), (31, .int .i64 (l1.length : Int)), (32, .int .i64 x32_l1), (38, .slice A8_l1 x8_l1.length c8_l1), (39, .int .i64 x32_l1), (40, .pointer (some ⟨b4, 0, none⟩)), (41, .int .i64 v43)]) (w' := w) (by kernel_rfl) ?_
      obtain ⟨r45, e46, H⟩ := bind_ex H
      refine WR.st (St.call (by kernel_rfl) (f := 24) (args := #[.pointer (some ⟨b4, 0, none⟩), .int .i64 v43]) (by kernel_rfl) (text_Text_Doc.calls w (.pointer (some ⟨b4, 0, none⟩)) (some y3) (rd.mono hS.sub0 _ _ _ R8) v43 r45 e46) ?_)
      rintro _ w52 ⟨rfl, hS53⟩
      have hS : Sat w52 (rf w0) [osl 3 (r0 (.int .i64)) 1 A8_l1 c8_l1 x8_l1] := hS.ext hS53
      refine WR.runk [5, 6, 7] [8, 9] [0, 8, 30, 31, 32, 38, 39, 43] (L' := [(0, .pointer (some ⟨b4, 0, none⟩)), (8, .slice A8_l1 x8_l1.length c8_l1), (30, .slice A1 l1.length c1), (31, .int .i64 (l1.length : Int)), (32, .int .i64 x32_l1), (38, .slice A8_l1 x8_l1.length c8_l1), (39, .int .i64 x32_l1), (43, .int .i64 r45.1)]) (w' := w52) (by kernel_rfl) ?_
      obtain ⟨v54, e55, H⟩ := bind_ex H
      refine WR.st (St.ofP (PSt.idx (k := .i64) (.tmp 38) (.tmp 39) (by kernel_rfl) (by kernel_rfl) E23 (by kernel_rfl) (by kernel_rfl) (Sat.rdAt 0 hS rfl) e55 ?_))
      refine WR.runk [] [9] [0, 8, 30, 31, 32, 43, 45] (L' := [(0, .pointer (some ⟨b4, 0, none⟩)), (8, .slice A8_l1 x8_l1.length c8_l1), (30, .slice A1 l1.length c1), (31, .int .i64 (l1.length : Int)), (32, .int .i64 x32_l1), (43, .int .i64 r45.1), (45, .pointer (some (adr A8_l1 x32_l1.toNat 1)))]) (w' := w52) (by kernel_rfl) ?_
      obtain ⟨y56, e57, H⟩ := bind_ex H
      refine WR.st (St.storeElem' (t := 3) (.tmp 45) (.tmp 43) (by kernel_rfl) (by kernel_rfl) (by kernel_rfl) hS (by kernel_rfl) (by kernel_rfl) rfl e57 rfl (fun w58 hS => ?_))
      have hl59 := set?_len e57
      refine WR.know 8 (.slice A8_l1 y56.length c8_l1) (.slice A8_l1 x8_l1.length c8_l1) (by kernel_rfl) (by rw [hl59]) ?_
      refine WR.runk [] [] [0, 8, 30, 31, 32] (L' := [(0, .pointer (some ⟨b4, 0, none⟩)), (8, .slice A8_l1 y56.length c8_l1), (30, .slice A1 l1.length c1), (31, .int .i64 (l1.length : Int)), (32, .int .i64 x32_l1)]) (w' := w58) (by kernel_rfl) ?_
      refine WR.nil ?_
      refine At.blockNormal ?_
      refine At.go ?_
      refine WC.reg [0, 1] (by kernel_rfl) (by kernel_rfl) ?_
      refine WR.runk [0, 1] [] [0, 8, 30, 31, 32] (L' := [(0, .pointer (some ⟨b4, 0, none⟩)), (8, .slice A8_l1 y56.length c8_l1), (30, .slice A1 l1.length c1), (31, .int .i64 (l1.length : Int)), (32, .int .i64 (wi (x32_l1 + 1)))]) (w' := w58) (by kernel_rfl) ?_
      refine WR.nil ?_
      have hS : Sat w58 (rf w0) [osl 3 (r0 (.int .i64)) 1 A8_l1 c8_l1 y56] := hS.sel [0] (by kernel_rfl)
      refine At.again ?_
      refine WL.weaken [0, 8, 30, 31, 32] (L' := [(0, .pointer (some ⟨b4, 0, none⟩)), (8, .slice A8_l1 y56.length c8_l1), (30, .slice A1 l1.length c1), (31, .int .i64 (l1.length : Int)), (32, .int .i64 (wi (x32_l1 + 1)))]) (by kernel_rfl) ?_
      exact ih y56 (wi (x32_l1 + 1)) A8_l1 c8_l1 _ hS H
    · replace H := ite_f H hb42
      refine WC.exit (by kernel_rfl) ?_
      refine At.thenExit ?_
      refine At.thenExit ?_
      obtain rfl := Option.some.inj H
      have hS : Sat w (rf w0) [osl 3 (r0 (.int .i64)) 1 A8_l1 c8_l1 x8_l1] := hS.sel [0] (by kernel_rfl)
      refine At.weaken [8] (L' := [(8, .slice A8_l1 x8_l1.length c8_l1)]) (by kernel_rfl) ?_
      exact hn0 A8_l1 c8_l1 _ hS
theorem docs_Array.calls (w0 : World) (v0 : Value) (p0 : Option ((List (List Int)) × (List Int) × Int)) (R0 : rd (hp w0) (.ptr 46 (.pair (.slice 44 (.slice 5 (.int .u8))) (.pair (.slice 3 (.int .i64)) (.int .i64)))) [v0] p0) (A1 : Option Addr) (c1 : Nat) (l1 : List Int) (R1 : rdS (r0 (.int .i64)) 1 (hp w0) A1 c1 l1) (r : (List Int) × Int) (H : docs_Array.f p0 l1 = some r) :
    Calls Try.prog 10 #[v0, .slice A1 l1.length c1] w0 (fun e w' => ∃ v, e = .returned v ∧ docs_Array.post w0 r v w') := by
  have hS : Sat w0 (rf w0) [] := Sat.start w0
  unfold docs_Array.f at H
  refine calls_of_WC (vs := [v0, .slice A1 l1.length c1]) Try.func10 (c := C10) (n := 48) (by kernel_rfl) (by kernel_rfl) (by kernel_rfl) ?_
  refine WC.seq (by kernel_rfl) ?_
  refine WC.reg [0, 1] (by kernel_rfl) (by kernel_rfl) ?_
  refine WR.runk [0, 1] [] [0, 1] (L' := [(0, v0), (1, .slice A1 l1.length c1)]) (w' := w0) (by kernel_rfl) ?_
  refine WR.nil ?_
  refine At.go ?_
  refine WC.seq (by kernel_rfl) ?_
  refine WC.seq (by kernel_rfl) ?_
  refine WC.reg [0, 1] (by kernel_rfl) (by kernel_rfl) ?_
  refine WR.runk [0] [1] [0, 1, 11] (L' := [(0, v0), (1, .slice A1 l1.length c1), (11, v0)]) (w' := w0) (by kernel_rfl) ?_
  rcases opt_cases p0 with hr1 | ⟨y3, hr1⟩
  · rw [hr1] at H
    dsimp only at H
    have hx2 := rd_ptr_none R0 hr1
    try subst hx2
    refine WR.runk [1] [] [0, 1, 12] (L' := [(0, .pointer none), (1, .slice A1 l1.length c1), (12, .bool true)]) (w' := w0) (by kernel_rfl) ?_
    refine WR.nil ?_
    refine At.go ?_
    refine WC.condT (by kernel_rfl) (by kernel_rfl) (by kernel_rfl) ?_
    refine WC.seq (by kernel_rfl) ?_
    refine WC.reg [0, 1] (by kernel_rfl) (by kernel_rfl) ?_
    refine WR.runk [0, 1] [] [4, 5] (L' := [(4, .slice none 0 0), (5, .int .i64 1)]) (w' := w0) (by kernel_rfl) ?_
    refine WR.nil ?_
    refine At.go ?_
    refine WC.ret (by kernel_rfl) ?_
    refine At.thenRet ?_
    obtain rfl := Option.some.inj H
    have hS := hS.addNil (α := Int) 3 (r0 (.int .i64)) 1
    have hS : Sat w0 (rf w0) [osl 3 (r0 (.int .i64)) 1 none 0 ([] : List Int)] := hS.sel [0] (by kernel_rfl)
    exact At.body [.slice none 0 0, .int .i64 1] (by kernel_rfl) ⟨_, rfl, _, _, rfl, hS⟩
  · rw [hr1] at H
    dsimp only at H
    obtain ⟨b4, fr5, A9, c10, A12, c13, hv6, hb7, R11, R14⟩ := P46.open R0 hr1
    have R8 := R0
    rw [hv6, hr1] at R8
    try subst hv6
    replace R11 : rdS (rd (hp w0) (.slice 5 (.int .u8))) 1 (hp w0) A9 c10 y3.1 := R11
    replace R14 : rdS (r0 (.int .i64)) 1 (hp w0) A12 c13 y3.2.1 := R14
    refine WR.runk [1] [] [0, 1, 12] (L' := [(0, .pointer (some ⟨b4, 0, none⟩)), (1, .slice A1 l1.length c1), (12, .bool false)]) (w' := w0) (by kernel_rfl) ?_
    refine WR.nil ?_
    refine At.go ?_
    refine WC.condF (by kernel_rfl) (by kernel_rfl) (by kernel_rfl) ?_
    refine WC.skip (by kernel_rfl) ?_
    refine At.go ?_
    refine WC.seq (by kernel_rfl) ?_
    refine WC.seq (by kernel_rfl) ?_
    refine WC.reg [0, 1, 2, 3, 4, 5, 6] (by kernel_rfl) (by kernel_rfl) ?_
    refine WR.runk [0] [1, 2, 3, 4, 5, 6] [0, 1, 14] (L' := [(0, .pointer (some ⟨b4, 0, none⟩)), (1, .slice A1 l1.length c1), (14, .slice A1 l1.length c1)]) (w' := w0) (by kernel_rfl) ?_
    obtain ⟨r15, e16, H⟩ := bind_ex H
    refine WR.st (St.call (by kernel_rfl) (f := 22) (args := #[.slice A1 l1.length c1]) (by kernel_rfl) (suffix_Turn.calls w0 A1 c1 l1 (rdS.up R1 hS.sub0) r15 e16) ?_)
    rintro _ w22 ⟨A24, c25, rfl, hS23⟩
    have hS : Sat w22 (rf w0) [osl 3 (r0 (.int .i64)) 1 A24 c25 r15.1] := hS.ext hS23
    refine WR.runk [2, 3, 4, 5, 6] [] [0, 1, 7] (L' := [(0, .pointer (some ⟨b4, 0, none⟩)), (1, .slice A1 l1.length c1), (7, .int .i64 r15.2)]) (w' := w22) (by kernel_rfl) ?_
    refine WR.nil ?_
    refine At.go ?_
    refine WC.seq (by kernel_rfl) ?_
    refine WC.reg [0, 1, 2, 3, 4, 5, 6, 7, 8] (by kernel_rfl) (by kernel_rfl) ?_
    refine WR.runk [0, 1, 2] [3, 4, 5, 6, 7, 8] [0, 1, 20] (L' := [(0, .pointer (some ⟨b4, 0, none⟩)), (1, .slice A1 l1.length c1), (20, .bool (r15.2 != 0))]) (w' := w22) (by kernel_rfl) ?_
    refine WR.split 20 (b := (r15.2 != 0)) (by kernel_rfl) (fun hb26 => ?_) (fun hb26 => ?_)
    · replace H := ite_t H hb26
      refine WR.runk [3, 4, 5, 6, 7, 8] [] [0, 1, 26] (L' := [(0, .pointer (some ⟨b4, 0, none⟩)), (1, .slice A1 l1.length c1), (26, .bool true)]) (w' := w22) (by kernel_rfl) ?_
      refine WR.nil ?_
      refine At.go ?_
      refine WC.condT (by kernel_rfl) (by kernel_rfl) (by kernel_rfl) ?_
      refine WC.seq (by kernel_rfl) ?_
      refine WC.reg [0, 1] (by kernel_rfl) (by kernel_rfl) ?_
      refine WR.runk [0, 1] [] [4, 5] (L' := [(4, .slice none 0 0), (5, .int .i64 2)]) (w' := w22) (by kernel_rfl) ?_
      refine WR.nil ?_
      refine At.go ?_
      refine WC.ret (by kernel_rfl) ?_
      refine At.thenRet ?_
      obtain rfl := Option.some.inj H
      have hS := hS.addNil (α := Int) 3 (r0 (.int .i64)) 1
      have hS : Sat w22 (rf w0) [osl 3 (r0 (.int .i64)) 1 none 0 ([] : List Int)] := hS.sel [0] (by kernel_rfl)
      exact At.body [.slice none 0 0, .int .i64 2] (by kernel_rfl) ⟨_, rfl, _, _, rfl, hS⟩
    · replace H := ite_f H hb26
      refine WR.runk [3, 4, 5] [6, 7, 8] [0, 1, 20, 22, 23] (L' := [(0, .pointer (some ⟨b4, 0, none⟩)), (1, .slice A1 l1.length c1), (20, .bool false), (22, .int .i64 (l1.length : Int)), (23, .pointer (some ⟨b4, 0, none⟩))]) (w' := w22) (by kernel_rfl) ?_
      obtain ⟨r27, e28, H⟩ := bind_ex H
      refine WR.st (St.call (by kernel_rfl) (f := 23) (args := #[.pointer (some ⟨b4, 0, none⟩)]) (by kernel_rfl) (text_Text_Len.calls w22 (.pointer (some ⟨b4, 0, none⟩)) (some y3) (rd.mono hS.sub0 _ _ _ R8) r27 e28) ?_)
      rintro _ w34 ⟨rfl, hS35⟩
      have hS : Sat w34 (rf w0) [osl 3 (r0 (.int .i64)) 1 A24 c25 r15.1] := hS.ext hS35
      refine WR.runk [7, 8] [] [0, 1, 26] (L' := [(0, .pointer (some ⟨b4, 0, none⟩)), (1, .slice A1 l1.length c1), (26, .bool ((l1.length : Int) != r27))]) (w' := w34) (by kernel_rfl) ?_
      refine WR.nil ?_
      refine At.go ?_
      refine WC.cond (by kernel_rfl) ((l1.length : Int) != r27) (by kernel_rfl) (by kernel_rfl) (fun hb36 => ?_) (fun hb36 => ?_)
      · replace H := ite_t H hb36
        refine WC.seq (by kernel_rfl) ?_
        refine WC.reg [0, 1] (by kernel_rfl) (by kernel_rfl) ?_
        refine WR.runk [0, 1] [] [4, 5] (L' := [(4, .slice none 0 0), (5, .int .i64 2)]) (w' := w34) (by kernel_rfl) ?_
        refine WR.nil ?_
        refine At.go ?_
        refine WC.ret (by kernel_rfl) ?_
        refine At.thenRet ?_
        obtain rfl := Option.some.inj H
        have hS := hS.addNil (α := Int) 3 (r0 (.int .i64)) 1
        have hS : Sat w34 (rf w0) [osl 3 (r0 (.int .i64)) 1 none 0 ([] : List Int)] := hS.sel [0] (by kernel_rfl)
        exact At.body [.slice none 0 0, .int .i64 2] (by kernel_rfl) ⟨_, rfl, _, _, rfl, hS⟩
      · replace H := ite_f H hb36
        refine WC.skip (by kernel_rfl) ?_
        refine At.go ?_
        refine WC.seq (by kernel_rfl) ?_
        refine WC.reg [0, 1, 2, 3] (by kernel_rfl) (by kernel_rfl) ?_
        refine WR.runk [0, 1] [2, 3] [0, 1, 28] (L' := [(0, .pointer (some ⟨b4, 0, none⟩)), (1, .slice A1 l1.length c1), (28, .int .i64 (l1.length : Int))]) (w' := w34) (by kernel_rfl) ?_
        obtain ⟨y37, e38, H⟩ := bind_ex H
        refine WR.st (St.make' (t := 23) (e := 3) (sz := 1) (bytes := 8) (k1 := .i64) (k2 := .i64) (R := (r0 (.int .i64))) (.tmp 28) (.tmp 28) (by kernel_rfl) (by kernel_rfl) (.int .i64 0) (by kernel_rfl) (by kernel_rfl) rfl (by kernel_rfl) hS (by kernel_rfl) (by kernel_rfl) 17592186044416 (by kernel_rfl) (by kernel_rfl) e38 (fun A39 c40 w41 hS => ?_))
        refine WR.runk [3] [] [0, 1, 8] (L' := [(0, .pointer (some ⟨b4, 0, none⟩)), (1, .slice A1 l1.length c1), (8, .slice A39 y37.length c40)]) (w' := w41) (by kernel_rfl) ?_
        refine WR.nil ?_
        refine At.go ?_
        refine WC.seq (by kernel_rfl) ?_
        refine WC.seq (by kernel_rfl) ?_
        refine WC.reg [0, 1, 2] (by kernel_rfl) (by kernel_rfl) ?_
        refine WR.runk [0, 1, 2] [] [0, 8, 30, 31, 32] (L' := [(0, .pointer (some ⟨b4, 0, none⟩)), (8, .slice A39 y37.length c40), (30, .slice A1 l1.length c1), (31, .int .i64 (l1.length : Int)), (32, .int .i64 0)]) (w' := w41) (by kernel_rfl) ?_
        refine WR.nil ?_
        refine At.go ?_
        refine WC.block (by kernel_rfl) ?_
        have hS : Sat w41 (rf w0) [osl 3 (r0 (.int .i64)) 1 A39 c40 y37] := hS.sel [0] (by kernel_rfl)
        obtain ⟨o60, e61, H⟩ := bind_ex H
        refine WC.loop (by kernel_rfl) ?_
        refine WL.weaken [0, 8, 30, 31, 32] (L' := [(0, .pointer (some ⟨b4, 0, none⟩)), (8, .slice A39 y37.length c40), (30, .slice A1 l1.length c1), (31, .int .i64 (l1.length : Int)), (32, .int .i64 0)]) (by kernel_rfl) ?_
        refine docs_Array.l1_ok w0 A1 c1 l1 y3 b4 R1 R8 o60 (fun A8_q62 c8_q62 w63 hS => ?_) FU y37 0 A39 c40 _ hS e61
        refine At.hit ?_
        refine At.go ?_
        refine WC.seq (by kernel_rfl) ?_
        refine WC.reg [0, 1, 2] (by kernel_rfl) (by kernel_rfl) ?_
        refine WR.runk [0, 1, 2] [] [4, 5] (L' := [(4, .slice A8_q62 o60.length c8_q62), (5, .int .i64 0)]) (w' := w63) (by kernel_rfl) ?_
        refine WR.nil ?_
        refine At.go ?_
        refine WC.ret (by kernel_rfl) ?_
        obtain rfl := Option.some.inj H
        have hS : Sat w63 (rf w0) [osl 3 (r0 (.int .i64)) 1 A8_q62 c8_q62 o60] := hS.sel [0] (by kernel_rfl)
        exact At.body [.slice A8_q62 o60.length c8_q62, .int .i64 0] (by kernel_rfl) ⟨_, rfl, _, _, rfl, hS⟩
/-! ### 14 colophon/docs.Back -/
def docs_Back.l1 (l0 : List Int) : Nat → (List Int) → Int → (List (Int × Int)) → Option ((List Int) × (List (Int × Int)))
  | 0, _, _, _ => none
  | k + 1, x4_l1, x15_l1, q3_l1 => (if decide (x15_l1 < (l0.length : Int)) then ((at? l0 x15_l1).bind fun v10 => (if (mget q3_l1 v10).isSome then ((at? x4_l1 x15_l1).bind fun v13 => ((set? x4_l1 x15_l1 ((mget q3_l1 v10).getD 0)).bind fun y15 => docs_Back.l1 l0 k y15 (wi (x15_l1 + 1)) (mset q3_l1 v10 x15_l1))) else ((at? x4_l1 x15_l1).bind fun v20 => ((set? x4_l1 x15_l1 (-1)).bind fun y22 => docs_Back.l1 l0 k y22 (wi (x15_l1 + 1)) (mset q3_l1 v10 x15_l1))))) else some (x4_l1, q3_l1))
def docs_Back.f (l0 : List Int) : Option (List Int) := ((make? 17592186044416 0 (l0.length : Int)).bind fun y4 => ((docs_Back.l1 l0 FU y4 0 ([] : List (Int × Int))).bind fun o27 => some o27.1))
def docs_Back.post (w : World) (r : (List Int)) (v : Value) (w' : World) : Prop := ∃ (A0' : Option Addr) (c0' : Nat), v = (.slice A0' r.length c0' : Value) ∧ Sat w' (rf w) [osl 3 (r0 (.int .i64)) 1 A0' c0' r]
theorem docs_Back.l1_ok {Q} (w0 : World) (A0 : Option Addr) (c0 : Nat) (l0 : List Int) (b1 : Nat) (R0 : rdS (r0 (.int .i64)) 1 (hp w0) A0 c0 l0) (out : (List Int) × (List (Int × Int))) (hn0 : ∀ (A4_q : Option Addr) (c4_q : Nat) (w : World), Sat w (rf w0) [osl 3 (r0 (.int .i64)) 1 A4_q c4_q out.1, omp .i64 .i64 b1 out.2] → At Q (.exit 0) 39 [(4, .slice A4_q out.1.length c4_q)] w) :
    ∀ (k : Nat) (x4_l1 : List Int) (x15_l1 : Int) (q3_l1 : List (Int × Int)) (A4_l1 : Option Addr) (c4_l1 : Nat) (w : World), Sat w (rf w0) [osl 3 (r0 (.int .i64)) 1 A4_l1 c4_l1 x4_l1, omp .i64 .i64 b1 q3_l1] → docs_Back.l1 l0 k x4_l1 x15_l1 q3_l1 = some out → WL Try.prog (cbody (cbody (cr (cl (cr (cr (cr C14))))))) Q 39 [(3, .map (some b1)), (4, .slice A4_l1 x4_l1.length c4_l1), (13, .slice A0 l0.length c0), (14, .int .i64 (l0.length : Int)), (15, .int .i64 x15_l1)] w := by
  intro k
  induction k with
  | zero => intro x4_l1 x15_l1 q3_l1 A4_l1 c4_l1 w hS H; exact absurd (show none = some out from H) (by simp)
  | succ k ih =>
    intro x4_l1 x15_l1 q3_l1 A4_l1 c4_l1 w hS H
    unfold docs_Back.l1 at H
    refine WL.round ?_
    refine WC.seq (by kernel_rfl) ?_
    refine WC.reg [0] (by kernel_rfl) (by kernel_rfl) ?_
    refine WR.runk [0] [] [3, 4, 13, 14, 15, 16] (L' := [(3, .map (some b1)), (4, .slice A4_l1 x4_l1.length c4_l1), (13, .slice A0 l0.length c0), (14, .int .i64 (l0.length : Int)), (15, .int .i64 x15_l1), (16, .bool (decide (x15_l1 < (l0.length : Int))))]) (w' := w) (by kernel_rfl) ?_
    refine WR.nil ?_
    refine At.go ?_
    refine WC.seq (by kernel_rfl) ?_
    refine WC.cond (by kernel_rfl) (decide (x15_l1 < (l0.length : Int))) (by kernel_rfl) (by kernel_rfl) (fun hb9 => ?_) (fun hb9 => ?_)
    · replace H := ite_t H hb9
      refine WC.skip (by kernel_rfl) ?_
      refine At.go ?_
      refine WC.seq (by kernel_rfl) ?_
      refine WC.block (by kernel_rfl) ?_
      refine WC.seq (by kernel_rfl) ?_
      refine WC.reg [0, 1, 2, 3, 4] (by kernel_rfl) (by kernel_rfl) ?_
      refine WR.runk [0] [1, 2, 3, 4] [3, 4, 13, 14, 15, 17] (L' := [(3, .map (some b1)), (4, .slice A4_l1 x4_l1.length c4_l1), (13, .slice A0 l0.length c0), (14, .int .i64 (l0.length : Int)), (15, .int .i64 x15_l1), (17, .int .i64 x15_l1)]) (w' := w) (by kernel_rfl) ?_
      obtain ⟨v10, e11, H⟩ := bind_ex H
      refine WR.st (St.ofP (PSt.idx (k := .i64) (.tmp 13) (.tmp 15) (by kernel_rfl) (by kernel_rfl) E23 (by kernel_rfl) (by kernel_rfl) (rdS.up R0 hS.sub0) e11 ?_))
      refine WR.runk [] [2, 3, 4] [3, 4, 13, 14, 15, 17, 18] (L' := [(3, .map (some b1)), (4, .slice A4_l1 x4_l1.length c4_l1), (13, .slice A0 l0.length c0), (14, .int .i64 (l0.length : Int)), (15, .int .i64 x15_l1), (17, .int .i64 x15_l1), (18, .pointer (some (adr A0 x15_l1.toNat 1)))]) (w' := w) (by kernel_rfl) ?_
      refine WR.st (St.ofR (RSt.loadInt (t := 3) (.tmp 18) (by kernel_rfl) (by kernel_rfl) (by kernel_rfl) (by kernel_rfl) (rdS.up R0 hS.sub0) e11 ?_))
      refine WR.runk [3, 4] [] [3, 4, 5, 6, 13, 14, 15] (L' := [(3, .map (some b1)), (4, .slice A4_l1 x4_l1.length c4_l1), (5, .int .i64 x15_l1), (6, .int .i64 v10), (13, .slice A0 l0.length c0), (14, .int .i64 (l0.length : Int)), (15, .int .i64 x15_l1)]) (w' := w) (by kernel_rfl) ?_
      refine WR.nil ?_
      refine At.go ?_
      refine WC.seq (by kernel_rfl) ?_
      refine WC.seq (by kernel_rfl) ?_
      refine WC.reg [0, 1, 2, 3, 4, 5, 6, 7] (by kernel_rfl) (by kernel_rfl) ?_
      refine WR.runk [0, 1] [2, 3, 4, 5, 6, 7] [3, 4, 5, 6, 13, 14, 15, 21, 22] (L' := [(3, .map (some b1)), (4, .slice A4_l1 x4_l1.length c4_l1), (5, .int .i64 x15_l1), (6, .int .i64 v10), (13, .slice A0 l0.length c0), (14, .int .i64 (l0.length : Int)), (15, .int .i64 x15_l1), (21, .map (some b1)), (22, .int .i64 v10)]) (w' := w) (by kernel_rfl) ?_
      refine WR.st (St.ofR (RSt.lookup (t := 51) (kt := 3) (et := 3) (kk := .i64) (vk := .i64) (m := q3_l1) (k := v10) (.tmp 21) (.tmp 22) true (by kernel_rfl) (by kernel_rfl) (by kernel_rfl) (by kernel_rfl) (by kernel_rfl) 1 hS rfl (by kernel_rfl) (by kernel_rfl) ?_))
      refine WR.runk [3, 4, 5, 6, 7] [] [3, 4, 5, 6, 7, 8, 13, 14, 15] (L' := [(3, .map (some b1)), (4, .slice A4_l1 x4_l1.length c4_l1), (5, .int .i64 x15_l1), (6, .int .i64 v10), (7, .int .i64 ((mget q3_l1 v10).getD 0)), (8, .bool ((mget q3_l1 v10).isSome)), (13, .slice A0 l0.length c0), (14, .int .i64 (l0.length : Int)), (15, .int .i64 x15_l1)]) (w' := w) (by kernel_rfl) ?_
      refine WR.nil ?_
      refine At.go ?_
      refine WC.seq (by kernel_rfl) ?_
      refine WC.reg [0] (by kernel_rfl) (by kernel_rfl) ?_
      refine WR.runk [0] [] [3, 4, 5, 6, 7, 13, 14, 15, 26] (L' := [(3, .map (some b1)), (4, .slice A4_l1 x4_l1.length c4_l1), (5, .int .i64 x15_l1), (6, .int .i64 v10), (7, .int .i64 ((mget q3_l1 v10).getD 0)), (13, .slice A0 l0.length c0), (14, .int .i64 (l0.length : Int)), (15, .int .i64 x15_l1), (26, .bool ((mget q3_l1 v10).isSome))]) (w' := w) (by kernel_rfl) ?_
      refine WR.nil ?_
      refine At.go ?_
      refine WC.cond (by kernel_rfl) ((mget q3_l1 v10).isSome) (by kernel_rfl) (by kernel_rfl) (fun hb12 => ?_) (fun hb12 => ?_)
      · replace H := ite_t H hb12
        refine WC.reg [0, 1, 2, 3, 4] (by kernel_rfl) (by kernel_rfl) ?_
        refine WR.runk [0, 1, 2] [3, 4] [3, 4, 5, 6, 13, 14, 15, 27, 28, 29] (L' := [(3, .map (some b1)), (4, .slice A4_l1 x4_l1.length c4_l1), (5, .int .i64 x15_l1), (6, .int .i64 v10), (13, .slice A0 l0.length c0), (14, .int .i64 (l0.length : Int)), (15, .int .i64 x15_l1), (27, .slice A4_l1 x4_l1.length c4_l1), (28, .int .i64 x15_l1), (29, .int .i64 ((mget q3_l1 v10).getD 0))]) (w' := w) (by kernel_rfl) ?_
        obtain ⟨v13, e14, H⟩ := bind_ex H
        refine WR.st (St.ofP (PSt.idx (k := .i64) (.tmp 27) (.tmp 28) (by kernel_rfl) (by kernel_rfl) E23 (by kernel_rfl) (by kernel_rfl) (Sat.rdAt 0 hS rfl) e14 ?_))
        refine WR.runk [] [4] [3, 4, 5, 6, 13, 14, 15, 29, 30] (L' := [(3, .map (some b1)), (4, .slice A4_l1 x4_l1.length c4_l1), (5, .int .i64 x15_l1), (6, .int .i64 v10), (13, .slice A0 l0.length c0), (14, .int .i64 (l0.length : Int)), (15, .int .i64 x15_l1), (29, .int .i64 ((mget q3_l1 v10).getD 0)), (30, .pointer (some (adr A4_l1 x15_l1.toNat 1)))]) (w' := w) (by kernel_rfl) ?_
        obtain ⟨y15, e16, H⟩ := bind_ex H
        refine WR.st (St.storeElem' (t := 3) (.tmp 30) (.tmp 29) (by kernel_rfl) (by kernel_rfl) (by kernel_rfl) hS (by kernel_rfl) (by kernel_rfl) rfl e16 rfl (fun w17 hS => ?_))
        have hl18 := set?_len e16
        refine WR.know 4 (.slice A4_l1 y15.length c4_l1) (.slice A4_l1 x4_l1.length c4_l1) (by kernel_rfl) (by rw [hl18]) ?_
        refine WR.runk [] [] [3, 4, 5, 6, 13, 14, 15] (L' := [(3, .map (some b1)), (4, .slice A4_l1 y15.length c4_l1), (5, .int .i64 x15_l1), (6, .int .i64 v10), (13, .slice A0 l0.length c0), (14, .int .i64 (l0.length : Int)), (15, .int .i64 x15_l1)]) (w' := w17) (by kernel_rfl) ?_
        refine WR.nil ?_
        refine At.go ?_
        refine WC.reg [0, 1, 2, 3] (by kernel_rfl) (by kernel_rfl) ?_
        refine WR.runk [0, 1, 2] [3] [3, 4, 13, 14, 15, 34, 35, 36] (L' := [(3, .map (some b1)), (4, .slice A4_l1 y15.length c4_l1), (13, .slice A0 l0.length c0), (14, .int .i64 (l0.length : Int)), (15, .int .i64 x15_l1), (34, .map (some b1)), (35, .int .i64 v10), (36, .int .i64 x15_l1)]) (w' := w17) (by kernel_rfl) ?_
        have hS : Sat w17 (rf w0) [omp .i64 .i64 b1 q3_l1, osl 3 (r0 (.int .i64)) 1 A4_l1 c4_l1 y15] := hS.sel [1, 0] (by kernel_rfl)
        refine WR.st (St.mapUpdate (t := 51) (kt := 3) (et := 3) (m := q3_l1) (k := v10) (v := x15_l1) (.tmp 34) (.tmp 35) (.tmp 36) (by kernel_rfl) (by kernel_rfl) (by kernel_rfl) (by kernel_rfl) hS (by kernel_rfl) (by kernel_rfl) (by kernel_rfl) (fun w19 hS => ?_))
        refine WR.runk [] [] [3, 4, 13, 14, 15] (L' := [(3, .map (some b1)), (4, .slice A4_l1 y15.length c4_l1), (13, .slice A0 l0.length c0), (14, .int .i64 (l0.length : Int)), (15, .int .i64 x15_l1)]) (w' := w19) (by kernel_rfl) ?_
        refine WR.nil ?_
        refine At.blockNormal ?_
        refine At.go ?_
        refine WC.reg [0, 1] (by kernel_rfl) (by kernel_rfl) ?_
        refine WR.runk [0, 1] [] [3, 4, 13, 14, 15] (L' := [(3, .map (some b1)), (4, .slice A4_l1 y15.length c4_l1), (13, .slice A0 l0.length c0), (14, .int .i64 (l0.length : Int)), (15, .int .i64 (wi (x15_l1 + 1)))]) (w' := w19) (by kernel_rfl) ?_
        refine WR.nil ?_
        have hS : Sat w19 (rf w0) [osl 3 (r0 (.int .i64)) 1 A4_l1 c4_l1 y15, omp .i64 .i64 b1 (mset q3_l1 v10 x15_l1)] := hS.sel [1, 0] (by kernel_rfl)
        refine At.again ?_
        refine WL.weaken [3, 4, 13, 14, 15] (L' := [(3, .map (some b1)), (4, .slice A4_l1 y15.length c4_l1), (13, .slice A0 l0.length c0), (14, .int .i64 (l0.length : Int)), (15, .int .i64 (wi (x15_l1 + 1)))]) (by kernel_rfl) ?_
        exact ih y15 (wi (x15_l1 + 1)) (mset q3_l1 v10 x15_l1) A4_l1 c4_l1 _ hS H
      · replace H := ite_f H hb12
        refine WC.reg [0, 1, 2, 3] (by kernel_rfl) (by kernel_rfl) ?_
        refine WR.runk [0, 1] [2, 3] [3, 4, 5, 6, 13, 14, 15, 31, 32] (L' := [(3, .map (some b1)), (4, .slice A4_l1 x4_l1.length c4_l1), (5, .int .i64 x15_l1), (6, .int .i64 v10), (13, .slice A0 l0.length c0), (14, .int .i64 (l0.length : Int)), (15, .int .i64 x15_l1), (31, .slice A4_l1 x4_l1.length c4_l1), (32, .int .i64 x15_l1)]) (w' := w) (by kernel_rfl) ?_
        obtain ⟨v20, e21, H⟩ := bind_ex H
        refine WR.st (St.ofP (PSt.idx (k := .i64) (.tmp 31) (.tmp 32) (by kernel_rfl) (by kernel_rfl) E23 (by kernel_rfl) (by kernel_rfl) (Sat.rdAt 0 hS rfl) e21 ?_))
        refine WR.runk [] [3] [3, 4, 5, 6, 13, 14, 15, 33] (L' := [(3, .map (some b1)), (4, .slice A4_l1 x4_l1.length c4_l1), (5, .int .i64 x15_l1), (6, .int .i64 v10), (13, .slice A0 l0.length c0), (14, .int .i64 (l0.length : Int)), (15, .int .i64 x15_l1), (33, .pointer (some (adr A4_l1 x15_l1.toNat 1)))]) (w' := w) (by kernel_rfl) ?_
        obtain ⟨y22, e23, H⟩ := bind_ex H
        refine WR.st (St.storeElem' (t := 3) (.tmp 33) (.const (.int .i64 (-1))) (by kernel_rfl) (by kernel_rfl) (by kernel_rfl) hS (by kernel_rfl) (by kernel_rfl) rfl e23 rfl (fun w24 hS => ?_))
        have hl25 := set?_len e23
        refine WR.know 4 (.slice A4_l1 y22.length c4_l1) (.slice A4_l1 x4_l1.length c4_l1) (by kernel_rfl) (by rw [hl25]) ?_
        refine WR.runk [] [] [3, 4, 5, 6, 13, 14, 15] (L' := [(3, .map (some b1)), (4, .slice A4_l1 y22.length c4_l1), (5, .int .i64 x15_l1), (6, .int .i64 v10), (13, .slice A0 l0.length c0), (14, .int .i64 (l0.length : Int)), (15, .int .i64 x15_l1)]) (w' := w24) (by kernel_rfl) ?_
        refine WR.nil ?_
        refine At.go ?_
        refine WC.reg [0, 1, 2, 3] (by kernel_rfl) (by kernel_rfl) ?_
        refine WR.runk [0, 1, 2] [3] [3, 4, 13, 14, 15, 34, 35, 36] (L' := [(3, .map (some b1)), (4, .slice A4_l1 y22.length c4_l1), (13, .slice A0 l0.length c0), (14, .int .i64 (l0.length : Int)), (15, .int .i64 x15_l1), (34, .map (some b1)), (35, .int .i64 v10), (36, .int .i64 x15_l1)]) (w' := w24) (by kernel_rfl) ?_
        have hS : Sat w24 (rf w0) [omp .i64 .i64 b1 q3_l1, osl 3 (r0 (.int .i64)) 1 A4_l1 c4_l1 y22] := hS.sel [1, 0] (by kernel_rfl)
        refine WR.st (St.mapUpdate (t := 51) (kt := 3) (et := 3) (m := q3_l1) (k := v10) (v := x15_l1) (.tmp 34) (.tmp 35) (.tmp 36) (by kernel_rfl) (by kernel_rfl) (by kernel_rfl) (by kernel_rfl) hS (by kernel_rfl) (by kernel_rfl) (by kernel_rfl) (fun w26 hS => ?_))
        refine WR.runk [] [] [3, 4, 13, 14, 15] (L' := [(3, .map (some b1)), (4, .slice A4_l1 y22.length c4_l1), (13, .slice A0 l0.length c0), (14, .int .i64 (l0.length : Int)), (15, .int .i64 x15_l1)]) (w' := w26) (by kernel_rfl) ?_
        refine WR.nil ?_
        refine At.blockNormal ?_
        refine At.go ?_
        refine WC.reg [0, 1] (by kernel_rfl) (by kernel_rfl) ?_
        refine WR.runk [0, 1] [] [3, 4, 13, 14, 15] (L' := [(3, .map (some b1)), (4, .slice A4_l1 y22.length c4_l1), (13, .slice A0 l0.length c0), (14, .int .i64 (l0.length : Int)), (15, .int .i64 (wi (x15_l1 + 1)))]) (w' := w26) (by kernel_rfl) ?_
        refine WR.nil ?_
        have hS : Sat w26 (rf w0) [osl 3 (r0 (.int .i64)) 1 A4_l1 c4_l1 y22, omp .i64 .i64 b1 (mset q3_l1 v10 x15_l1)] := hS.sel [1, 0] (by kernel_rfl)
        refine At.again ?_
        refine WL.weaken [3, 4, 13, 14, 15] (L' := [(3, .map (some b1)), (4, .slice A4_l1 y22.length c4_l1), (13, .slice A0 l0.length c0), (14, .int .i64 (l0.length : Int)), (15, .int .i64 (wi (x15_l1 + 1)))]) (by kernel_rfl) ?_
        exact ih y22 (wi (x15_l1 + 1)) (mset q3_l1 v10 x15_l1) A4_l1 c4_l1 _ hS H
    · replace H := ite_f H hb9
      refine WC.exit (by kernel_rfl) ?_
      refine At.thenExit ?_
      refine At.thenExit ?_
      obtain rfl := Option.some.inj H
      have hS : Sat w (rf w0) [osl 3 (r0 (.int .i64)) 1 A4_l1 c4_l1 x4_l1, omp .i64 .i64 b1 q3_l1] := hS.sel [0, 1] (by kernel_rfl)
      refine At.weaken [4] (L' := [(4, .slice A4_l1 x4_l1.length c4_l1)]) (by kernel_rfl) ?_
      exact hn0 A4_l1 c4_l1 _ hS
theorem docs_Back.calls (w0 : World) (A0 : Option Addr) (c0 : Nat) (l0 : List Int) (R0 : rdS (r0 (.int .i64)) 1 (hp w0) A0 c0 l0) (r : (List Int)) (H : docs_Back.f l0 = some r) :
    Calls Try.prog 14 #[.slice A0 l0.length c0] w0 (fun e w' => ∃ v, e = .returned v ∧ docs_Back.post w0 r v w') := by
  have hS : Sat w0 (rf w0) [] := Sat.start w0
  unfold docs_Back.f at H
  refine calls_of_WC (vs := [.slice A0 l0.length c0]) Try.func14 (c := C14) (n := 39) (by kernel_rfl) (by kernel_rfl) (by kernel_rfl) ?_
  refine WC.seq (by kernel_rfl) ?_
  refine WC.reg [0] (by kernel_rfl) (by kernel_rfl) ?_
  refine WR.runk [0] [] [0] (L' := [(0, .slice A0 l0.length c0)]) (w' := w0) (by kernel_rfl) ?_
  refine WR.nil ?_
  refine At.go ?_
  refine WC.seq (by kernel_rfl) ?_
  refine WC.reg [0, 1] (by kernel_rfl) (by kernel_rfl) ?_
  refine WR.st (St.box hS (by kernel_rfl) (.map #[] 0) (fun b1 => .map (some b1)) (fun _ => by kernel_rfl) (fun b1 w2 hS => ?_))
  have hS : Sat w2 (rf w0) [omp .i64 .i64 b1 ([] : List (Int × Int))] := omp.ofNew hS
  refine WR.runk [1] [] [0, 3] (L' := [(0, .slice A0 l0.length c0), (3, .map (some b1))]) (w' := w2) (by kernel_rfl) ?_
  refine WR.nil ?_
  refine At.go ?_
  refine WC.seq (by kernel_rfl) ?_
  refine WC.reg [0, 1, 2, 3] (by kernel_rfl) (by kernel_rfl) ?_
  refine WR.runk [0, 1] [2, 3] [0, 3, 11] (L' := [(0, .slice A0 l0.length c0), (3, .map (some b1)), (11, .int .i64 (l0.length : Int))]) (w' := w2) (by kernel_rfl) ?_
  obtain ⟨y4, e5, H⟩ := bind_ex H
  refine WR.st (St.make' (t := 23) (e := 3) (sz := 1) (bytes := 8) (k1 := .i64) (k2 := .i64) (R := (r0 (.int .i64))) (.tmp 11) (.tmp 11) (by kernel_rfl) (by kernel_rfl) (.int .i64 0) (by kernel_rfl) (by kernel_rfl) rfl (by kernel_rfl) hS (by kernel_rfl) (by kernel_rfl) 17592186044416 (by kernel_rfl) (by kernel_rfl) e5 (fun A6 c7 w8 hS => ?_))
  refine WR.runk [3] [] [0, 3, 4] (L' := [(0, .slice A0 l0.length c0), (3, .map (some b1)), (4, .slice A6 y4.length c7)]) (w' := w8) (by kernel_rfl) ?_
  refine WR.nil ?_
  refine At.go ?_
  refine WC.seq (by kernel_rfl) ?_
  refine WC.seq (by kernel_rfl) ?_
  refine WC.reg [0, 1, 2] (by kernel_rfl) (by kernel_rfl) ?_
  refine WR.runk [0, 1, 2] [] [3, 4, 13, 14, 15] (L' := [(3, .map (some b1)), (4, .slice A6 y4.length c7), (13, .slice A0 l0.length c0), (14, .int .i64 (l0.length : Int)), (15, .int .i64 0)]) (w' := w8) (by kernel_rfl) ?_
  refine WR.nil ?_
  refine At.go ?_
  refine WC.block (by kernel_rfl) ?_
  have hS : Sat w8 (rf w0) [osl 3 (r0 (.int .i64)) 1 A6 c7 y4, omp .i64 .i64 b1 ([] : List (Int × Int))] := hS.sel [0, 1] (by kernel_rfl)
  obtain ⟨o27, e28, H⟩ := bind_ex H
  refine WC.loop (by kernel_rfl) ?_
  refine WL.weaken [3, 4, 13, 14, 15] (L' := [(3, .map (some b1)), (4, .slice A6 y4.length c7), (13, .slice A0 l0.length c0), (14, .int .i64 (l0.length : Int)), (15, .int .i64 0)]) (by kernel_rfl) ?_
  refine docs_Back.l1_ok w0 A0 c0 l0 b1 R0 o27 (fun A4_q29 c4_q29 w30 hS => ?_) FU y4 0 ([] : List (Int × Int)) A6 c7 _ hS e28
  refine At.hit ?_
  refine At.go ?_
  refine WC.seq (by kernel_rfl) ?_
  refine WC.reg [0, 1] (by kernel_rfl) (by kernel_rfl) ?_
  refine WR.runk [0, 1] [] [2] (L' := [(2, .slice A4_q29 o27.1.length c4_q29)]) (w' := w30) (by kernel_rfl) ?_
  refine WR.nil ?_
  refine At.go ?_
  refine WC.ret (by kernel_rfl) ?_
  obtain rfl := Option.some.inj H
  have hS : Sat w30 (rf w0) [osl 3 (r0 (.int .i64)) 1 A4_q29 c4_q29 o27.1] := hS.sel [0] (by kernel_rfl)
  exact At.body [.slice A4_q29 o27.1.length c4_q29] (by kernel_rfl) ⟨_, rfl, _, _, rfl, hS⟩
/-! ### 16 colophon/colophonref08.Same -/
def colophonref08_Same.l1 (l0 : List Int) (l1 : List Int) : Nat → Int → Option (Sum Bool Unit)
  | 0, _ => none
  | k + 1, x13_l1 => (if decide (x13_l1 < (l0.length : Int)) then ((at? l0 x13_l1).bind fun v5 => ((at? l1 x13_l1).bind fun v7 => (if (v5 != v7) then some (.inl false) else colophonref08_Same.l1 l0 l1 k (wi (x13_l1 + 1))))) else some (.inr ()))
def colophonref08_Same.f (l0 : List Int) (l1 : List Int) : Option Bool := (if ((l0.length : Int) != (l1.length : Int)) then some false else ((colophonref08_Same.l1 l0 l1 FU 0).bind fun o10 => (match o10 with | .inl o12 => some o12 | .inr o16 => some true)))
def colophonref08_Same.post (w : World) (r : Bool) (v : Value) (w' : World) : Prop := v = (.bool r : Value) ∧ Sat w' (rf w) []
theorem colophonref08_Same.l1_ok {Q} (w0 : World) (A0 : Option Addr) (c0 : Nat) (l0 : List Int) (A1 : Option Addr) (c1 : Nat) (l1 : List Int) (R0 : rdS (r0 (.int .i64)) 1 (hp w0) A0 c0 l0) (R1 : rdS (r0 (.int .i64)) 1 (hp w0) A1 c1 l1) (out : Sum Bool Unit) (hn0 : ∀ (o0 : Bool) (w : World), out = (.inl o0) → Sat w (rf w0) [] → At Q .ret 26 [(4, .bool o0)] w) (hn1 : ∀ (o1 : Unit) (w : World), out = (.inr o1) → Sat w (rf w0) [] → At Q (.exit 0) 26 [] w) :
    ∀ (k : Nat) (x13_l1 : Int) (w : World), Sat w (rf w0) [] → colophonref08_Same.l1 l0 l1 k x13_l1 = some out → WL Try.prog (cbody (cbody (cr (cl (cr (cr C16)))))) Q 26 [(0, .slice A0 l0.length c0), (1, .slice A1 l1.length c1), (12, .int .i64 (l0.length : Int)), (13, .int .i64 x13_l1)] w := by
  intro k
  induction k with
  | zero => intro x13_l1 w hS H; exact absurd (show none = some out from H) (by simp)
  | succ k ih =>
    intro x13_l1 w hS H
    unfold colophonref08_Same.l1 at H
    refine WL.round ?_
    refine WC.seq (by kernel_rfl) ?_
    refine WC.reg [0] (by kernel_rfl) (by kernel_rfl) ?_
    refine WR.runk [0] [] [0, 1, 12, 13, 14] (L' := [(0, .slice A0 l0.length c0), (1, .slice A1 l1.length c1), (12, .int .i64 (l0.length : Int)), (13, .int .i64 x13_l1), (14, .bool (decide (x13_l1 < (l0.length : Int))))]) (w' := w) (by kernel_rfl) ?_
    refine WR.nil ?_
    refine At.go ?_
    refine WC.seq (by kernel_rfl) ?_
    refine WC.cond (by kernel_rfl) (decide (x13_l1 < (l0.length : Int))) (by kernel_rfl) (by kernel_rfl) (fun hb2 => ?_) (fun hb2 => ?_)
    · replace H := ite_t H hb2
      refine WC.skip (by kernel_rfl) ?_
      refine At.go ?_
      refine WC.seq (by kernel_rfl) ?_
      refine WC.block (by kernel_rfl) ?_
      refine WC.seq (by kernel_rfl) ?_
      refine WC.reg [0, 1] (by kernel_rfl) (by kernel_rfl) ?_
      refine WR.runk [0, 1] [] [0, 1, 5, 12, 13] (L' := [(0, .slice A0 l0.length c0), (1, .slice A1 l1.length c1), (5, .int .i64 x13_l1), (12, .int .i64 (l0.length : Int)), (13, .int .i64 x13_l1)]) (w' := w) (by kernel_rfl) ?_
      refine WR.nil ?_
      refine At.go ?_
      refine WC.seq (by kernel_rfl) ?_
      refine WC.drawn (by kernel_rfl) (by kernel_rfl) 9 (by kernel_rfl) (fun w3 hw4 => ?_)
      have hS := hS.heap hw4.1 hw4.2
      refine WD.weaken [0, 1, 5, 12, 13] (L' := [(0, .slice A0 l0.length c0), (1, .slice A1 l1.length c1), (5, .int .i64 x13_l1), (12, .int .i64 (l0.length : Int)), (13, .int .i64 x13_l1)]) (by kernel_rfl) ?_
      refine WD.pure (i := 0) (v := .slice A0 l0.length c0) (by kernel_rfl) (by kernel_rfl) (fun _ => by kernel_rfl) ?_
      refine WD.weaken [0, 1, 5, 12, 13, 16] (L' := [(0, .slice A0 l0.length c0), (1, .slice A1 l1.length c1), (5, .int .i64 x13_l1), (12, .int .i64 (l0.length : Int)), (13, .int .i64 x13_l1), (16, .slice A0 l0.length c0)]) (by kernel_rfl) ?_
      refine WD.pure (i := 1) (v := .int .i64 x13_l1) (by kernel_rfl) (by kernel_rfl) (fun _ => by kernel_rfl) ?_
      refine WD.weaken [0, 1, 5, 12, 13, 16, 17] (L' := [(0, .slice A0 l0.length c0), (1, .slice A1 l1.length c1), (5, .int .i64 x13_l1), (12, .int .i64 (l0.length : Int)), (13, .int .i64 x13_l1), (16, .slice A0 l0.length c0), (17, .int .i64 x13_l1)]) (by kernel_rfl) ?_
      obtain ⟨v5, e6, H⟩ := bind_ex H
      refine WD.ofP (i := 2) (by kernel_rfl) (PSt.idx (k := .i64) (.tmp 16) (.tmp 17) (by kernel_rfl) (by kernel_rfl) E23 (by kernel_rfl) (by kernel_rfl) (rdS.up R0 hS.sub0) e6 ?_)
      refine WD.weaken [0, 1, 5, 12, 13, 18] (L' := [(0, .slice A0 l0.length c0), (1, .slice A1 l1.length c1), (5, .int .i64 x13_l1), (12, .int .i64 (l0.length : Int)), (13, .int .i64 x13_l1), (18, .pointer (some (adr A0 x13_l1.toNat 1)))]) (by kernel_rfl) ?_
      refine WD.ofR (i := 3) (by kernel_rfl) (RSt.loadInt (t := 3) (.tmp 18) (by kernel_rfl) (by kernel_rfl) (by kernel_rfl) (by kernel_rfl) (rdS.up R0 hS.sub0) e6 ?_)
      refine WD.weaken [0, 1, 5, 12, 13, 19] (L' := [(0, .slice A0 l0.length c0), (1, .slice A1 l1.length c1), (5, .int .i64 x13_l1), (12, .int .i64 (l0.length : Int)), (13, .int .i64 x13_l1), (19, .int .i64 v5)]) (by kernel_rfl) ?_
      refine WD.pure (i := 4) (v := .slice A1 l1.length c1) (by kernel_rfl) (by kernel_rfl) (fun _ => by kernel_rfl) ?_
      refine WD.weaken [0, 1, 5, 12, 13, 19, 20] (L' := [(0, .slice A0 l0.length c0), (1, .slice A1 l1.length c1), (5, .int .i64 x13_l1), (12, .int .i64 (l0.length : Int)), (13, .int .i64 x13_l1), (19, .int .i64 v5), (20, .slice A1 l1.length c1)]) (by kernel_rfl) ?_
      refine WD.pure (i := 5) (v := .int .i64 x13_l1) (by kernel_rfl) (by kernel_rfl) (fun _ => by kernel_rfl) ?_
      refine WD.weaken [0, 1, 12, 13, 19, 20, 21] (L' := [(0, .slice A0 l0.length c0), (1, .slice A1 l1.length c1), (12, .int .i64 (l0.length : Int)), (13, .int .i64 x13_l1), (19, .int .i64 v5), (20, .slice A1 l1.length c1), (21, .int .i64 x13_l1)]) (by kernel_rfl) ?_
      obtain ⟨v7, e8, H⟩ := bind_ex H
      refine WD.ofP (i := 6) (by kernel_rfl) (PSt.idx (k := .i64) (.tmp 20) (.tmp 21) (by kernel_rfl) (by kernel_rfl) E23 (by kernel_rfl) (by kernel_rfl) (rdS.up R1 hS.sub0) e8 ?_)
      refine WD.weaken [0, 1, 12, 13, 19, 22] (L' := [(0, .slice A0 l0.length c0), (1, .slice A1 l1.length c1), (12, .int .i64 (l0.length : Int)), (13, .int .i64 x13_l1), (19, .int .i64 v5), (22, .pointer (some (adr A1 x13_l1.toNat 1)))]) (by kernel_rfl) ?_
      refine WD.ofR (i := 7) (by kernel_rfl) (RSt.loadInt (t := 3) (.tmp 22) (by kernel_rfl) (by kernel_rfl) (by kernel_rfl) (by kernel_rfl) (rdS.up R1 hS.sub0) e8 ?_)
      refine WD.weaken [0, 1, 12, 13, 19, 23] (L' := [(0, .slice A0 l0.length c0), (1, .slice A1 l1.length c1), (12, .int .i64 (l0.length : Int)), (13, .int .i64 x13_l1), (19, .int .i64 v5), (23, .int .i64 v7)]) (by kernel_rfl) ?_
      refine WD.pure (i := 8) (v := .bool (v5 != v7)) (by kernel_rfl) (by kernel_rfl) (fun _ => by kernel_rfl) ?_
      refine WD.weaken [0, 1, 12, 13, 24] (L' := [(0, .slice A0 l0.length c0), (1, .slice A1 l1.length c1), (12, .int .i64 (l0.length : Int)), (13, .int .i64 x13_l1), (24, .bool (v5 != v7))]) (by kernel_rfl) ?_
      refine WD.nil (by kernel_rfl) ?_
      refine At.go ?_
      refine WC.cond (by kernel_rfl) (v5 != v7) (by kernel_rfl) (by kernel_rfl) (fun hb9 => ?_) (fun hb9 => ?_)
      · replace H := ite_t H hb9
        refine WC.seq (by kernel_rfl) ?_
        refine WC.reg [0] (by kernel_rfl) (by kernel_rfl) ?_
        refine WR.runk [0] [] [4] (L' := [(4, .bool false)]) (w' := w3) (by kernel_rfl) ?_
        refine WR.nil ?_
        refine At.go ?_
        refine WC.ret (by kernel_rfl) ?_
        refine At.blockRet ?_
        refine At.thenRet ?_
        refine At.thenRet ?_
        obtain rfl := Option.some.inj H
        have hS : Sat w3 (rf w0) [] := hS.sel [] (by kernel_rfl)
        refine At.weaken [4] (L' := [(4, .bool false)]) (by kernel_rfl) ?_
        exact hn0 false _ rfl hS
      · replace H := ite_f H hb9
        refine WC.skip (by kernel_rfl) ?_
        refine At.blockNormal ?_
        refine At.go ?_
        refine WC.reg [0, 1] (by kernel_rfl) (by kernel_rfl) ?_
        refine WR.runk [0, 1] [] [0, 1, 12, 13] (L' := [(0, .slice A0 l0.length c0), (1, .slice A1 l1.length c1), (12, .int .i64 (l0.length : Int)), (13, .int .i64 (wi (x13_l1 + 1)))]) (w' := w3) (by kernel_rfl) ?_
        refine WR.nil ?_
        have hS : Sat w3 (rf w0) [] := hS.sel [] (by kernel_rfl)
        refine At.again ?_
        refine WL.weaken [0, 1, 12, 13] (L' := [(0, .slice A0 l0.length c0), (1, .slice A1 l1.length c1), (12, .int .i64 (l0.length : Int)), (13, .int .i64 (wi (x13_l1 + 1)))]) (by kernel_rfl) ?_
        exact ih (wi (x13_l1 + 1)) _ hS H
    · replace H := ite_f H hb2
      refine WC.exit (by kernel_rfl) ?_
      refine At.thenExit ?_
      refine At.thenExit ?_
      obtain rfl := Option.some.inj H
      have hS : Sat w (rf w0) [] := hS.sel [] (by kernel_rfl)
      refine At.weaken [] (L' := []) (by kernel_rfl) ?_
      exact hn1 () _ rfl hS
theorem colophonref08_Same.calls (w0 : World) (A0 : Option Addr) (c0 : Nat) (l0 : List Int) (R0 : rdS (r0 (.int .i64)) 1 (hp w0) A0 c0 l0) (A1 : Option Addr) (c1 : Nat) (l1 : List Int) (R1 : rdS (r0 (.int .i64)) 1 (hp w0) A1 c1 l1) (r : Bool) (H : colophonref08_Same.f l0 l1 = some r) :
    Calls Try.prog 16 #[.slice A0 l0.length c0, .slice A1 l1.length c1] w0 (fun e w' => ∃ v, e = .returned v ∧ colophonref08_Same.post w0 r v w') := by
  have hS : Sat w0 (rf w0) [] := Sat.start w0
  unfold colophonref08_Same.f at H
  refine calls_of_WC (vs := [.slice A0 l0.length c0, .slice A1 l1.length c1]) Try.func16 (c := C16) (n := 26) (by kernel_rfl) (by kernel_rfl) (by kernel_rfl) ?_
  refine WC.seq (by kernel_rfl) ?_
  refine WC.reg [0] (by kernel_rfl) (by kernel_rfl) ?_
  refine WR.runk [0] [] [0, 1] (L' := [(0, .slice A0 l0.length c0), (1, .slice A1 l1.length c1)]) (w' := w0) (by kernel_rfl) ?_
  refine WR.nil ?_
  refine At.go ?_
  refine WC.seq (by kernel_rfl) ?_
  refine WC.seq (by kernel_rfl) ?_
  refine WC.reg [0, 1, 2, 3, 4] (by kernel_rfl) (by kernel_rfl) ?_
  refine WR.runk [0, 1, 2, 3, 4] [] [0, 1, 10] (L' := [(0, .slice A0 l0.length c0), (1, .slice A1 l1.length c1), (10, .bool ((l0.length : Int) != (l1.length : Int)))]) (w' := w0) (by kernel_rfl) ?_
  refine WR.nil ?_
  refine At.go ?_
  refine WC.cond (by kernel_rfl) ((l0.length : Int) != (l1.length : Int)) (by kernel_rfl) (by kernel_rfl) (fun hb1 => ?_) (fun hb1 => ?_)
  · replace H := ite_t H hb1
    refine WC.seq (by kernel_rfl) ?_
    refine WC.reg [0] (by kernel_rfl) (by kernel_rfl) ?_
    refine WR.runk [0] [] [4] (L' := [(4, .bool false)]) (w' := w0) (by kernel_rfl) ?_
    refine WR.nil ?_
    refine At.go ?_
    refine WC.ret (by kernel_rfl) ?_
    refine At.thenRet ?_
    obtain rfl := Option.some.inj H
    have hS : Sat w0 (rf w0) [] := hS.sel [] (by kernel_rfl)
    exact At.body [.bool false] (by kernel_rfl) ⟨_, rfl, rfl, hS⟩
  · replace H := ite_f H hb1
    refine WC.skip (by kernel_rfl) ?_
    refine At.go ?_
    refine WC.seq (by kernel_rfl) ?_
    refine WC.seq (by kernel_rfl) ?_
    refine WC.reg [0, 1, 2] (by kernel_rfl) (by kernel_rfl) ?_
    refine WR.runk [0, 1, 2] [] [0, 1, 12, 13] (L' := [(0, .slice A0 l0.length c0), (1, .slice A1 l1.length c1), (12, .int .i64 (l0.length : Int)), (13, .int .i64 0)]) (w' := w0) (by kernel_rfl) ?_
    refine WR.nil ?_
    refine At.go ?_
    refine WC.block (by kernel_rfl) ?_
    have hS : Sat w0 (rf w0) [] := hS.sel [] (by kernel_rfl)
    obtain ⟨o10, e11, H⟩ := bind_ex H
    refine WC.loop (by kernel_rfl) ?_
    refine WL.weaken [0, 1, 12, 13] (L' := [(0, .slice A0 l0.length c0), (1, .slice A1 l1.length c1), (12, .int .i64 (l0.length : Int)), (13, .int .i64 0)]) (by kernel_rfl) ?_
    refine colophonref08_Same.l1_ok w0 A0 c0 l0 A1 c1 l1 R0 R1 o10 (fun o12 w14 ho15 hS => ?_) (fun o16 w18 ho19 hS => ?_) FU 0 _ hS e11
    · subst ho15
      dsimp only at H
      refine At.blockRet ?_
      refine At.thenRet ?_
      obtain rfl := Option.some.inj H
      have hS : Sat w14 (rf w0) [] := hS.sel [] (by kernel_rfl)
      exact At.body [.bool o12] (by kernel_rfl) ⟨_, rfl, rfl, hS⟩
    · subst ho19
      dsimp only at H
      refine At.hit ?_
      refine At.go ?_
      refine WC.seq (by kernel_rfl) ?_
      refine WC.reg [0] (by kernel_rfl) (by kernel_rfl) ?_
      refine WR.runk [0] [] [4] (L' := [(4, .bool true)]) (w' := w18) (by kernel_rfl) ?_
      refine WR.nil ?_
      refine At.go ?_
      refine WC.ret (by kernel_rfl) ?_
      obtain rfl := Option.some.inj H
      have hS : Sat w18 (rf w0) [] := hS.sel [] (by kernel_rfl)
      exact At.body [.bool true] (by kernel_rfl) ⟨_, rfl, rfl, hS⟩
/-! ### 15 colophon/docs.Ahead -/
def docs_Ahead.l1 (l0 : List Int) : Nat → (List Int) → Int → (List (Int × Int)) → Option ((List Int) × (List (Int × Int)))
  | 0, _, _, _ => none
  | k + 1, x4_l1, x5_l1, q3_l1 => (if decide (x5_l1 ≥ 0) then ((at? l0 x5_l1).bind fun v10 => (if (!((mget q3_l1 v10).isSome)) then ((at? x4_l1 x5_l1).bind fun v13 => ((set? x4_l1 x5_l1 (l0.length : Int)).bind fun y15 => docs_Ahead.l1 l0 k y15 (wi (x5_l1 - 1)) (mset q3_l1 v10 x5_l1))) else ((at? x4_l1 x5_l1).bind fun v20 => ((set? x4_l1 x5_l1 ((mget q3_l1 v10).getD 0)).bind fun y22 => docs_Ahead.l1 l0 k y22 (wi (x5_l1 - 1)) (mset q3_l1 v10 x5_l1))))) else some (x4_l1, q3_l1))
def docs_Ahead.f (l0 : List Int) : Option (List Int) := ((make? 17592186044416 0 (l0.length : Int)).bind fun y4 => ((docs_Ahead.l1 l0 FU y4 (wi ((l0.length : Int) - 1)) ([] : List (Int × Int))).bind fun o27 => some o27.1))
def docs_Ahead.post (w : World) (r : (List Int)) (v : Value) (w' : World) : Prop := ∃ (A0' : Option Addr) (c0' : Nat), v = (.slice A0' r.length c0' : Value) ∧ Sat w' (rf w) [osl 3 (r0 (.int .i64)) 1 A0' c0' r]
theorem docs_Ahead.l1_ok {Q} (w0 : World) (A0 : Option Addr) (c0 : Nat) (l0 : List Int) (b1 : Nat) (R0 : rdS (r0 (.int .i64)) 1 (hp w0) A0 c0 l0) (out : (List Int) × (List (Int × Int))) (hn0 : ∀ (A4_q : Option Addr) (c4_q : Nat) (w : World), Sat w (rf w0) [osl 3 (r0 (.int .i64)) 1 A4_q c4_q out.1, omp .i64 .i64 b1 out.2] → At Q (.exit 0) 43 [(4, .slice A4_q out.1.length c4_q)] w) :
    ∀ (k : Nat) (x4_l1 : List Int) (x5_l1 : Int) (q3_l1 : List (Int × Int)) (A4_l1 : Option Addr) (c4_l1 : Nat) (w : World), Sat w (rf w0) [osl 3 (r0 (.int .i64)) 1 A4_l1 c4_l1 x4_l1, omp .i64 .i64 b1 q3_l1] → docs_Ahead.l1 l0 k x4_l1 x5_l1 q3_l1 = some out → WL Try.prog (cbody (cbody (cr (cl (cr (cr (cr C15))))))) Q 43 [(0, .slice A0 l0.length c0), (3, .map (some b1)), (4, .slice A4_l1 x4_l1.length c4_l1), (5, .int .i64 x5_l1)] w := by
  intro k
  induction k with
  | zero => intro x4_l1 x5_l1 q3_l1 A4_l1 c4_l1 w hS H; exact absurd (show none = some out from H) (by simp)
  | succ k ih =>
    intro x4_l1 x5_l1 q3_l1 A4_l1 c4_l1 w hS H
    unfold docs_Ahead.l1 at H
    refine WL.round ?_
    refine WC.seq (by kernel_rfl) ?_
    refine WC.seq (by kernel_rfl) ?_
    refine WC.reg [0, 1] (by kernel_rfl) (by kernel_rfl) ?_
    refine WR.runk [0, 1] [] [0, 3, 4, 5, 16] (L' := [(0, .slice A0 l0.length c0), (3, .map (some b1)), (4, .slice A4_l1 x4_l1.length c4_l1), (5, .int .i64 x5_l1), (16, .bool (decide (x5_l1 ≥ 0)))]) (w' := w) (by kernel_rfl) ?_
    refine WR.nil ?_
    refine At.go ?_
    refine WC.cond (by kernel_rfl) (decide (x5_l1 ≥ 0)) (by kernel_rfl) (by kernel_rfl) (fun hb9 => ?_) (fun hb9 => ?_)
    · replace H := ite_t H hb9
      refine WC.skip (by kernel_rfl) ?_
      refine At.go ?_
      refine WC.seq (by kernel_rfl) ?_
      refine WC.block (by kernel_rfl) ?_
      refine WC.seq (by kernel_rfl) ?_
      refine WC.reg [0, 1, 2, 3, 4, 5, 6, 7, 8, 9, 10] (by kernel_rfl) (by kernel_rfl) ?_
      refine WR.runk [0, 1, 2] [3, 4, 5, 6, 7, 8, 9, 10] [0, 3, 4, 5, 20, 21, 22] (L' := [(0, .slice A0 l0.length c0), (3, .map (some b1)), (4, .slice A4_l1 x4_l1.length c4_l1), (5, .int .i64 x5_l1), (20, .map (some b1)), (21, .slice A0 l0.length c0), (22, .int .i64 x5_l1)]) (w' := w) (by kernel_rfl) ?_
      obtain ⟨v10, e11, H⟩ := bind_ex H
      refine WR.st (St.ofP (PSt.idx (k := .i64) (.tmp 21) (.tmp 22) (by kernel_rfl) (by kernel_rfl) E23 (by kernel_rfl) (by kernel_rfl) (rdS.up R0 hS.sub0) e11 ?_))
      refine WR.runk [] [4, 5, 6, 7, 8, 9, 10] [0, 3, 4, 5, 20, 23] (L' := [(0, .slice A0 l0.length c0), (3, .map (some b1)), (4, .slice A4_l1 x4_l1.length c4_l1), (5, .int .i64 x5_l1), (20, .map (some b1)), (23, .pointer (some (adr A0 x5_l1.toNat 1)))]) (w' := w) (by kernel_rfl) ?_
      refine WR.st (St.ofR (RSt.loadInt (t := 3) (.tmp 23) (by kernel_rfl) (by kernel_rfl) (by kernel_rfl) (by kernel_rfl) (rdS.up R0 hS.sub0) e11 ?_))
      refine WR.runk [] [5, 6, 7, 8, 9, 10] [0, 3, 4, 5, 20, 24] (L' := [(0, .slice A0 l0.length c0), (3, .map (some b1)), (4, .slice A4_l1 x4_l1.length c4_l1), (5, .int .i64 x5_l1), (20, .map (some b1)), (24, .int .i64 v10)]) (w' := w) (by kernel_rfl) ?_
      refine WR.st (St.ofR (RSt.lookup (t := 51) (kt := 3) (et := 3) (kk := .i64) (vk := .i64) (m := q3_l1) (k := v10) (.tmp 20) (.tmp 24) true (by kernel_rfl) (by kernel_rfl) (by kernel_rfl) (by kernel_rfl) (by kernel_rfl) 1 hS rfl (by kernel_rfl) (by kernel_rfl) ?_))
      refine WR.runk [6, 7, 8, 9, 10] [] [0, 3, 4, 5, 6, 7] (L' := [(0, .slice A0 l0.length c0), (3, .map (some b1)), (4, .slice A4_l1 x4_l1.length c4_l1), (5, .int .i64 x5_l1), (6, .int .i64 ((mget q3_l1 v10).getD 0)), (7, .bool ((mget q3_l1 v10).isSome))]) (w' := w) (by kernel_rfl) ?_
      refine WR.nil ?_
      refine At.go ?_
      refine WC.seq (by kernel_rfl) ?_
      refine WC.seq (by kernel_rfl) ?_
      refine WC.reg [0, 1] (by kernel_rfl) (by kernel_rfl) ?_
      refine WR.runk [0, 1] [] [0, 3, 4, 5, 6, 29] (L' := [(0, .slice A0 l0.length c0), (3, .map (some b1)), (4, .slice A4_l1 x4_l1.length c4_l1), (5, .int .i64 x5_l1), (6, .int .i64 ((mget q3_l1 v10).getD 0)), (29, .bool (!((mget q3_l1 v10).isSome)))]) (w' := w) (by kernel_rfl) ?_
      refine WR.nil ?_
      refine At.go ?_
      refine WC.cond (by kernel_rfl) (!((mget q3_l1 v10).isSome)) (by kernel_rfl) (by kernel_rfl) (fun hb12 => ?_) (fun hb12 => ?_)
      · replace H := ite_t H hb12
        refine WC.reg [0, 1, 2] (by kernel_rfl) (by kernel_rfl) ?_
        refine WR.runk [0, 1, 2] [] [0, 3, 4, 5, 6] (L' := [(0, .slice A0 l0.length c0), (3, .map (some b1)), (4, .slice A4_l1 x4_l1.length c4_l1), (5, .int .i64 x5_l1), (6, .int .i64 (l0.length : Int))]) (w' := w) (by kernel_rfl) ?_
        refine WR.nil ?_
        refine At.go ?_
        refine WC.seq (by kernel_rfl) ?_
        refine WC.reg [0, 1, 2, 3, 4] (by kernel_rfl) (by kernel_rfl) ?_
        refine WR.runk [0, 1, 2] [3, 4] [0, 3, 4, 5, 32, 33, 34] (L' := [(0, .slice A0 l0.length c0), (3, .map (some b1)), (4, .slice A4_l1 x4_l1.length c4_l1), (5, .int .i64 x5_l1), (32, .slice A4_l1 x4_l1.length c4_l1), (33, .int .i64 x5_l1), (34, .int .i64 (l0.length : Int))]) (w' := w) (by kernel_rfl) ?_
        obtain ⟨v13, e14, H⟩ := bind_ex H
        refine WR.st (St.ofP (PSt.idx (k := .i64) (.tmp 32) (.tmp 33) (by kernel_rfl) (by kernel_rfl) E23 (by kernel_rfl) (by kernel_rfl) (Sat.rdAt 0 hS rfl) e14 ?_))
        refine WR.runk [] [4] [0, 3, 4, 5, 34, 35] (L' := [(0, .slice A0 l0.length c0), (3, .map (some b1)), (4, .slice A4_l1 x4_l1.length c4_l1), (5, .int .i64 x5_l1), (34, .int .i64 (l0.length : Int)), (35, .pointer (some (adr A4_l1 x5_l1.toNat 1)))]) (w' := w) (by kernel_rfl) ?_
        obtain ⟨y15, e16, H⟩ := bind_ex H
        refine WR.st (St.storeElem' (t := 3) (.tmp 35) (.tmp 34) (by kernel_rfl) (by kernel_rfl) (by kernel_rfl) hS (by kernel_rfl) (by kernel_rfl) rfl e16 rfl (fun w17 hS => ?_))
        have hl18 := set?_len e16
        refine WR.know 4 (.slice A4_l1 y15.length c4_l1) (.slice A4_l1 x4_l1.length c4_l1) (by kernel_rfl) (by rw [hl18]) ?_
        refine WR.runk [] [] [0, 3, 4, 5] (L' := [(0, .slice A0 l0.length c0), (3, .map (some b1)), (4, .slice A4_l1 y15.length c4_l1), (5, .int .i64 x5_l1)]) (w' := w17) (by kernel_rfl) ?_
        refine WR.nil ?_
        refine At.go ?_
        refine WC.reg [0, 1, 2, 3, 4, 5, 6] (by kernel_rfl) (by kernel_rfl) ?_
        refine WR.runk [0, 1, 2] [3, 4, 5, 6] [0, 3, 4, 5, 36, 37, 38] (L' := [(0, .slice A0 l0.length c0), (3, .map (some b1)), (4, .slice A4_l1 y15.length c4_l1), (5, .int .i64 x5_l1), (36, .map (some b1)), (37, .slice A0 l0.length c0), (38, .int .i64 x5_l1)]) (w' := w17) (by kernel_rfl) ?_
        refine WR.st (St.ofP (PSt.idx (k := .i64) (.tmp 37) (.tmp 38) (by kernel_rfl) (by kernel_rfl) E23 (by kernel_rfl) (by kernel_rfl) (rdS.up R0 hS.sub0) e11 ?_))
        refine WR.runk [] [4, 5, 6] [0, 3, 4, 5, 36, 39] (L' := [(0, .slice A0 l0.length c0), (3, .map (some b1)), (4, .slice A4_l1 y15.length c4_l1), (5, .int .i64 x5_l1), (36, .map (some b1)), (39, .pointer (some (adr A0 x5_l1.toNat 1)))]) (w' := w17) (by kernel_rfl) ?_
        refine WR.st (St.ofR (RSt.loadInt (t := 3) (.tmp 39) (by kernel_rfl) (by kernel_rfl) (by kernel_rfl) (by kernel_rfl) (rdS.up R0 hS.sub0) e11 ?_))
        refine WR.runk [5] [6] [0, 3, 4, 5, 36, 40, 41] (L' := [(0, .slice A0 l0.length c0), (3, .map (some b1)), (4, .slice A4_l1 y15.length c4_l1), (5, .int .i64 x5_l1), (36, .map (some b1)), (40, .int .i64 v10), (41, .int .i64 x5_l1)]) (w' := w17) (by kernel_rfl) ?_
        have hS : Sat w17 (rf w0) [omp .i64 .i64 b1 q3_l1, osl 3 (r0 (.int .i64)) 1 A4_l1 c4_l1 y15] := hS.sel [1, 0] (by kernel_rfl)
        refine WR.st (St.mapUpdate (t := 51) (kt := 3) (et := 3) (m := q3_l1) (k := v10) (v := x5_l1) (.tmp 36) (.tmp 40) (.tmp 41) (by kernel_rfl) (by kernel_rfl) (by kernel_rfl) (by kernel_rfl) hS (by kernel_rfl) (by kernel_rfl) (by kernel_rfl) (fun w19 hS => ?_))
        refine WR.runk [] [] [0, 3, 4, 5] (L' := [(0, .slice A0 l0.length c0), (3, .map (some b1)), (4, .slice A4_l1 y15.length c4_l1), (5, .int .i64 x5_l1)]) (w' := w19) (by kernel_rfl) ?_
        refine WR.nil ?_
        refine At.blockNormal ?_
        refine At.go ?_
        refine WC.reg [0, 1, 2] (by kernel_rfl) (by kernel_rfl) ?_
        refine WR.runk [0, 1, 2] [] [0, 3, 4, 5] (L' := [(0, .slice A0 l0.length c0), (3, .map (some b1)), (4, .slice A4_l1 y15.length c4_l1), (5, .int .i64 (wi (x5_l1 - 1)))]) (w' := w19) (by kernel_rfl) ?_
        refine WR.nil ?_
        have hS : Sat w19 (rf w0) [osl 3 (r0 (.int .i64)) 1 A4_l1 c4_l1 y15, omp .i64 .i64 b1 (mset q3_l1 v10 x5_l1)] := hS.sel [1, 0] (by kernel_rfl)
        refine At.again ?_
        refine WL.weaken [0, 3, 4, 5] (L' := [(0, .slice A0 l0.length c0), (3, .map (some b1)), (4, .slice A4_l1 y15.length c4_l1), (5, .int .i64 (wi (x5_l1 - 1)))]) (by kernel_rfl) ?_
        exact ih y15 (wi (x5_l1 - 1)) (mset q3_l1 v10 x5_l1) A4_l1 c4_l1 _ hS H
      · replace H := ite_f H hb12
        refine WC.skip (by kernel_rfl) ?_
        refine At.go ?_
        refine WC.seq (by kernel_rfl) ?_
        refine WC.reg [0, 1, 2, 3, 4] (by kernel_rfl) (by kernel_rfl) ?_
        refine WR.runk [0, 1, 2] [3, 4] [0, 3, 4, 5, 32, 33, 34] (L' := [(0, .slice A0 l0.length c0), (3, .map (some b1)), (4, .slice A4_l1 x4_l1.length c4_l1), (5, .int .i64 x5_l1), (32, .slice A4_l1 x4_l1.length c4_l1), (33, .int .i64 x5_l1), (34, .int .i64 ((mget q3_l1 v10).getD 0))]) (w' := w) (by kernel_rfl) ?_
        obtain ⟨v20, e21, H⟩ := bind_ex H
        refine WR.st (St.ofP (PSt.idx (k := .i64) (.tmp 32) (.tmp 33) (by kernel_rfl) (by kernel_rfl) E23 (by kernel_rfl) (by kernel_rfl) (Sat.rdAt 0 hS rfl) e21 ?_))
        refine WR.runk [] [4] [0, 3, 4, 5, 34, 35] (L' := [(0, .slice A0 l0.length c0), (3, .map (some b1)), (4, .slice A4_l1 x4_l1.length c4_l1), (5, .int .i64 x5_l1), (34, .int .i64 ((mget q3_l1 v10).getD 0)), (35, .pointer (some (adr A4_l1 x5_l1.toNat 1)))]) (w' := w) (by kernel_rfl) ?_
        obtain ⟨y22, e23, H⟩ := bind_ex H
        refine WR.st (St.storeElem' (t := 3) (.tmp 35) (.tmp 34) (by kernel_rfl) (by kernel_rfl) (by kernel_rfl) hS (by kernel_rfl) (by kernel_rfl) rfl e23 rfl (fun w24 hS => ?_))
        have hl25 := set?_len e23
        refine WR.know 4 (.slice A4_l1 y22.length c4_l1) (.slice A4_l1 x4_l1.length c4_l1) (by kernel_rfl) (by rw [hl25]) ?_
        refine WR.runk [] [] [0, 3, 4, 5] (L' := [(0, .slice A0 l0.length c0), (3, .map (some b1)), (4, .slice A4_l1 y22.length c4_l1), (5, .int .i64 x5_l1)]) (w' := w24) (by kernel_rfl) ?_
        refine WR.nil ?_
        refine At.go ?_
        refine WC.reg [0, 1, 2, 3, 4, 5, 6] (by kernel_rfl) (by kernel_rfl) ?_
        refine WR.runk [0, 1, 2] [3, 4, 5, 6] [0, 3, 4, 5, 36, 37, 38] (L' := [(0, .slice A0 l0.length c0), (3, .map (some b1)), (4, .slice A4_l1 y22.length c4_l1), (5, .int .i64 x5_l1), (36, .map (some b1)), (37, .slice A0 l0.length c0), (38, .int .i64 x5_l1)]) (w' := w24) (by kernel_rfl) ?_
        refine WR.st (St.ofP (PSt.idx (k := .i64) (.tmp 37) (.tmp 38) (by kernel_rfl) (by kernel_rfl) E23 (by kernel_rfl) (by kernel_rfl) (rdS.up R0 hS.sub0) e11 ?_))
        refine WR.runk [] [4, 5, 6] [0, 3, 4, 5, 36, 39] (L' := [(0, .slice A0 l0.length c0), (3, .map (some b1)), (4, .slice A4_l1 y22.length c4_l1), (5, .int .i64 x5_l1), (36, .map (some b1)), (39, .pointer (some (adr A0 x5_l1.toNat 1)))]) (w' := w24) (by kernel_rfl) ?_
        refine WR.st (St.ofR (RSt.loadInt (t := 3) (.tmp 39) (by kernel_rfl) (by kernel_rfl) (by kernel_rfl) (by kernel_rfl) (rdS.up R0 hS.sub0) e11 ?_))
        refine WR.runk [5] [6] [0, 3, 4, 5, 36, 40, 41] (L' := [(0, .slice A0 l0.length c0), (3, .map (some b1)), (4, .slice A4_l1 y22.length c4_l1), (5, .int .i64 x5_l1), (36, .map (some b1)), (40, .int .i64 v10), (41, .int .i64 x5_l1)]) (w' := w24) (by kernel_rfl) ?_
        have hS : Sat w24 (rf w0) [omp .i64 .i64 b1 q3_l1, osl 3 (r0 (.int .i64)) 1 A4_l1 c4_l1 y22] := hS.sel [1, 0] (by kernel_rfl)
        refine WR.st (St.mapUpdate (t := 51) (kt := 3) (et := 3) (m := q3_l1) (k := v10) (v := x5_l1) (.tmp 36) (.tmp 40) (.tmp 41) (by kernel_rfl) (by kernel_rfl) (by kernel_rfl) (by kernel_rfl) hS (by kernel_rfl) (by kernel_rfl) (by kernel_rfl) (fun w26 hS => ?_))
        refine WR.runk [] [] [0, 3, 4, 5] (L' := [(0, .slice A0 l0.length c0), (3, .map (some b1)), (4, .slice A4_l1 y22.length c4_l1), (5, .int .i64 x5_l1)]) (w' := w26) (by kernel_rfl) ?_
        refine WR.nil ?_
        refine At.blockNormal ?_
        refine At.go ?_
        refine WC.reg [0, 1, 2] (by kernel_rfl) (by kernel_rfl) ?_
        refine WR.runk [0, 1, 2] [] [0, 3, 4, 5] (L' := [(0, .slice A0 l0.length c0), (3, .map (some b1)), (4, .slice A4_l1 y22.length c4_l1), (5, .int .i64 (wi (x5_l1 - 1)))]) (w' := w26) (by kernel_rfl) ?_
        refine WR.nil ?_
        have hS : Sat w26 (rf w0) [osl 3 (r0 (.int .i64)) 1 A4_l1 c4_l1 y22, omp .i64 .i64 b1 (mset q3_l1 v10 x5_l1)] := hS.sel [1, 0] (by kernel_rfl)
        refine At.again ?_
        refine WL.weaken [0, 3, 4, 5] (L' := [(0, .slice A0 l0.length c0), (3, .map (some b1)), (4, .slice A4_l1 y22.length c4_l1), (5, .int .i64 (wi (x5_l1 - 1)))]) (by kernel_rfl) ?_
        exact ih y22 (wi (x5_l1 - 1)) (mset q3_l1 v10 x5_l1) A4_l1 c4_l1 _ hS H
    · replace H := ite_f H hb9
      refine WC.exit (by kernel_rfl) ?_
      refine At.thenExit ?_
      refine At.thenExit ?_
      obtain rfl := Option.some.inj H
      have hS : Sat w (rf w0) [osl 3 (r0 (.int .i64)) 1 A4_l1 c4_l1 x4_l1, omp .i64 .i64 b1 q3_l1] := hS.sel [0, 1] (by kernel_rfl)
      refine At.weaken [4] (L' := [(4, .slice A4_l1 x4_l1.length c4_l1)]) (by kernel_rfl) ?_
      exact hn0 A4_l1 c4_l1 _ hS
theorem docs_Ahead.calls (w0 : World) (A0 : Option Addr) (c0 : Nat) (l0 : List Int) (R0 : rdS (r0 (.int .i64)) 1 (hp w0) A0 c0 l0) (r : (List Int)) (H : docs_Ahead.f l0 = some r) :
    Calls Try.prog 15 #[.slice A0 l0.length c0] w0 (fun e w' => ∃ v, e = .returned v ∧ docs_Ahead.post w0 r v w') := by
  have hS : Sat w0 (rf w0) [] := Sat.start w0
  unfold docs_Ahead.f at H
  refine calls_of_WC (vs := [.slice A0 l0.length c0]) Try.func15 (c := C15) (n := 43) (by kernel_rfl) (by kernel_rfl) (by kernel_rfl) ?_
  refine WC.seq (by kernel_rfl) ?_
  refine WC.reg [0] (by kernel_rfl) (by kernel_rfl) ?_
  refine WR.runk [0] [] [0] (L' := [(0, .slice A0 l0.length c0)]) (w' := w0) (by kernel_rfl) ?_
  refine WR.nil ?_
  refine At.go ?_
  refine WC.seq (by kernel_rfl) ?_
  refine WC.reg [0, 1] (by kernel_rfl) (by kernel_rfl) ?_
  refine WR.st (St.box hS (by kernel_rfl) (.map #[] 0) (fun b1 => .map (some b1)) (fun _ => by kernel_rfl) (fun b1 w2 hS => ?_))
  have hS : Sat w2 (rf w0) [omp .i64 .i64 b1 ([] : List (Int × Int))] := omp.ofNew hS
  refine WR.runk [1] [] [0, 3] (L' := [(0, .slice A0 l0.length c0), (3, .map (some b1))]) (w' := w2) (by kernel_rfl) ?_
  refine WR.nil ?_
  refine At.go ?_
  refine WC.seq (by kernel_rfl) ?_
  refine WC.reg [0, 1, 2, 3] (by kernel_rfl) (by kernel_rfl) ?_
  refine WR.runk [0, 1] [2, 3] [0, 3, 10] (L' := [(0, .slice A0 l0.length c0), (3, .map (some b1)), (10, .int .i64 (l0.length : Int))]) (w' := w2) (by kernel_rfl) ?_
  obtain ⟨y4, e5, H⟩ := bind_ex H
  refine WR.st (St.make' (t := 23) (e := 3) (sz := 1) (bytes := 8) (k1 := .i64) (k2 := .i64) (R := (r0 (.int .i64))) (.tmp 10) (.tmp 10) (by kernel_rfl) (by kernel_rfl) (.int .i64 0) (by kernel_rfl) (by kernel_rfl) rfl (by kernel_rfl) hS (by kernel_rfl) (by kernel_rfl) 17592186044416 (by kernel_rfl) (by kernel_rfl) e5 (fun A6 c7 w8 hS => ?_))
  refine WR.runk [3] [] [0, 3, 4] (L' := [(0, .slice A0 l0.length c0), (3, .map (some b1)), (4, .slice A6 y4.length c7)]) (w' := w8) (by kernel_rfl) ?_
  refine WR.nil ?_
  refine At.go ?_
  refine WC.seq (by kernel_rfl) ?_
  refine WC.seq (by kernel_rfl) ?_
  refine WC.reg [0, 1, 2, 3] (by kernel_rfl) (by kernel_rfl) ?_
  refine WR.runk [0, 1, 2, 3] [] [0, 3, 4, 5] (L' := [(0, .slice A0 l0.length c0), (3, .map (some b1)), (4, .slice A6 y4.length c7), (5, .int .i64 (wi ((l0.length : Int) - 1)))]) (w' := w8) (by kernel_rfl) ?_
  refine WR.nil ?_
  refine At.go ?_
  refine WC.block (by kernel_rfl) ?_
  have hS : Sat w8 (rf w0) [osl 3 (r0 (.int .i64)) 1 A6 c7 y4, omp .i64 .i64 b1 ([] : List (Int × Int))] := hS.sel [0, 1] (by kernel_rfl)
  obtain ⟨o27, e28, H⟩ := bind_ex H
  refine WC.loop (by kernel_rfl) ?_
  refine WL.weaken [0, 3, 4, 5] (L' := [(0, .slice A0 l0.length c0), (3, .map (some b1)), (4, .slice A6 y4.length c7), (5, .int .i64 (wi ((l0.length : Int) - 1)))]) (by kernel_rfl) ?_
  refine docs_Ahead.l1_ok w0 A0 c0 l0 b1 R0 o27 (fun A4_q29 c4_q29 w30 hS => ?_) FU y4 (wi ((l0.length : Int) - 1)) ([] : List (Int × Int)) A6 c7 _ hS e28
  refine At.hit ?_
  refine At.go ?_
  refine WC.seq (by kernel_rfl) ?_
  refine WC.reg [0, 1] (by kernel_rfl) (by kernel_rfl) ?_
  refine WR.runk [0, 1] [] [2] (L' := [(2, .slice A4_q29 o27.1.length c4_q29)]) (w' := w30) (by kernel_rfl) ?_
  refine WR.nil ?_
  refine At.go ?_
  refine WC.ret (by kernel_rfl) ?_
  obtain rfl := Option.some.inj H
  have hS : Sat w30 (rf w0) [osl 3 (r0 (.int .i64)) 1 A4_q29 c4_q29 o27.1] := hS.sel [0] (by kernel_rfl)
  exact At.body [.slice A4_q29 o27.1.length c4_q29] (by kernel_rfl) ⟨_, rfl, _, _, rfl, hS⟩
/-! ### 19 colophon/docs.Count -/
def docs_Count.l1 (l0 : List Int) (a1 : Int) (a3 : Int) : Nat → Int → Int → Option Int
  | 0, _, _ => none
  | k + 1, x9_l1, x10_l1 => (if decide (x10_l1 < imin a3 (l0.length : Int)) then ((at? l0 x10_l1).bind fun v2 => (if (v2 == a1) then docs_Count.l1 l0 a1 a3 k (wi (x9_l1 + 1)) (wi (x10_l1 + 1)) else docs_Count.l1 l0 a1 a3 k x9_l1 (wi (x10_l1 + 1)))) else some x9_l1)
def docs_Count.f (l0 : List Int) (a1 : Int) (a2 : Int) (a3 : Int) : Option Int := ((docs_Count.l1 l0 a1 a3 FU 0 (imax a2 0)).bind fun o5 => some o5)
def docs_Count.post (w : World) (r : Int) (v : Value) (w' : World) : Prop := v = (.int .i64 r : Value) ∧ Sat w' (rf w) []
theorem docs_Count.l1_ok {Q} (w0 : World) (A0 : Option Addr) (c0 : Nat) (l0 : List Int) (a1 : Int) (a3 : Int) (R0 : rdS (r0 (.int .i64)) 1 (hp w0) A0 c0 l0) (out : Int) (hn0 : ∀ (w : World), Sat w (rf w0) [] → At Q (.exit 0) 30 [(9, .int .i64 out)] w) :
    ∀ (k : Nat) (x9_l1 : Int) (x10_l1 : Int) (w : World), Sat w (rf w0) [] → docs_Count.l1 l0 a1 a3 k x9_l1 x10_l1 = some out → WL Try.prog (cbody (cbody (cr (cl (cr (cr C19)))))) Q 30 [(0, .slice A0 l0.length c0), (1, .int .i64 a1), (3, .int .i64 a3), (9, .int .i64 x9_l1), (10, .int .i64 x10_l1)] w := by
  intro k
  induction k with
  | zero => intro x9_l1 x10_l1 w hS H; exact absurd (show none = some out from H) (by simp)
  | succ k ih =>
    intro x9_l1 x10_l1 w hS H
    unfold docs_Count.l1 at H
    refine WL.round ?_
    refine WC.seq (by kernel_rfl) ?_
    refine WC.seq (by kernel_rfl) ?_
    refine WC.reg [0, 1, 2, 3, 4, 5] (by kernel_rfl) (by kernel_rfl) ?_
    refine WR.runk [0, 1, 2, 3, 4, 5] [] [0, 1, 3, 9, 10, 18] (L' := [(0, .slice A0 l0.length c0), (1, .int .i64 a1), (3, .int .i64 a3), (9, .int .i64 x9_l1), (10, .int .i64 x10_l1), (18, .bool (decide (x10_l1 < imin a3 (l0.length : Int))))]) (w' := w) (by kernel_rfl) ?_
    refine WR.nil ?_
    refine At.go ?_
    refine WC.cond (by kernel_rfl) (decide (x10_l1 < imin a3 (l0.length : Int))) (by kernel_rfl) (by kernel_rfl) (fun hb1 => ?_) (fun hb1 => ?_)
    · replace H := ite_t H hb1
      refine WC.skip (by kernel_rfl) ?_
      refine At.go ?_
      refine WC.seq (by kernel_rfl) ?_
      refine WC.block (by kernel_rfl) ?_
      refine WC.seq (by kernel_rfl) ?_
      refine WC.reg [0, 1, 2, 3, 4, 5] (by kernel_rfl) (by kernel_rfl) ?_
      refine WR.runk [0, 1] [2, 3, 4, 5] [0, 1, 3, 9, 10, 21, 22] (L' := [(0, .slice A0 l0.length c0), (1, .int .i64 a1), (3, .int .i64 a3), (9, .int .i64 x9_l1), (10, .int .i64 x10_l1), (21, .slice A0 l0.length c0), (22, .int .i64 x10_l1)]) (w' := w) (by kernel_rfl) ?_
      obtain ⟨v2, e3, H⟩ := bind_ex H
      refine WR.st (St.ofP (PSt.idx (k := .i64) (.tmp 21) (.tmp 22) (by kernel_rfl) (by kernel_rfl) E23 (by kernel_rfl) (by kernel_rfl) (rdS.up R0 hS.sub0) e3 ?_))
      refine WR.runk [] [3, 4, 5] [0, 1, 3, 9, 10, 23] (L' := [(0, .slice A0 l0.length c0), (1, .int .i64 a1), (3, .int .i64 a3), (9, .int .i64 x9_l1), (10, .int .i64 x10_l1), (23, .pointer (some (adr A0 x10_l1.toNat 1)))]) (w' := w) (by kernel_rfl) ?_
      refine WR.st (St.ofR (RSt.loadInt (t := 3) (.tmp 23) (by kernel_rfl) (by kernel_rfl) (by kernel_rfl) (by kernel_rfl) (rdS.up R0 hS.sub0) e3 ?_))
      refine WR.runk [4, 5] [] [0, 1, 3, 9, 10, 26] (L' := [(0, .slice A0 l0.length c0), (1, .int .i64 a1), (3, .int .i64 a3), (9, .int .i64 x9_l1), (10, .int .i64 x10_l1), (26, .bool (v2 == a1))]) (w' := w) (by kernel_rfl) ?_
      refine WR.nil ?_
      refine At.go ?_
      refine WC.cond (by kernel_rfl) (v2 == a1) (by kernel_rfl) (by kernel_rfl) (fun hb4 => ?_) (fun hb4 => ?_)
      · replace H := ite_t H hb4
        refine WC.reg [0, 1, 2] (by kernel_rfl) (by kernel_rfl) ?_
        refine WR.runk [0, 1, 2] [] [0, 1, 3, 9, 10] (L' := [(0, .slice A0 l0.length c0), (1, .int .i64 a1), (3, .int .i64 a3), (9, .int .i64 (wi (x9_l1 + 1))), (10, .int .i64 x10_l1)]) (w' := w) (by kernel_rfl) ?_
        refine WR.nil ?_
        refine At.blockNormal ?_
        refine At.go ?_
        refine WC.reg [0, 1, 2] (by kernel_rfl) (by kernel_rfl) ?_
        refine WR.runk [0, 1, 2] [] [0, 1, 3, 9, 10] (L' := [(0, .slice A0 l0.length c0), (1, .int .i64 a1), (3, .int .i64 a3), (9, .int .i64 (wi (x9_l1 + 1))), (10, .int .i64 (wi (x10_l1 + 1)))]) (w' := w) (by kernel_rfl) ?_
        refine WR.nil ?_
        have hS : Sat w (rf w0) [] := hS.sel [] (by kernel_rfl)
        refine At.again ?_
        refine WL.weaken [0, 1, 3, 9, 10] (L' := [(0, .slice A0 l0.length c0), (1, .int .i64 a1), (3, .int .i64 a3), (9, .int .i64 (wi (x9_l1 + 1))), (10, .int .i64 (wi (x10_l1 + 1)))]) (by kernel_rfl) ?_
        exact ih (wi (x9_l1 + 1)) (wi (x10_l1 + 1)) _ hS H
      · replace H := ite_f H hb4
        refine WC.skip (by kernel_rfl) ?_
        refine At.blockNormal ?_
        refine At.go ?_
        refine WC.reg [0, 1, 2] (by kernel_rfl) (by kernel_rfl) ?_
        refine WR.runk [0, 1, 2] [] [0, 1, 3, 9, 10] (L' := [(0, .slice A0 l0.length c0), (1, .int .i64 a1), (3, .int .i64 a3), (9, .int .i64 x9_l1), (10, .int .i64 (wi (x10_l1 + 1)))]) (w' := w) (by kernel_rfl) ?_
        refine WR.nil ?_
        have hS : Sat w (rf w0) [] := hS.sel [] (by kernel_rfl)
        refine At.again ?_
        refine WL.weaken [0, 1, 3, 9, 10] (L' := [(0, .slice A0 l0.length c0), (1, .int .i64 a1), (3, .int .i64 a3), (9, .int .i64 x9_l1), (10, .int .i64 (wi (x10_l1 + 1)))]) (by kernel_rfl) ?_
        exact ih x9_l1 (wi (x10_l1 + 1)) _ hS H
    · replace H := ite_f H hb1
      refine WC.exit (by kernel_rfl) ?_
      refine At.thenExit ?_
      refine At.thenExit ?_
      obtain rfl := Option.some.inj H
      have hS : Sat w (rf w0) [] := hS.sel [] (by kernel_rfl)
      refine At.weaken [9] (L' := [(9, .int .i64 x9_l1)]) (by kernel_rfl) ?_
      exact hn0 _ hS
theorem docs_Count.calls (w0 : World) (A0 : Option Addr) (c0 : Nat) (l0 : List Int) (R0 : rdS (r0 (.int .i64)) 1 (hp w0) A0 c0 l0) (a1 : Int) (a2 : Int) (a3 : Int) (r : Int) (H : docs_Count.f l0 a1 a2 a3 = some r) :
    Calls Try.prog 19 #[.slice A0 l0.length c0, .int .i64 a1, .int .i64 a2, .int .i64 a3] w0 (fun e w' => ∃ v, e = .returned v ∧ docs_Count.post w0 r v w') := by
  have hS : Sat w0 (rf w0) [] := Sat.start w0
  unfold docs_Count.f at H
  refine calls_of_WC (vs := [.slice A0 l0.length c0, .int .i64 a1, .int .i64 a2, .int .i64 a3]) Try.func19 (c := C19) (n := 30) (by kernel_rfl) (by kernel_rfl) (by kernel_rfl) ?_
  refine WC.seq (by kernel_rfl) ?_
  refine WC.reg [0] (by kernel_rfl) (by kernel_rfl) ?_
  refine WR.runk [0] [] [0, 1, 2, 3] (L' := [(0, .slice A0 l0.length c0), (1, .int .i64 a1), (2, .int .i64 a2), (3, .int .i64 a3)]) (w' := w0) (by kernel_rfl) ?_
  refine WR.nil ?_
  refine At.go ?_
  refine WC.seq (by kernel_rfl) ?_
  refine WC.reg [0] (by kernel_rfl) (by kernel_rfl) ?_
  refine WR.runk [0] [] [0, 1, 2, 3, 9] (L' := [(0, .slice A0 l0.length c0), (1, .int .i64 a1), (2, .int .i64 a2), (3, .int .i64 a3), (9, .int .i64 0)]) (w' := w0) (by kernel_rfl) ?_
  refine WR.nil ?_
  refine At.go ?_
  refine WC.seq (by kernel_rfl) ?_
  refine WC.seq (by kernel_rfl) ?_
  refine WC.reg [0, 1, 2] (by kernel_rfl) (by kernel_rfl) ?_
  refine WR.runk [0, 1, 2] [] [0, 1, 3, 9, 10] (L' := [(0, .slice A0 l0.length c0), (1, .int .i64 a1), (3, .int .i64 a3), (9, .int .i64 0), (10, .int .i64 (imax a2 0))]) (w' := w0) (by kernel_rfl) ?_
  refine WR.nil ?_
  refine At.go ?_
  refine WC.block (by kernel_rfl) ?_
  have hS : Sat w0 (rf w0) [] := hS.sel [] (by kernel_rfl)
  obtain ⟨o5, e6, H⟩ := bind_ex H
  refine WC.loop (by kernel_rfl) ?_
  refine WL.weaken [0, 1, 3, 9, 10] (L' := [(0, .slice A0 l0.length c0), (1, .int .i64 a1), (3, .int .i64 a3), (9, .int .i64 0), (10, .int .i64 (imax a2 0))]) (by kernel_rfl) ?_
  refine docs_Count.l1_ok w0 A0 c0 l0 a1 a3 R0 o5 (fun w8 hS => ?_) FU 0 (imax a2 0) _ hS e6
  refine At.hit ?_
  refine At.go ?_
  refine WC.seq (by kernel_rfl) ?_
  refine WC.reg [0, 1] (by kernel_rfl) (by kernel_rfl) ?_
  refine WR.runk [0, 1] [] [8] (L' := [(8, .int .i64 o5)]) (w' := w8) (by kernel_rfl) ?_
  refine WR.nil ?_
  refine At.go ?_
  refine WC.ret (by kernel_rfl) ?_
  obtain rfl := Option.some.inj H
  have hS : Sat w8 (rf w0) [] := hS.sel [] (by kernel_rfl)
  exact At.body [.int .i64 o5] (by kernel_rfl) ⟨_, rfl, rfl, hS⟩
/-! ### 7 colophon/colophonlaw12.first -/
def colophonlaw12_first.f : Option Bool := ((text_New.f ([([97] : List Int)] : List (List Int))).bind fun r8 => ((docs_Array.f r8.1 ([1, 0] : List Int)).bind fun r20 => ((docs_Array.f none ([] : List Int)).bind fun r31 => ((docs_Back.f ([1, 0, 1, 1, 0] : List Int)).bind fun r42 => ((colophonref08_Same.f r42 ([(-1), (-1), 0, 2, 1] : List Int)).bind fun r55 => (if r55 then ((docs_Ahead.f ([1, 0, 1, 1, 0] : List Int)).bind fun r65 => ((colophonref08_Same.f r65 ([2, 4, 3, 5, 5] : List Int)).bind fun r78 => (if r78 then ((docs_Count.f ([1, 0, 1, 1, 0] : List Int) 1 1 4).bind fun r88 => (if (r88 == 2) then (if (r20.2 == 0) then ((colophonref08_Same.f r20.1 ([0, 0] : List Int)).bind fun r101 => (if r101 then some (r31.2 == 1) else some false)) else some false) else some false)) else some false))) else some false))))))
def colophonlaw12_first.post (w : World) (r : Bool) (v : Value) (w' : World) : Prop := v = (.bool r : Value) ∧ Sat w' (rf w) []
theorem colophonlaw12_first.calls (w0 : World) (r : Bool) (H : colophonlaw12_first.f = some r) :
    Calls Try.prog 7 #[] w0 (fun e w' => ∃ v, e = .returned v ∧ colophonlaw12_first.post w0 r v w') := by
  have hS : Sat w0 (rf w0) [] := Sat.start w0
  unfold colophonlaw12_first.f at H
  refine calls_of_WC (vs := []) Try.func7 (c := C7) (n := 54) (by kernel_rfl) (by kernel_rfl) (by kernel_rfl) ?_
  refine WC.seq (by kernel_rfl) ?_
  refine WC.reg [0] (by kernel_rfl) (by kernel_rfl) ?_
  refine WR.runk [0] [] [] (L' := []) (w' := w0) (by kernel_rfl) ?_
  refine WR.nil ?_
  refine At.go ?_
  refine WC.seq (by kernel_rfl) ?_
  refine WC.reg [0, 1] (by kernel_rfl) (by kernel_rfl) ?_
  refine WR.st (St.box hS (by kernel_rfl) (.cells #[.int .i64 1, .int .i64 0, .int .i64 1, .int .i64 1, .int .i64 0] 3) (fun b1 => .slice (some ⟨b1, 0, none⟩) 5 5) (fun _ => by kernel_rfl) (fun b1 w2 hS => ?_))
  refine WR.runk [1] [] [1] (L' := [(1, .slice (some ⟨b1, 0, none⟩) 5 5)]) (w' := w2) (by kernel_rfl) ?_
  refine WR.nil ?_
  refine At.go ?_
  refine WC.seq (by kernel_rfl) ?_
  refine WC.reg [0, 1, 2, 3, 4, 5, 6, 7, 8] (by kernel_rfl) (by kernel_rfl) ?_
  refine WR.st (St.box hS (by kernel_rfl) (.cells #[.int .u8 97] 5) (fun b3 => .slice (some ⟨b3, 0, none⟩) 1 1) (fun _ => by kernel_rfl) (fun b3 w4 hS => ?_))
  refine WR.runk [] [1, 2, 3, 4, 5, 6, 7, 8] [1, 10] (L' := [(1, .slice (some ⟨b1, 0, none⟩) 5 5), (10, .slice (some ⟨b3, 0, none⟩) 1 1)]) (w' := w4) (by kernel_rfl) ?_
  refine WR.st (St.mark (t := 44) (e := 5) (m := 1) (cp := 1) (.tmp 10) (by kernel_rfl) (by kernel_rfl) (by kernel_rfl) (by kernel_rfl) hS (by kernel_rfl) (fun w5 hS => ?_))
  refine WR.runk [] [2, 3, 4, 5, 6, 7, 8] [1, 11] (L' := [(1, .slice (some ⟨b1, 0, none⟩) 5 5), (11, .slice (some ⟨b3, 0, none⟩) 1 1)]) (w' := w5) (by kernel_rfl) ?_
  refine WR.st (St.box hS (by kernel_rfl) (.cells #[.slice (some ⟨b3, 0, none⟩) 1 1] 44) (fun b6 => .slice (some ⟨b6, 0, none⟩) 1 1) (fun _ => by kernel_rfl) (fun b6 w7 hS => ?_))
  refine WR.runk [] [3, 4, 5, 6, 7, 8] [1, 12] (L' := [(1, .slice (some ⟨b1, 0, none⟩) 5 5), (12, .slice (some ⟨b6, 0, none⟩) 1 1)]) (w' := w7) (by kernel_rfl) ?_
  obtain ⟨r8, e9, H⟩ := bind_ex H
  refine WR.st (St.call (by kernel_rfl) (f := 9) (args := #[.slice (some ⟨b6, 0, none⟩) 1 1]) (by kernel_rfl) (text_New.calls w7 (some ⟨b6, 0, none⟩) 1 ([([97] : List Int)] : List (List Int)) (Sat.ptsAt 0 (rd (hp w7) (.slice 5 (.int .u8))) 1 ([([97] : List Int)] : List (List Int)) hS rfl rfl (rdL.cons1 ⟨_, _, rfl, (rdS.r0up (Sat.ptsAt 1 (r0 (.int .u8)) 1 ([97] : List Int) hS rfl rfl (rdL.cons1 rfl (rdL.nil _ _))))⟩ (rdL.nil _ _))) r8 e9) ?_)
  rintro _ w15 ⟨pv17, rfl, hS16⟩
  have hS : Sat w15 (rf w0) [optP O46 pv17 r8.1, pts b6 (.cells #[.slice (some ⟨b3, 0, none⟩) 1 1] 44 (0, 0)), pts b3 (.cells #[.int .u8 97] 5 (1, 2)), pts b1 (.cells #[.int .i64 1, .int .i64 0, .int .i64 1, .int .i64 1, .int .i64 0] 3 (0, 0))] := hS.ext hS16
  refine WR.runk [4, 5, 6, 7, 8] [] [1, 2] (L' := [(1, .slice (some ⟨b1, 0, none⟩) 5 5), (2, pv17)]) (w' := w15) (by kernel_rfl) ?_
  refine WR.nil ?_
  refine At.go ?_
  refine WC.seq (by kernel_rfl) ?_
  refine WC.reg [0, 1, 2, 3, 4, 5, 6, 7] (by kernel_rfl) (by kernel_rfl) ?_
  refine WR.runk [0] [1, 2, 3, 4, 5, 6, 7] [1, 17] (L' := [(1, .slice (some ⟨b1, 0, none⟩) 5 5), (17, pv17)]) (w' := w15) (by kernel_rfl) ?_
  refine WR.st (St.box hS (by kernel_rfl) (.cells #[.int .i64 1, .int .i64 0] 3) (fun b18 => .slice (some ⟨b18, 0, none⟩) 2 2) (fun _ => by kernel_rfl) (fun b18 w19 hS => ?_))
  refine WR.runk [] [2, 3, 4, 5, 6, 7] [1, 17, 18] (L' := [(1, .slice (some ⟨b1, 0, none⟩) 5 5), (17, pv17), (18, .slice (some ⟨b18, 0, none⟩) 2 2)]) (w' := w19) (by kernel_rfl) ?_
  obtain ⟨r20, e21, H⟩ := bind_ex H
  refine WR.st (St.call (by kernel_rfl) (f := 10) (args := #[pv17, .slice (some ⟨b18, 0, none⟩) 2 2]) (by kernel_rfl) (docs_Array.calls w19 (pv17) r8.1 (Sat.rdAny 1 hS rfl (fun _ h => optP.rdd (t := 46) (κ := (.pair (.slice 44 (.slice 5 (.int .u8))) (.pair (.slice 3 (.int .i64)) (.int .i64)))) (O := O46) O46.rd h)) (some ⟨b18, 0, none⟩) 2 ([1, 0] : List Int) (Sat.ptsAt 0 (r0 (.int .i64)) 1 ([1, 0] : List Int) hS rfl rfl (rdL.cons1 rfl (rdL.cons1 rfl (rdL.nil _ _)))) r20 e21) ?_)
  rintro _ w27 ⟨A29, c30, rfl, hS28⟩
  have hS : Sat w27 (rf w0) [osl 3 (r0 (.int .i64)) 1 A29 c30 r20.1, pts b18 (.cells #[.int .i64 1, .int .i64 0] 3 (0, 0)), optP O46 pv17 r8.1, pts b6 (.cells #[.slice (some ⟨b3, 0, none⟩) 1 1] 44 (0, 0)), pts b3 (.cells #[.int .u8 97] 5 (1, 2)), pts b1 (.cells #[.int .i64 1, .int .i64 0, .int .i64 1, .int .i64 1, .int .i64 0] 3 (0, 0))] := hS.ext hS28
  refine WR.runk [3, 4, 5, 6, 7] [] [1, 4, 5] (L' := [(1, .slice (some ⟨b1, 0, none⟩) 5 5), (4, .slice A29 r20.1.length c30), (5, .int .i64 r20.2)]) (w' := w27) (by kernel_rfl) ?_
  refine WR.nil ?_
  refine At.go ?_
  refine WC.seq (by kernel_rfl) ?_
  refine WC.reg [0, 1, 2, 3, 4, 5] (by kernel_rfl) (by kernel_rfl) ?_
  obtain ⟨r31, e32, H⟩ := bind_ex H
  refine WR.st (St.call (by kernel_rfl) (f := 10) (args := #[.pointer none, .slice none 0 0]) (by kernel_rfl) (docs_Array.calls w27 (.pointer none) none rfl none 0 ([] : List Int) (rdS.nil _ _ _) r31 e32) ?_)
  rintro _ w38 ⟨A40, c41, rfl, hS39⟩
  have hS : Sat w38 (rf w0) [osl 3 (r0 (.int .i64)) 1 A40 c41 r31.1, osl 3 (r0 (.int .i64)) 1 A29 c30 r20.1, pts b18 (.cells #[.int .i64 1, .int .i64 0] 3 (0, 0)), optP O46 pv17 r8.1, pts b6 (.cells #[.slice (some ⟨b3, 0, none⟩) 1 1] 44 (0, 0)), pts b3 (.cells #[.int .u8 97] 5 (1, 2)), pts b1 (.cells #[.int .i64 1, .int .i64 0, .int .i64 1, .int .i64 1, .int .i64 0] 3 (0, 0))] := hS.ext hS39
  refine WR.runk [1, 2, 3, 4, 5] [] [1, 4, 5, 7] (L' := [(1, .slice (some ⟨b1, 0, none⟩) 5 5), (4, .slice A29 r20.1.length c30), (5, .int .i64 r20.2), (7, .int .i64 r31.2)]) (w' := w38) (by kernel_rfl) ?_
  refine WR.nil ?_
  refine At.go ?_
  refine WC.seq (by kernel_rfl) ?_
  refine WC.reg [0, 1, 2, 3, 4, 5, 6, 7, 8, 9, 10, 11, 12, 13, 14, 15, 16, 17, 18, 19, 20, 21, 22, 23, 24, 25, 26, 27, 28] (by kernel_rfl) (by kernel_rfl) ?_
  refine WR.runk [0] [1, 2, 3, 4, 5, 6, 7, 8, 9, 10, 11, 12, 13, 14, 15, 16, 17, 18, 19, 20, 21, 22, 23, 24, 25, 26, 27, 28] [1, 4, 5, 7, 26] (L' := [(1, .slice (some ⟨b1, 0, none⟩) 5 5), (4, .slice A29 r20.1.length c30), (5, .int .i64 r20.2), (7, .int .i64 r31.2), (26, .slice (some ⟨b1, 0, none⟩) 5 5)]) (w' := w38) (by kernel_rfl) ?_
  obtain ⟨r42, e43, H⟩ := bind_ex H
  refine WR.st (St.call (by kernel_rfl) (f := 14) (args := #[.slice (some ⟨b1, 0, none⟩) 5 5]) (by kernel_rfl) (docs_Back.calls w38 (some ⟨b1, 0, none⟩) 5 ([1, 0, 1, 1, 0] : List Int) (Sat.ptsAt 6 (r0 (.int .i64)) 1 ([1, 0, 1, 1, 0] : List Int) hS rfl rfl (rdL.cons1 rfl (rdL.cons1 rfl (rdL.cons1 rfl (rdL.cons1 rfl (rdL.cons1 rfl (rdL.nil _ _))))))) r42 e43) ?_)
  rintro _ w49 ⟨A51, c52, rfl, hS50⟩
  have hS : Sat w49 (rf w0) [osl 3 (r0 (.int .i64)) 1 A51 c52 r42, osl 3 (r0 (.int .i64)) 1 A40 c41 r31.1, osl 3 (r0 (.int .i64)) 1 A29 c30 r20.1, pts b18 (.cells #[.int .i64 1, .int .i64 0] 3 (0, 0)), optP O46 pv17 r8.1, pts b6 (.cells #[.slice (some ⟨b3, 0, none⟩) 1 1] 44 (0, 0)), pts b3 (.cells #[.int .u8 97] 5 (1, 2)), pts b1 (.cells #[.int .i64 1, .int .i64 0, .int .i64 1, .int .i64 1, .int .i64 0] 3 (0, 0))] := hS.ext hS50
  refine WR.runk [] [2, 3, 4, 5, 6, 7, 8, 9, 10, 11, 12, 13, 14, 15, 16, 17, 18, 19, 20, 21, 22, 23, 24, 25, 26, 27, 28] [1, 4, 5, 7, 27] (L' := [(1, .slice (some ⟨b1, 0, none⟩) 5 5), (4, .slice A29 r20.1.length c30), (5, .int .i64 r20.2), (7, .int .i64 r31.2), (27, .slice A51 r42.length c52)]) (w' := w49) (by kernel_rfl) ?_
  refine WR.st (St.box hS (by kernel_rfl) (.cells #[.int .i64 (-1), .int .i64 (-1), .int .i64 0, .int .i64 2, .int .i64 1] 3) (fun b53 => .slice (some ⟨b53, 0, none⟩) 5 5) (fun _ => by kernel_rfl) (fun b53 w54 hS => ?_))
  refine WR.runk [] [3, 4, 5, 6, 7, 8, 9, 10, 11, 12, 13, 14, 15, 16, 17, 18, 19, 20, 21, 22, 23, 24, 25, 26, 27, 28] [1, 4, 5, 7, 27, 28] (L' := [(1, .slice (some ⟨b1, 0, none⟩) 5 5), (4, .slice A29 r20.1.length c30), (5, .int .i64 r20.2), (7, .int .i64 r31.2), (27, .slice A51 r42.length c52), (28, .slice (some ⟨b53, 0, none⟩) 5 5)]) (w' := w54) (by kernel_rfl) ?_
  obtain ⟨r55, e56, H⟩ := bind_ex H
  refine WR.st (St.call (by kernel_rfl) (f := 16) (args := #[.slice A51 r42.length c52, .slice (some ⟨b53, 0, none⟩) 5 5]) (by kernel_rfl) (colophonref08_Same.calls w54 A51 c52 r42 (Sat.rdAt 1 hS rfl) (some ⟨b53, 0, none⟩) 5 ([(-1), (-1), 0, 2, 1] : List Int) (Sat.ptsAt 0 (r0 (.int .i64)) 1 ([(-1), (-1), 0, 2, 1] : List Int) hS rfl rfl (rdL.cons1 rfl (rdL.cons1 rfl (rdL.cons1 rfl (rdL.cons1 rfl (rdL.cons1 rfl (rdL.nil _ _))))))) r55 e56) ?_)
  rintro _ w62 ⟨rfl, hS63⟩
  have hS : Sat w62 (rf w0) [pts b53 (.cells #[.int .i64 (-1), .int .i64 (-1), .int .i64 0, .int .i64 2, .int .i64 1] 3 (0, 0)), osl 3 (r0 (.int .i64)) 1 A51 c52 r42, osl 3 (r0 (.int .i64)) 1 A40 c41 r31.1, osl 3 (r0 (.int .i64)) 1 A29 c30 r20.1, pts b18 (.cells #[.int .i64 1, .int .i64 0] 3 (0, 0)), optP O46 pv17 r8.1, pts b6 (.cells #[.slice (some ⟨b3, 0, none⟩) 1 1] 44 (0, 0)), pts b3 (.cells #[.int .u8 97] 5 (1, 2)), pts b1 (.cells #[.int .i64 1, .int .i64 0, .int .i64 1, .int .i64 1, .int .i64 0] 3 (0, 0))] := hS.ext hS63
  refine WR.runk [4] [5, 6, 7, 8, 9, 10, 11, 12, 13, 14, 15, 16, 17, 18, 19, 20, 21, 22, 23, 24, 25, 26, 27, 28] [1, 4, 5, 7, 30] (L' := [(1, .slice (some ⟨b1, 0, none⟩) 5 5), (4, .slice A29 r20.1.length c30), (5, .int .i64 r20.2), (7, .int .i64 r31.2), (30, .bool r55)]) (w' := w62) (by kernel_rfl) ?_
  refine WR.split 30 (b := r55) (by kernel_rfl) (fun hb64 => ?_) (fun hb64 => ?_)
  · replace H := ite_t H hb64
    refine WR.runk [5] [6, 7, 8, 9, 10, 11, 12, 13, 14, 15, 16, 17, 18, 19, 20, 21, 22, 23, 24, 25, 26, 27, 28] [1, 4, 5, 7, 30, 31] (L' := [(1, .slice (some ⟨b1, 0, none⟩) 5 5), (4, .slice A29 r20.1.length c30), (5, .int .i64 r20.2), (7, .int .i64 r31.2), (30, .bool true), (31, .slice (some ⟨b1, 0, none⟩) 5 5)]) (w' := w62) (by kernel_rfl) ?_
    obtain ⟨r65, e66, H⟩ := bind_ex H
    refine WR.st (St.call (by kernel_rfl) (f := 15) (args := #[.slice (some ⟨b1, 0, none⟩) 5 5]) (by kernel_rfl) (docs_Ahead.calls w62 (some ⟨b1, 0, none⟩) 5 ([1, 0, 1, 1, 0] : List Int) (Sat.ptsAt 8 (r0 (.int .i64)) 1 ([1, 0, 1, 1, 0] : List Int) hS rfl rfl (rdL.cons1 rfl (rdL.cons1 rfl (rdL.cons1 rfl (rdL.cons1 rfl (rdL.cons1 rfl (rdL.nil _ _))))))) r65 e66) ?_)
    rintro _ w72 ⟨A74, c75, rfl, hS73⟩
    have hS : Sat w72 (rf w0) [osl 3 (r0 (.int .i64)) 1 A74 c75 r65, pts b53 (.cells #[.int .i64 (-1), .int .i64 (-1), .int .i64 0, .int .i64 2, .int .i64 1] 3 (0, 0)), osl 3 (r0 (.int .i64)) 1 A51 c52 r42, osl 3 (r0 (.int .i64)) 1 A40 c41 r31.1, osl 3 (r0 (.int .i64)) 1 A29 c30 r20.1, pts b18 (.cells #[.int .i64 1, .int .i64 0] 3 (0, 0)), optP O46 pv17 r8.1, pts b6 (.cells #[.slice (some ⟨b3, 0, none⟩) 1 1] 44 (0, 0)), pts b3 (.cells #[.int .u8 97] 5 (1, 2)), pts b1 (.cells #[.int .i64 1, .int .i64 0, .int .i64 1, .int .i64 1, .int .i64 0] 3 (0, 0))] := hS.ext hS73
    refine WR.runk [] [7, 8, 9, 10, 11, 12, 13, 14, 15, 16, 17, 18, 19, 20, 21, 22, 23, 24, 25, 26, 27, 28] [1, 4, 5, 7, 30, 32] (L' := [(1, .slice (some ⟨b1, 0, none⟩) 5 5), (4, .slice A29 r20.1.length c30), (5, .int .i64 r20.2), (7, .int .i64 r31.2), (30, .bool true), (32, .slice A74 r65.length c75)]) (w' := w72) (by kernel_rfl) ?_
    refine WR.st (St.box hS (by kernel_rfl) (.cells #[.int .i64 2, .int .i64 4, .int .i64 3, .int .i64 5, .int .i64 5] 3) (fun b76 => .slice (some ⟨b76, 0, none⟩) 5 5) (fun _ => by kernel_rfl) (fun b76 w77 hS => ?_))
    refine WR.runk [] [8, 9, 10, 11, 12, 13, 14, 15, 16, 17, 18, 19, 20, 21, 22, 23, 24, 25, 26, 27, 28] [1, 4, 5, 7, 30, 32, 33] (L' := [(1, .slice (some ⟨b1, 0, none⟩) 5 5), (4, .slice A29 r20.1.length c30), (5, .int .i64 r20.2), (7, .int .i64 r31.2), (30, .bool true), (32, .slice A74 r65.length c75), (33, .slice (some ⟨b76, 0, none⟩) 5 5)]) (w' := w77) (by kernel_rfl) ?_
    obtain ⟨r78, e79, H⟩ := bind_ex H
    refine WR.st (St.call (by kernel_rfl) (f := 16) (args := #[.slice A74 r65.length c75, .slice (some ⟨b76, 0, none⟩) 5 5]) (by kernel_rfl) (colophonref08_Same.calls w77 A74 c75 r65 (Sat.rdAt 1 hS rfl) (some ⟨b76, 0, none⟩) 5 ([2, 4, 3, 5, 5] : List Int) (Sat.ptsAt 0 (r0 (.int .i64)) 1 ([2, 4, 3, 5, 5] : List Int) hS rfl rfl (rdL.cons1 rfl (rdL.cons1 rfl (rdL.cons1 rfl (rdL.cons1 rfl (rdL.cons1 rfl (rdL.nil _ _))))))) r78 e79) ?_)
    rintro _ w85 ⟨rfl, hS86⟩
    have hS : Sat w85 (rf w0) [pts b76 (.cells #[.int .i64 2, .int .i64 4, .int .i64 3, .int .i64 5, .int .i64 5] 3 (0, 0)), osl 3 (r0 (.int .i64)) 1 A74 c75 r65, pts b53 (.cells #[.int .i64 (-1), .int .i64 (-1), .int .i64 0, .int .i64 2, .int .i64 1] 3 (0, 0)), osl 3 (r0 (.int .i64)) 1 A51 c52 r42, osl 3 (r0 (.int .i64)) 1 A40 c41 r31.1, osl 3 (r0 (.int .i64)) 1 A29 c30 r20.1, pts b18 (.cells #[.int .i64 1, .int .i64 0] 3 (0, 0)), optP O46 pv17 r8.1, pts b6 (.cells #[.slice (some ⟨b3, 0, none⟩) 1 1] 44 (0, 0)), pts b3 (.cells #[.int .u8 97] 5 (1, 2)), pts b1 (.cells #[.int .i64 1, .int .i64 0, .int .i64 1, .int .i64 1, .int .i64 0] 3 (0, 0))] := hS.ext hS86
    refine WR.runk [9, 10] [11, 12, 13, 14, 15, 16, 17, 18, 19, 20, 21, 22, 23, 24, 25, 26, 27, 28] [1, 4, 5, 7, 36] (L' := [(1, .slice (some ⟨b1, 0, none⟩) 5 5), (4, .slice A29 r20.1.length c30), (5, .int .i64 r20.2), (7, .int .i64 r31.2), (36, .bool r78)]) (w' := w85) (by kernel_rfl) ?_
    refine WR.split 36 (b := r78) (by kernel_rfl) (fun hb87 => ?_) (fun hb87 => ?_)
    · replace H := ite_t H hb87
      refine WR.runk [11] [12, 13, 14, 15, 16, 17, 18, 19, 20, 21, 22, 23, 24, 25, 26, 27, 28] [4, 5, 7, 36, 37] (L' := [(4, .slice A29 r20.1.length c30), (5, .int .i64 r20.2), (7, .int .i64 r31.2), (36, .bool true), (37, .slice (some ⟨b1, 0, none⟩) 5 5)]) (w' := w85) (by kernel_rfl) ?_
      obtain ⟨r88, e89, H⟩ := bind_ex H
      refine WR.st (St.call (by kernel_rfl) (f := 19) (args := #[.slice (some ⟨b1, 0, none⟩) 5 5, .int .i64 1, .int .i64 1, .int .i64 4]) (by kernel_rfl) (docs_Count.calls w85 (some ⟨b1, 0, none⟩) 5 ([1, 0, 1, 1, 0] : List Int) (Sat.ptsAt 10 (r0 (.int .i64)) 1 ([1, 0, 1, 1, 0] : List Int) hS rfl rfl (rdL.cons1 rfl (rdL.cons1 rfl (rdL.cons1 rfl (rdL.cons1 rfl (rdL.cons1 rfl (rdL.nil _ _))))))) 1 1 4 r88 e89) ?_)
      rintro _ w95 ⟨rfl, hS96⟩
      have hS : Sat w95 (rf w0) [pts b76 (.cells #[.int .i64 2, .int .i64 4, .int .i64 3, .int .i64 5, .int .i64 5] 3 (0, 0)), osl 3 (r0 (.int .i64)) 1 A74 c75 r65, pts b53 (.cells #[.int .i64 (-1), .int .i64 (-1), .int .i64 0, .int .i64 2, .int .i64 1] 3 (0, 0)), osl 3 (r0 (.int .i64)) 1 A51 c52 r42, osl 3 (r0 (.int .i64)) 1 A40 c41 r31.1, osl 3 (r0 (.int .i64)) 1 A29 c30 r20.1, pts b18 (.cells #[.int .i64 1, .int .i64 0] 3 (0, 0)), optP O46 pv17 r8.1, pts b6 (.cells #[.slice (some ⟨b3, 0, none⟩) 1 1] 44 (0, 0)), pts b3 (.cells #[.int .u8 97] 5 (1, 2)), pts b1 (.cells #[.int .i64 1, .int .i64 0, .int .i64 1, .int .i64 1, .int .i64 0] 3 (0, 0))] := hS.ext hS96
      refine WR.runk [13, 14, 15] [16, 17, 18, 19, 20, 21, 22, 23, 24, 25, 26, 27, 28] [4, 5, 7, 41] (L' := [(4, .slice A29 r20.1.length c30), (5, .int .i64 r20.2), (7, .int .i64 r31.2), (41, .bool (r88 == 2))]) (w' := w95) (by kernel_rfl) ?_
      refine WR.split 41 (b := (r88 == 2)) (by kernel_rfl) (fun hb97 => ?_) (fun hb97 => ?_)
      · replace H := ite_t H hb97
        refine WR.runk [16, 17, 18, 19] [20, 21, 22, 23, 24, 25, 26, 27, 28] [4, 7, 45] (L' := [(4, .slice A29 r20.1.length c30), (7, .int .i64 r31.2), (45, .bool (r20.2 == 0))]) (w' := w95) (by kernel_rfl) ?_
        refine WR.split 45 (b := (r20.2 == 0)) (by kernel_rfl) (fun hb98 => ?_) (fun hb98 => ?_)
        · replace H := ite_t H hb98
          refine WR.runk [20] [21, 22, 23, 24, 25, 26, 27, 28] [7, 45, 46] (L' := [(7, .int .i64 r31.2), (45, .bool true), (46, .slice A29 r20.1.length c30)]) (w' := w95) (by kernel_rfl) ?_
          refine WR.st (St.box hS (by kernel_rfl) (.cells #[.int .i64 0, .int .i64 0] 3) (fun b99 => .slice (some ⟨b99, 0, none⟩) 2 2) (fun _ => by kernel_rfl) (fun b99 w100 hS => ?_))
          refine WR.runk [] [22, 23, 24, 25, 26, 27, 28] [7, 45, 46, 47] (L' := [(7, .int .i64 r31.2), (45, .bool true), (46, .slice A29 r20.1.length c30), (47, .slice (some ⟨b99, 0, none⟩) 2 2)]) (w' := w100) (by kernel_rfl) ?_
          obtain ⟨r101, e102, H⟩ := bind_ex H
          refine WR.st (St.call (by kernel_rfl) (f := 16) (args := #[.slice A29 r20.1.length c30, .slice (some ⟨b99, 0, none⟩) 2 2]) (by kernel_rfl) (colophonref08_Same.calls w100 A29 c30 r20.1 (Sat.rdAt 6 hS rfl) (some ⟨b99, 0, none⟩) 2 ([0, 0] : List Int) (Sat.ptsAt 0 (r0 (.int .i64)) 1 ([0, 0] : List Int) hS rfl rfl (rdL.cons1 rfl (rdL.cons1 rfl (rdL.nil _ _)))) r101 e102) ?_)
          rintro _ w108 ⟨rfl, hS109⟩
          have hS : Sat w108 (rf w0) [pts b99 (.cells #[.int .i64 0, .int .i64 0] 3 (0, 0)), pts b76 (.cells #[.int .i64 2, .int .i64 4, .int .i64 3, .int .i64 5, .int .i64 5] 3 (0, 0)), osl 3 (r0 (.int .i64)) 1 A74 c75 r65, pts b53 (.cells #[.int .i64 (-1), .int .i64 (-1), .int .i64 0, .int .i64 2, .int .i64 1] 3 (0, 0)), osl 3 (r0 (.int .i64)) 1 A51 c52 r42, osl 3 (r0 (.int .i64)) 1 A40 c41 r31.1, osl 3 (r0 (.int .i64)) 1 A29 c30 r20.1, pts b18 (.cells #[.int .i64 1, .int .i64 0] 3 (0, 0)), optP O46 pv17 r8.1, pts b6 (.cells #[.slice (some ⟨b3, 0, none⟩) 1 1] 44 (0, 0)), pts b3 (.cells #[.int .u8 97] 5 (1, 2)), pts b1 (.cells #[.int .i64 1, .int .i64 0, .int .i64 1, .int .i64 1, .int .i64 0] 3 (0, 0))] := hS.ext hS109
          refine WR.runk [23, 24] [25, 26, 27, 28] [7, 50] (L' := [(7, .int .i64 r31.2), (50, .bool r101)]) (w' := w108) (by kernel_rfl) ?_
          refine WR.split 50 (b := r101) (by kernel_rfl) (fun hb110 => ?_) (fun hb110 => ?_)
          · replace H := ite_t H hb110
            refine WR.runk [25, 26, 27, 28] [] [0] (L' := [(0, .bool (r31.2 == 1))]) (w' := w108) (by kernel_rfl) ?_
            refine WR.nil ?_
            refine At.go ?_
            refine WC.ret (by kernel_rfl) ?_
            obtain rfl := Option.some.inj H
            have hS : Sat w108 (rf w0) [] := hS.sel [] (by kernel_rfl)
            exact At.body [.bool (r31.2 == 1)] (by kernel_rfl) ⟨_, rfl, rfl, hS⟩
          · replace H := ite_f H hb110
            refine WR.runk [25, 26, 27, 28] [] [0] (L' := [(0, .bool false)]) (w' := w108) (by kernel_rfl) ?_
            refine WR.nil ?_
            refine At.go ?_
            refine WC.ret (by kernel_rfl) ?_
            obtain rfl := Option.some.inj H
            have hS : Sat w108 (rf w0) [] := hS.sel [] (by kernel_rfl)
            exact At.body [.bool false] (by kernel_rfl) ⟨_, rfl, rfl, hS⟩
        · replace H := ite_f H hb98
          refine WR.runk [20, 21, 22, 23, 24, 25, 26, 27, 28] [] [0] (L' := [(0, .bool false)]) (w' := w95) (by kernel_rfl) ?_
          refine WR.nil ?_
          refine At.go ?_
          refine WC.ret (by kernel_rfl) ?_
          obtain rfl := Option.some.inj H
          have hS : Sat w95 (rf w0) [] := hS.sel [] (by kernel_rfl)
          exact At.body [.bool false] (by kernel_rfl) ⟨_, rfl, rfl, hS⟩
      · replace H := ite_f H hb97
        refine WR.runk [16, 17, 18, 19, 20, 21, 22, 23, 24, 25, 26, 27, 28] [] [0] (L' := [(0, .bool false)]) (w' := w95) (by kernel_rfl) ?_
        refine WR.nil ?_
        refine At.go ?_
        refine WC.ret (by kernel_rfl) ?_
        obtain rfl := Option.some.inj H
        have hS : Sat w95 (rf w0) [] := hS.sel [] (by kernel_rfl)
        exact At.body [.bool false] (by kernel_rfl) ⟨_, rfl, rfl, hS⟩
    · replace H := ite_f H hb87
      refine WR.runk [11, 12, 13, 14, 15, 16, 17, 18, 19, 20, 21, 22, 23, 24, 25, 26, 27, 28] [] [0] (L' := [(0, .bool false)]) (w' := w85) (by kernel_rfl) ?_
      refine WR.nil ?_
      refine At.go ?_
      refine WC.ret (by kernel_rfl) ?_
      obtain rfl := Option.some.inj H
      have hS : Sat w85 (rf w0) [] := hS.sel [] (by kernel_rfl)
      exact At.body [.bool false] (by kernel_rfl) ⟨_, rfl, rfl, hS⟩
  · replace H := ite_f H hb64
    refine WR.runk [5, 6, 7, 8, 9, 10, 11, 12, 13, 14, 15, 16, 17, 18, 19, 20, 21, 22, 23, 24, 25, 26, 27, 28] [] [0] (L' := [(0, .bool false)]) (w' := w62) (by kernel_rfl) ?_
    refine WR.nil ?_
    refine At.go ?_
    refine WC.ret (by kernel_rfl) ?_
    obtain rfl := Option.some.inj H
    have hS : Sat w62 (rf w0) [] := hS.sel [] (by kernel_rfl)
    exact At.body [.bool false] (by kernel_rfl) ⟨_, rfl, rfl, hS⟩
/-! ### 8 colophon/colophonref08.Small -/
def colophonref08_Small.l1 (l0 : List (List Int)) : Nat → Int → Int → Option (Sum Bool Unit)
  | 0, _, _ => none
  | k + 1, x1_l1, x15_l1 => (if decide (x15_l1 < (l0.length : Int)) then ((at? l0 x15_l1).bind fun v3 => (if decide ((v3.length : Int) > x1_l1) then some (.inl false) else colophonref08_Small.l1 l0 k (wi (x1_l1 - (v3.length : Int))) (wi (x15_l1 + 1)))) else some (.inr ()))
def colophonref08_Small.f (l0 : List (List Int)) (a1 : Int) (a2 : Int) : Option Bool := (if decide ((l0.length : Int) > a2) then some false else ((colophonref08_Small.l1 l0 FU a1 0).bind fun o9 => (match o9 with | .inl o11 => some o11 | .inr o15 => some true)))
def colophonref08_Small.post (w : World) (r : Bool) (v : Value) (w' : World) : Prop := v = (.bool r : Value) ∧ Sat w' (rf w) []
theorem colophonref08_Small.l1_ok {Q} (w0 : World) (A0 : Option Addr) (c0 : Nat) (l0 : List (List Int)) (R0 : rdS (rd (hp w0) (.slice 5 (.int .u8))) 1 (hp w0) A0 c0 l0) (out : Sum Bool Unit) (hn0 : ∀ (o0 : Bool) (w : World), out = (.inl o0) → Sat w (rf w0) [] → At Q .ret 28 [(6, .bool o0)] w) (hn1 : ∀ (o1 : Unit) (w : World), out = (.inr o1) → Sat w (rf w0) [] → At Q (.exit 0) 28 [] w) :
    ∀ (k : Nat) (x1_l1 : Int) (x15_l1 : Int) (w : World), Sat w (rf w0) [] → colophonref08_Small.l1 l0 k x1_l1 x15_l1 = some out → WL Try.prog (cbody (cbody (cr (cl (cr (cr C8)))))) Q 28 [(1, .int .i64 x1_l1), (13, .slice A0 l0.length c0), (14, .int .i64 (l0.length : Int)), (15, .int .i64 x15_l1)] w := by
  intro k
  induction k with
  | zero => intro x1_l1 x15_l1 w hS H; exact absurd (show none = some out from H) (by simp)
  | succ k ih =>
    intro x1_l1 x15_l1 w hS H
    unfold colophonref08_Small.l1 at H
    refine WL.round ?_
    refine WC.seq (by kernel_rfl) ?_
    refine WC.reg [0] (by kernel_rfl) (by kernel_rfl) ?_
    refine WR.runk [0] [] [1, 13, 14, 15, 16] (L' := [(1, .int .i64 x1_l1), (13, .slice A0 l0.length c0), (14, .int .i64 (l0.length : Int)), (15, .int .i64 x15_l1), (16, .bool (decide (x15_l1 < (l0.length : Int))))]) (w' := w) (by kernel_rfl) ?_
    refine WR.nil ?_
    refine At.go ?_
    refine WC.seq (by kernel_rfl) ?_
    refine WC.cond (by kernel_rfl) (decide (x15_l1 < (l0.length : Int))) (by kernel_rfl) (by kernel_rfl) (fun hb2 => ?_) (fun hb2 => ?_)
    · replace H := ite_t H hb2
      refine WC.skip (by kernel_rfl) ?_
      refine At.go ?_
      refine WC.seq (by kernel_rfl) ?_
      refine WC.block (by kernel_rfl) ?_
      refine WC.seq (by kernel_rfl) ?_
      refine WC.reg [0, 1, 2] (by kernel_rfl) (by kernel_rfl) ?_
      refine WR.runk [] [0, 1, 2] [1, 13, 14, 15] (L' := [(1, .int .i64 x1_l1), (13, .slice A0 l0.length c0), (14, .int .i64 (l0.length : Int)), (15, .int .i64 x15_l1)]) (w' := w) (by kernel_rfl) ?_
      obtain ⟨v3, e4, H⟩ := bind_ex H
      refine WR.st (St.ofP (PSt.idx (k := .i64) (.tmp 13) (.tmp 15) (by kernel_rfl) (by kernel_rfl) E22 (by kernel_rfl) (by kernel_rfl) (rdS.up R0 hS.sub0) e4 ?_))
      refine WR.runk [] [1, 2] [1, 13, 14, 15, 17] (L' := [(1, .int .i64 x1_l1), (13, .slice A0 l0.length c0), (14, .int .i64 (l0.length : Int)), (15, .int .i64 x15_l1), (17, .pointer (some (adr A0 x15_l1.toNat 1)))]) (w' := w) (by kernel_rfl) ?_
      refine WR.st (St.ofR (RSt.loadSl (t := 44) (.tmp 17) (by kernel_rfl) (by kernel_rfl) (by kernel_rfl) (by kernel_rfl) R0 e4 hS.sub0 (fun A5 c6 R7 => ?_)))
      replace R7 : rdS (r0 (.int .u8)) 1 (hp w0) A5 c6 v3 := R7
      refine WR.runk [2] [] [1, 8, 13, 14, 15] (L' := [(1, .int .i64 x1_l1), (8, .slice A5 v3.length c6), (13, .slice A0 l0.length c0), (14, .int .i64 (l0.length : Int)), (15, .int .i64 x15_l1)]) (w' := w) (by kernel_rfl) ?_
      refine WR.nil ?_
      refine At.go ?_
      refine WC.seq (by kernel_rfl) ?_
      refine WC.seq (by kernel_rfl) ?_
      refine WC.reg [0, 1, 2, 3] (by kernel_rfl) (by kernel_rfl) ?_
      refine WR.runk [0, 1, 2, 3] [] [1, 8, 13, 14, 15, 22] (L' := [(1, .int .i64 x1_l1), (8, .slice A5 v3.length c6), (13, .slice A0 l0.length c0), (14, .int .i64 (l0.length : Int)), (15, .int .i64 x15_l1), (22, .bool (decide ((v3.length : Int) > x1_l1)))]) (w' := w) (by kernel_rfl) ?_
      refine WR.nil ?_
      refine At.go ?_
      refine WC.cond (by kernel_rfl) (decide ((v3.length : Int) > x1_l1)) (by kernel_rfl) (by kernel_rfl) (fun hb8 => ?_) (fun hb8 => ?_)
      · replace H := ite_t H hb8
        refine WC.seq (by kernel_rfl) ?_
        refine WC.reg [0] (by kernel_rfl) (by kernel_rfl) ?_
        refine WR.runk [0] [] [6] (L' := [(6, .bool false)]) (w' := w) (by kernel_rfl) ?_
        refine WR.nil ?_
        refine At.go ?_
        refine WC.ret (by kernel_rfl) ?_
        refine At.thenRet ?_
        refine At.blockRet ?_
        refine At.thenRet ?_
        refine At.thenRet ?_
        obtain rfl := Option.some.inj H
        have hS : Sat w (rf w0) [] := hS.sel [] (by kernel_rfl)
        refine At.weaken [6] (L' := [(6, .bool false)]) (by kernel_rfl) ?_
        exact hn0 false _ rfl hS
      · replace H := ite_f H hb8
        refine WC.skip (by kernel_rfl) ?_
        refine At.go ?_
        refine WC.reg [0, 1, 2, 3, 4] (by kernel_rfl) (by kernel_rfl) ?_
        refine WR.runk [0, 1, 2, 3, 4] [] [1, 13, 14, 15] (L' := [(1, .int .i64 (wi (x1_l1 - (v3.length : Int)))), (13, .slice A0 l0.length c0), (14, .int .i64 (l0.length : Int)), (15, .int .i64 x15_l1)]) (w' := w) (by kernel_rfl) ?_
        refine WR.nil ?_
        refine At.blockNormal ?_
        refine At.go ?_
        refine WC.reg [0, 1] (by kernel_rfl) (by kernel_rfl) ?_
        refine WR.runk [0, 1] [] [1, 13, 14, 15] (L' := [(1, .int .i64 (wi (x1_l1 - (v3.length : Int)))), (13, .slice A0 l0.length c0), (14, .int .i64 (l0.length : Int)), (15, .int .i64 (wi (x15_l1 + 1)))]) (w' := w) (by kernel_rfl) ?_
        refine WR.nil ?_
        have hS : Sat w (rf w0) [] := hS.sel [] (by kernel_rfl)
        refine At.again ?_
        refine WL.weaken [1, 13, 14, 15] (L' := [(1, .int .i64 (wi (x1_l1 - (v3.length : Int)))), (13, .slice A0 l0.length c0), (14, .int .i64 (l0.length : Int)), (15, .int .i64 (wi (x15_l1 + 1)))]) (by kernel_rfl) ?_
        exact ih (wi (x1_l1 - (v3.length : Int))) (wi (x15_l1 + 1)) _ hS H
    · replace H := ite_f H hb2
      refine WC.exit (by kernel_rfl) ?_
      refine At.thenExit ?_
      refine At.thenExit ?_
      obtain rfl := Option.some.inj H
      have hS : Sat w (rf w0) [] := hS.sel [] (by kernel_rfl)
      refine At.weaken [] (L' := []) (by kernel_rfl) ?_
      exact hn1 () _ rfl hS
theorem colophonref08_Small.calls (w0 : World) (A0 : Option Addr) (c0 : Nat) (l0 : List (List Int)) (R0 : rdS (rd (hp w0) (.slice 5 (.int .u8))) 1 (hp w0) A0 c0 l0) (a1 : Int) (a2 : Int) (r : Bool) (H : colophonref08_Small.f l0 a1 a2 = some r) :
    Calls Try.prog 8 #[.slice A0 l0.length c0, .int .i64 a1, .int .i64 a2] w0 (fun e w' => ∃ v, e = .returned v ∧ colophonref08_Small.post w0 r v w') := by
  have hS : Sat w0 (rf w0) [] := Sat.start w0
  unfold colophonref08_Small.f at H
  refine calls_of_WC (vs := [.slice A0 l0.length c0, .int .i64 a1, .int .i64 a2]) Try.func8 (c := C8) (n := 28) (by kernel_rfl) (by kernel_rfl) (by kernel_rfl) ?_
  refine WC.seq (by kernel_rfl) ?_
  refine WC.reg [0] (by kernel_rfl) (by kernel_rfl) ?_
  refine WR.runk [0] [] [0, 1, 2] (L' := [(0, .slice A0 l0.length c0), (1, .int .i64 a1), (2, .int .i64 a2)]) (w' := w0) (by kernel_rfl) ?_
  refine WR.nil ?_
  refine At.go ?_
  refine WC.seq (by kernel_rfl) ?_
  refine WC.seq (by kernel_rfl) ?_
  refine WC.reg [0, 1, 2, 3] (by kernel_rfl) (by kernel_rfl) ?_
  refine WR.runk [0, 1, 2, 3] [] [0, 1, 12] (L' := [(0, .slice A0 l0.length c0), (1, .int .i64 a1), (12, .bool (decide ((l0.length : Int) > a2)))]) (w' := w0) (by kernel_rfl) ?_
  refine WR.nil ?_
  refine At.go ?_
  refine WC.cond (by kernel_rfl) (decide ((l0.length : Int) > a2)) (by kernel_rfl) (by kernel_rfl) (fun hb1 => ?_) (fun hb1 => ?_)
  · replace H := ite_t H hb1
    refine WC.seq (by kernel_rfl) ?_
    refine WC.reg [0] (by kernel_rfl) (by kernel_rfl) ?_
    refine WR.runk [0] [] [6] (L' := [(6, .bool false)]) (w' := w0) (by kernel_rfl) ?_
    refine WR.nil ?_
    refine At.go ?_
    refine WC.ret (by kernel_rfl) ?_
    refine At.thenRet ?_
    obtain rfl := Option.some.inj H
    have hS : Sat w0 (rf w0) [] := hS.sel [] (by kernel_rfl)
    exact At.body [.bool false] (by kernel_rfl) ⟨_, rfl, rfl, hS⟩
  · replace H := ite_f H hb1
    refine WC.skip (by kernel_rfl) ?_
    refine At.go ?_
    refine WC.seq (by kernel_rfl) ?_
    refine WC.seq (by kernel_rfl) ?_
    refine WC.reg [0, 1, 2] (by kernel_rfl) (by kernel_rfl) ?_
    refine WR.runk [0, 1, 2] [] [1, 13, 14, 15] (L' := [(1, .int .i64 a1), (13, .slice A0 l0.length c0), (14, .int .i64 (l0.length : Int)), (15, .int .i64 0)]) (w' := w0) (by kernel_rfl) ?_
    refine WR.nil ?_
    refine At.go ?_
    refine WC.block (by kernel_rfl) ?_
    have hS : Sat w0 (rf w0) [] := hS.sel [] (by kernel_rfl)
    obtain ⟨o9, e10, H⟩ := bind_ex H
    refine WC.loop (by kernel_rfl) ?_
    refine WL.weaken [1, 13, 14, 15] (L' := [(1, .int .i64 a1), (13, .slice A0 l0.length c0), (14, .int .i64 (l0.length : Int)), (15, .int .i64 0)]) (by kernel_rfl) ?_
    refine colophonref08_Small.l1_ok w0 A0 c0 l0 R0 o9 (fun o11 w13 ho14 hS => ?_) (fun o15 w17 ho18 hS => ?_) FU a1 0 _ hS e10
    · subst ho14
      dsimp only at H
      refine At.blockRet ?_
      refine At.thenRet ?_
      obtain rfl := Option.some.inj H
      have hS : Sat w13 (rf w0) [] := hS.sel [] (by kernel_rfl)
      exact At.body [.bool o11] (by kernel_rfl) ⟨_, rfl, rfl, hS⟩
    · subst ho18
      dsimp only at H
      refine At.hit ?_
      refine At.go ?_
      refine WC.seq (by kernel_rfl) ?_
      refine WC.reg [0] (by kernel_rfl) (by kernel_rfl) ?_
      refine WR.runk [0] [] [6] (L' := [(6, .bool true)]) (w' := w17) (by kernel_rfl) ?_
      refine WR.nil ?_
      refine At.go ?_
      refine WC.ret (by kernel_rfl) ?_
      obtain rfl := Option.some.inj H
      have hS : Sat w17 (rf w0) [] := hS.sel [] (by kernel_rfl)
      exact At.body [.bool true] (by kernel_rfl) ⟨_, rfl, rfl, hS⟩
end Go.Proofs.Ythnlihpmpmhidaa
