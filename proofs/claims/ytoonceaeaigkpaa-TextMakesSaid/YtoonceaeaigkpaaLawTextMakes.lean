/-
  'TextMakes': whatever the input, the call returns true and the input reads as it did. No condition.
  The walk of the machine is printed by my own tool (gen.py), the plain law is proved beside it.
-/
import Derived.Test.YtoonceaeaigkpaaRows
import Derived.Test.YtoonceaeaigkpaaGH
import Derived.Test.YtoonceaeaigkpaaGM
import Derived.Test.YtoonceaeaigkpaaGT
import Derived.Test.YtoonceaeaigkpaaPuTextC
import Derived.WalkKit
import Derived.ProofKit
import Derived.OpenShut
import Derived.ShutString
import Derived.ChangeOld
import Derived.Below
namespace Go.Proofs.Ytoonceaeaigkpaa.LawTextMakes
open Go Go.Gol Go.ChangeShapes Go.WideShapes Go.ChangeAt Go.RowKit
open Go.ChangeMaps (open_string shut_string)
set_option linter.unusedVariables false
set_option linter.unusedSimpArgs false
theorem own : ownKnob Try.prog.godebug = none := by kernel_rfl
theorem laidOut : laidOutB Try.prog = true := by kernel_rfl
set_option maxRecDepth 100000 in
theorem lifted (os : Os) (started : os.Started) (H : Type) (enc : TypeId × Value → H) :
    ReturnsInHanded {} Try.checked os 3 .any (Rows.textMakesSpec.pre6 enc Try.prog Try.f3 Rows.textMakesRow.domain false) (Rows.textMakesSpec.post enc Try.prog Try.f3 false true false false) := by
  refine returnsInHanded_of_change_sized (C := Try.checked) own started (by kernel_rfl) Try.func3
    (ChangeSpec.witness6 (enc := enc) (C := Try.checked) false ⟨#[], #[.slice none 0 0, .int .i64 0, .int .i64 0], []⟩ 8 (by kernel_rfl) (by kernel_rfl) (by kernel_rfl) (by kernel_rfl)) ?_
  intro W base args ds gs before hval0 hW hcnd hsz _
  have hval : ∀ (j : Nat) t v, Try.f3.params[j]? = some t → args[j]? = some v → Value.okWide Try.prog W .any base t v := hval0
  have hW' := hW
  obtain ⟨p, q, hA0, hV, rfl, hfz, hnd⟩ := hW
  have hA : DataW.TrodAll enc Try.prog W 0 (fun _ => true) true Try.f3.params.toList args.toList ds p := hA0
  rw [Try.params3] at hA hval
  obtain ⟨v0, vs0, d0, ds0, p0, q0, hargs, rfl, rfl, h0, tr0⟩ := trodAll_cons hA
  obtain ⟨v1, vs1, d1, ds1, p1, q1, rfl, rfl, rfl, h1, tr1⟩ := trodAll_cons tr0
  obtain ⟨v2, vs2, d2, ds2, p2, q2, rfl, rfl, rfl, h2, tr2⟩ := trodAll_cons tr1
  obtain ⟨rfl, rfl, rfl⟩ := trodAll_nil tr2
  obtain rfl : args = #[v0, v1, v2] := by cases args; simp_all
  obtain ⟨rfl, rfl⟩ := trodVars_none hV
  obtain ⟨A0, len0, c0, rfl⟩ := okWide_slice Try.underlying22 (hval 0 22 v0 rfl rfl)
  have k0 := h0
  have lt0 : ∀ x ∈ p0, x.block < W.heap.size := by obtain ⟨m, hm⟩ := k0; exact DataW.trod_lt m _ _ _ hm
  obtain ⟨fu0, hf0⟩ := h0
  obtain ⟨l0, ⟨A0', c0', e0, R00⟩, F0⟩ := (Opens.slice (κ := (.slice 5 (.int .u8))) (by kernel_rfl) (by kernel_rfl) (by decide) (Opens.slice (κ := (.int .u8)) (by kernel_rfl) (by kernel_rfl) (by decide) (Opens.int (by kernel_rfl)))) enc W 0 true fu0 _ _ hf0
  simp [Value.cells] at e0
  have S0 := sized_len hsz (j := 0) (b := 24) (by kernel_rfl) rfl Try.underlying22 (by kernel_rfl) hf0
  obtain ⟨eA0, el0, ec0⟩ := e0
  subst eA0 ec0
  rw [el0] at k0 hW' ⊢
  rw [el0] at S0
  have R0 : rdS (rd (hp W) (.slice 5 (.int .u8))) 1 (hp W) A0 c0 l0 := R00
  obtain ⟨a1, rfl, rfl, rfl, w1⟩ := open_int Try.underlying3 (hval 1 3 v1 rfl rfl) h1
  have F1 : Fits (.int .i64) a1 := by simpa [Lit.wf, Fits] using w1
  obtain ⟨a2, rfl, rfl, rfl, w2⟩ := open_int Try.underlying3 (hval 2 3 v2 rfl rfl) h2
  have F2 : Fits (.int .i64) a2 := by simpa [Lit.wf, Fits] using w2
  refine (colophonlaw08_TextMakes.calls W A0 c0 l0 R0 a1 a2 true (pure_TextMakes l0 F0 S0 a1 F1 a2 F2)).mono ?_
  rintro e W' ⟨v, rfl, rfl, hS⟩
  have bel := hS.below
  exact ⟨_, rfl, _, _, _, [], _, [], hW', trodAll_mk1 (shut_bool Try.underlying4 _), (trodAll_cons_mk (Below.trod laidOut (by kernel_rfl) (of_decide_eq_true (by kernel_rfl)) k0 bel lt0) (trodAll_cons_mk (shut_int Try.underlying3 w1) (trodAll_cons_mk (shut_int Try.underlying3 w2) trodAll_mk0))), rfl, bel.frame _, fun h => by cases h⟩
theorem over : Rows.textMakesRow.holds Try.pinned (OpenSpec.ofChange Rows.textMakesSpec) :=
  OpenClaim.holds_of_wide 3 Try.f3 rfl rfl rfl rfl rfl rfl rfl ⟨rfl, rfl, rfl, rfl, rfl⟩ rfl rfl rfl rfl rfl (by kernel_rfl) Try.func3 (by kernel_rfl)
    (of_decide_eq_true (by kernel_rfl)) (by unfold Func.isWrapper; first | (rw [if_pos (by decide +kernel)]; kernel_rfl) | (rw [if_neg (by decide +kernel)]; exact ⟨rfl, rfl⟩))
    (fun os started H enc _ => lifted os started H enc)
end Go.Proofs.Ytoonceaeaigkpaa.LawTextMakes
namespace Go.Proofs.Ytoonceaeaigkpaa
theorem textMakes_holds : Rows.TextMakesSaid := LawTextMakes.over
#print axioms textMakes_holds
end Go.Proofs.Ytoonceaeaigkpaa
