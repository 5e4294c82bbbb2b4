/-
  'DocsLinks': whatever the input, the call returns true and the input reads as it did. No condition.
  The walk of the machine is printed by my own tool (gen.py), the plain law is proved beside it.
-/
import Derived.Test.YthnlihpmpmhidaaRows
import Derived.Test.YthnlihpmpmhidaaGH
import Derived.Test.YthnlihpmpmhidaaGM
import Derived.Test.YthnlihpmpmhidaaPuDocsB
import Derived.WalkKit
import Derived.ProofKit
import Derived.OpenShut
import Derived.ShutString
import Derived.ChangeOld
import Derived.Below
namespace Go.Proofs.Ythnlihpmpmhidaa.LawDocsLinks
open Go Go.Gol Go.ChangeShapes Go.WideShapes Go.ChangeAt Go.RowKit
open Go.ChangeMaps (open_string shut_string)
set_option linter.unusedVariables false
set_option linter.unusedSimpArgs false
theorem own : ownKnob Try.prog.godebug = none := by kernel_rfl
theorem laidOut : laidOutB Try.prog = true := by kernel_rfl
set_option maxRecDepth 100000 in
theorem lifted (os : Os) (started : os.Started) (H : Type) (enc : TypeId × Value → H) :
    ReturnsInHanded {} Try.checked os 4 .any (Rows.docsLinksSpec.pre6 enc Try.prog Try.f4 Rows.docsLinksRow.domain false) (Rows.docsLinksSpec.post enc Try.prog Try.f4 false true false false) := by
  refine returnsInHanded_of_change (C := Try.checked) own started (by kernel_rfl) Try.func4
    (ChangeSpec.witness6 (enc := enc) (C := Try.checked) false ⟨#[], #[.slice none 0 0], []⟩ 8 (by kernel_rfl) (by kernel_rfl) (by kernel_rfl) (by kernel_rfl)) ?_
  intro W base args ds gs before hval0 hW hcnd _
  have hval : ∀ (j : Nat) t v, Try.f4.params[j]? = some t → args[j]? = some v → Value.okWide Try.prog W .any base t v := hval0
  have hW' := hW
  obtain ⟨p, q, hA0, hV, rfl, hfz, hnd⟩ := hW
  have hA : DataW.TrodAll enc Try.prog W 0 (fun _ => true) true Try.f4.params.toList args.toList ds p := hA0
  rw [Try.params4] at hA hval
  obtain ⟨v0, vs0, d0, ds0, p0, q0, hargs, rfl, rfl, h0, tr0⟩ := trodAll_cons hA
  obtain ⟨rfl, rfl, rfl⟩ := trodAll_nil tr0
  obtain rfl : args = #[v0] := by cases args; simp_all
  obtain ⟨rfl, rfl⟩ := trodVars_none hV
  obtain ⟨A0, len0, c0, rfl⟩ := okWide_slice Try.underlying23 (hval 0 23 v0 rfl rfl)
  have k0 := h0
  have lt0 : ∀ x ∈ p0, x.block < W.heap.size := by obtain ⟨m, hm⟩ := k0; exact DataW.trod_lt m _ _ _ hm
  obtain ⟨fu0, hf0⟩ := h0
  obtain ⟨l0, ⟨A0', c0', e0, R00⟩, F0⟩ := (Opens.slice (κ := (.int .i64)) (by kernel_rfl) (by kernel_rfl) (by decide) (Opens.int (by kernel_rfl))) enc W 0 true fu0 _ _ hf0
  simp [Value.cells] at e0
  obtain ⟨eA0, el0, ec0⟩ := e0
  subst eA0 ec0
  rw [el0] at k0 hW' ⊢
  have R0 : rdS (Go.Gol.r0 (.int .i64)) 1 (hp W) A0 c0 l0 := R00
  refine (colophonlaw12_DocsLinks.calls W A0 c0 l0 R0 true (pure_DocsLinks l0 F0)).mono ?_
  rintro e W' ⟨v, rfl, rfl, hS⟩
  have bel := hS.below
  exact ⟨_, rfl, _, _, _, [], _, [], hW', trodAll_mk1 (shut_bool Try.underlying4 _), (trodAll_cons_mk (Below.trod laidOut (by kernel_rfl) (of_decide_eq_true (by kernel_rfl)) k0 bel lt0) trodAll_mk0), rfl, bel.frame _, fun h => by cases h⟩
theorem over : Rows.docsLinksRow.holds Try.pinned (OpenSpec.ofChange Rows.docsLinksSpec) :=
  OpenClaim.holds_of_wide 4 Try.f4 rfl rfl rfl rfl rfl rfl rfl ⟨rfl, rfl, rfl, rfl, rfl⟩ rfl rfl rfl rfl rfl (by kernel_rfl) Try.func4 (by kernel_rfl)
    (of_decide_eq_true (by kernel_rfl)) (by unfold Func.isWrapper; first | (rw [if_pos (by decide +kernel)]; kernel_rfl) | (rw [if_neg (by decide +kernel)]; exact ⟨rfl, rfl⟩))
    (fun os started H enc _ => lifted os started H enc)
end Go.Proofs.Ythnlihpmpmhidaa.LawDocsLinks
namespace Go.Proofs.Ythnlihpmpmhidaa
theorem docsLinks_holds : Rows.DocsLinksSaid := LawDocsLinks.over
#print axioms docsLinks_holds
end Go.Proofs.Ythnlihpmpmhidaa
