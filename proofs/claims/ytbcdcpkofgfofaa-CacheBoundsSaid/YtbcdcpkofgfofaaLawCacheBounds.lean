/-
  'CacheBounds': whatever the input, the call returns true and the input reads as it did. No condition.
  The walk of the machine is printed by my own tool (gen.py), the plain law is proved beside it.
-/
import Derived.Test.YtbcdcpkofgfofaaRows
import Derived.Test.YtbcdcpkofgfofaaGH
import Derived.Test.YtbcdcpkofgfofaaGM
import Derived.Test.YtbcdcpkofgfofaaPuCaH
import Derived.WalkKit
import Derived.ProofKit
import Derived.OpenShut
import Derived.ShutString
import Derived.ChangeOld
import Derived.Below
namespace Go.Proofs.Ytbcdcpkofgfofaa.LawCacheBounds
open Go Go.Gol Go.ChangeShapes Go.WideShapes Go.ChangeAt Go.RowKit
open Go.ChangeMaps (open_string shut_string)
set_option linter.unusedVariables false
set_option linter.unusedSimpArgs false
theorem own : ownKnob Try.prog.godebug = none := by kernel_rfl
theorem laidOut : laidOutB Try.prog = true := by kernel_rfl
set_option maxRecDepth 100000 in
theorem lifted (os : Os) (started : os.Started) (H : Type) (enc : TypeId × Value → H) :
    ReturnsInHanded {} Try.checked os 4 .any (Rows.cacheBoundsSpec.pre6 enc Try.prog Try.f4 Rows.cacheBoundsRow.domain false) (Rows.cacheBoundsSpec.post enc Try.prog Try.f4 false true false false) := by
  refine returnsInHanded_of_change (C := Try.checked) own started (by kernel_rfl) Try.func4
    (ChangeSpec.witness6 (enc := enc) (C := Try.checked) false ⟨#[], #[.int .i64 0, .slice none 0 0], []⟩ 8 (by kernel_rfl) (by kernel_rfl) (by kernel_rfl) (by kernel_rfl)) ?_
  intro W base args ds gs before hval0 hW hcnd _
  have hval : ∀ (j : Nat) t v, Try.f4.params[j]? = some t → args[j]? = some v → Value.okWide Try.prog W .any base t v := hval0
  have hW' := hW
  obtain ⟨p, q, hA0, hV, rfl, hfz, hnd⟩ := hW
  have hA : DataW.TrodAll enc Try.prog W 0 (fun _ => true) true Try.f4.params.toList args.toList ds p := hA0
  rw [Try.params4] at hA hval
  obtain ⟨v0, vs0, d0, ds0, p0, q0, hargs, rfl, rfl, h0, tr0⟩ := trodAll_cons hA
  obtain ⟨v1, vs1, d1, ds1, p1, q1, rfl, rfl, rfl, h1, tr1⟩ := trodAll_cons tr0
  obtain ⟨rfl, rfl, rfl⟩ := trodAll_nil tr1
  obtain rfl : args = #[v0, v1] := by cases args; simp_all
  obtain ⟨rfl, rfl⟩ := trodVars_none hV
  obtain ⟨a0, rfl, rfl, rfl, w0⟩ := open_int Try.underlying3 (hval 0 3 v0 rfl rfl) h0
  have F0 : Fits (.int .i64) a0 := by simpa [Lit.wf, Fits] using w0
  obtain ⟨A1, len1, c1, rfl⟩ := okWide_slice Try.underlying47 (hval 1 47 v1 rfl rfl)
  have k1 := h1
  have lt1 : ∀ x ∈ p1, x.block < W.heap.size := by obtain ⟨m, hm⟩ := k1; exact DataW.trod_lt m _ _ _ hm
  obtain ⟨fu1, hf1⟩ := h1
  obtain ⟨l1, ⟨A1', c1', e1, R10⟩, F1⟩ := (Opens.slice (κ := (.int .i64)) (by kernel_rfl) (by kernel_rfl) (by decide) (Opens.int (by kernel_rfl))) enc W 0 true fu1 _ _ hf1
  simp [Value.cells] at e1
  obtain ⟨eA1, el1, ec1⟩ := e1
  subst eA1 ec1
  rw [el1] at k1 hW' ⊢
  have R1 : rdS (Go.Gol.r0 (.int .i64)) 1 (hp W) A1 c1 l1 := R10
  refine (colophonlaw07_CacheBounds.calls W a0 A1 c1 l1 R1 true (pure_CacheBounds a0 F0 l1 F1)).mono ?_
  rintro e W' ⟨v, rfl, rfl, hS⟩
  have bel := hS.below
  exact ⟨_, rfl, _, _, _, [], _, [], hW', trodAll_mk1 (shut_bool Try.underlying4 _), (trodAll_cons_mk (shut_int Try.underlying3 w0) (trodAll_cons_mk (Below.trod laidOut (by kernel_rfl) (of_decide_eq_true (by kernel_rfl)) k1 bel lt1) trodAll_mk0)), rfl, bel.frame _, fun h => by cases h⟩
theorem over : Rows.cacheBoundsRow.holds Try.pinned (OpenSpec.ofChange Rows.cacheBoundsSpec) :=
  OpenClaim.holds_of_wide 4 Try.f4 rfl rfl rfl rfl rfl rfl rfl ⟨rfl, rfl, rfl, rfl, rfl⟩ rfl rfl rfl rfl rfl (by kernel_rfl) Try.func4 (by kernel_rfl)
    (of_decide_eq_true (by kernel_rfl)) (by unfold Func.isWrapper; first | (rw [if_pos (by decide +kernel)]; kernel_rfl) | (rw [if_neg (by decide +kernel)]; exact ⟨rfl, rfl⟩))
    (fun os started H enc _ => lifted os started H enc)
end Go.Proofs.Ytbcdcpkofgfofaa.LawCacheBounds
namespace Go.Proofs.Ytbcdcpkofgfofaa
theorem cacheBounds_holds : Rows.CacheBoundsSaid := LawCacheBounds.over
#print axioms cacheBounds_holds
end Go.Proofs.Ytbcdcpkofgfofaa
