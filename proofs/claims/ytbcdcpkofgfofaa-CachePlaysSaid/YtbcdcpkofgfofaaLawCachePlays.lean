/-
  'CachePlays': whatever the input, the call returns true and the input reads as it did. No condition.
  The walk of the machine is printed by my own tool (gen.py), the plain law is proved beside it.
-/
import Derived.Test.YtbcdcpkofgfofaaRows
import Derived.Test.YtbcdcpkofgfofaaGH
import Derived.Test.YtbcdcpkofgfofaaGM
import Derived.Test.YtbcdcpkofgfofaaPuCaG
import Derived.WalkKit
import Derived.ProofKit
import Derived.OpenShut
import Derived.ShutString
import Derived.ChangeOld
import Derived.Below
namespace Go.Proofs.Ytbcdcpkofgfofaa.LawCachePlays
open Go Go.Gol Go.ChangeShapes Go.WideShapes Go.ChangeAt Go.RowKit
open Go.ChangeMaps (open_string shut_string)
set_option linter.unusedVariables false
set_option linter.unusedSimpArgs false
theorem own : ownKnob Try.prog.godebug = none := by kernel_rfl
theorem laidOut : laidOutB Try.prog = true := by kernel_rfl
set_option maxRecDepth 100000 in
theorem lifted (os : Os) (started : os.Started) (H : Type) (enc : TypeId × Value → H) :
    ReturnsInHanded {} Try.checked os 3 .any (Rows.cachePlaysSpec.pre6 enc Try.prog Try.f3 Rows.cachePlaysRow.domain false) (Rows.cachePlaysSpec.post enc Try.prog Try.f3 false true false false) := by
  refine returnsInHanded_of_change (C := Try.checked) own started (by kernel_rfl) Try.func3
    (ChangeSpec.witness6 (enc := enc) (C := Try.checked) false ⟨#[], #[.int .i64 0, .int .i64 0, .slice none 0 0], []⟩ 8 (by kernel_rfl) (by kernel_rfl) (by kernel_rfl) (by kernel_rfl)) ?_
  intro W base args ds gs before hval0 hW hcnd _
  have hval : ∀ (j : Nat) t v, Try.f3.params[j]? = some t → args[j]? = some v → Value.okWide Try.prog W .any base t v := hval0
  have hW' := hW
  obtain ⟨p, q, hA0, hV, rfl, hfz, hnd⟩ := hW
  have hA : DataW.TrodAll enc Try.prog W 0 (fun _ => true) true Try.f3.params.toList args.toList ds p := hA0
  rw [Try.params3] at hA hval
  obtain ⟨v0, vs0, d0, ds0, p0, q0, hargs, rfl, rfl, h0, tr0⟩ := trodAll_cons hA
  obtain ⟨v1, vs1, d1, ds1, p1, q1, rfl, rfl, rfl, h1, tr1⟩ := trodAll_cons tr0
  obtain ⟨v2, vs2, d2, ds2, p2, q2, rfl, rfl, rfl, h2, tr2⟩ := trodAll_cons tr1
  obtain ⟨rfl, rfl, rfl⟩ := trodAll_nil tr2
  obtain rfl : args = #[v0, v1, v2] := by cases args; simp_all
  obtain ⟨rfl, rfl⟩ := trodVars_none hV
  obtain ⟨a0, rfl, rfl, rfl, w0⟩ := open_int Try.underlying3 (hval 0 3 v0 rfl rfl) h0
  have F0 : Fits (.int .i64) a0 := by simpa [Lit.wf, Fits] using w0
  obtain ⟨a1, rfl, rfl, rfl, w1⟩ := open_int Try.underlying3 (hval 1 3 v1 rfl rfl) h1
  have F1 : Fits (.int .i64) a1 := by simpa [Lit.wf, Fits] using w1
  obtain ⟨A2, len2, c2, rfl⟩ := okWide_slice Try.underlying22 (hval 2 22 v2 rfl rfl)
  have k2 := h2
  have lt2 : ∀ x ∈ p2, x.block < W.heap.size := by obtain ⟨m, hm⟩ := k2; exact DataW.trod_lt m _ _ _ hm
  obtain ⟨fu2, hf2⟩ := h2
  obtain ⟨l2, ⟨A2', c2', e2, R20⟩, F2⟩ := (Opens.slice (κ := (.pair (.int .i64) (.int .i64))) (by kernel_rfl) (by kernel_rfl) (by decide) (by refine Opens.struct' (κ := (.pair (.int .i64) (.int .i64))) Try.underlying30 (by kernel_rfl) ?_; exact (OpensF.cons' (by kernel_rfl) (by kernel_rfl) (Opens.int (by kernel_rfl)) (OpensF.one' (by kernel_rfl) (by kernel_rfl) (Opens.int (by kernel_rfl)))))) enc W 0 true fu2 _ _ hf2
  simp [Value.cells] at e2
  obtain ⟨eA2, el2, ec2⟩ := e2
  subst eA2 ec2
  rw [el2] at k2 hW' ⊢
  have R2 : rdS (Go.Gol.r0 (.pair (.int .i64) (.int .i64))) 2 (hp W) A2 c2 l2 := R20
  refine (colophonlaw07_CachePlays.calls W a0 a1 A2 c2 l2 R2 true (pure_CachePlays a0 F0 a1 F1 l2 F2)).mono ?_
  rintro e W' ⟨v, rfl, rfl, hS⟩
  have bel := hS.below
  exact ⟨_, rfl, _, _, _, [], _, [], hW', trodAll_mk1 (shut_bool Try.underlying4 _), (trodAll_cons_mk (shut_int Try.underlying3 w0) (trodAll_cons_mk (shut_int Try.underlying3 w1) (trodAll_cons_mk (Below.trod laidOut (by kernel_rfl) (of_decide_eq_true (by kernel_rfl)) k2 bel lt2) trodAll_mk0))), rfl, bel.frame _, fun h => by cases h⟩
theorem over : Rows.cachePlaysRow.holds Try.pinned (OpenSpec.ofChange Rows.cachePlaysSpec) :=
  OpenClaim.holds_of_wide 3 Try.f3 rfl rfl rfl rfl rfl rfl rfl ⟨rfl, rfl, rfl, rfl, rfl⟩ rfl rfl rfl rfl rfl (by kernel_rfl) Try.func3 (by kernel_rfl)
    (of_decide_eq_true (by kernel_rfl)) (by unfold Func.isWrapper; first | (rw [if_pos (by decide +kernel)]; kernel_rfl) | (rw [if_neg (by decide +kernel)]; exact ⟨rfl, rfl⟩))
    (fun os started H enc _ => lifted os started H enc)
end Go.Proofs.Ytbcdcpkofgfofaa.LawCachePlays
namespace Go.Proofs.Ytbcdcpkofgfofaa
theorem cachePlays_holds : Rows.CachePlaysSaid := LawCachePlays.over
#print axioms cachePlays_holds
end Go.Proofs.Ytbcdcpkofgfofaa
