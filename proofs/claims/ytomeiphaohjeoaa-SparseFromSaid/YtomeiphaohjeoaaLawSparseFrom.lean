/-
  'SparseFrom': whatever the input, the call returns true and the input reads as it did. No condition.
  The walk of the machine is printed by my own tool (gen.py), the plain law is proved beside it.
-/
import Derived.Test.YtomeiphaohjeoaaRows
import Derived.Test.YtomeiphaohjeoaaGH
import Derived.Test.YtomeiphaohjeoaaGM
import Derived.Test.YtomeiphaohjeoaaPuSparseE
import Derived.WalkKit
import Derived.ProofKit
import Derived.OpenShut
import Derived.ShutString
import Derived.ChangeOld
import Derived.Below
namespace Go.Proofs.Ytomeiphaohjeoaa.LawSparseFrom
open Go Go.Gol Go.ChangeShapes Go.WideShapes Go.ChangeAt Go.RowKit
open Go.ChangeMaps (open_string shut_string)
set_option linter.unusedVariables false
set_option linter.unusedSimpArgs false
theorem own : ownKnob Try.prog.godebug = none := by kernel_rfl
theorem laidOut : laidOutB Try.prog = true := by kernel_rfl
set_option maxRecDepth 100000 in
theorem lifted (os : Os) (started : os.Started) (H : Type) (enc : TypeId × Value → H) :
    ReturnsInHanded {} Try.checked os 7 .any (Rows.sparseFromSpec.pre6 enc Try.prog Try.f7 Rows.sparseFromRow.domain false) (Rows.sparseFromSpec.post enc Try.prog Try.f7 false true false false) := by
  refine returnsInHanded_of_change (C := Try.checked) own started (by kernel_rfl) Try.func7
    (ChangeSpec.witness6 (enc := enc) (C := Try.checked) false ⟨#[], #[.int .i64 0, .int .i64 0, .agg #[.slice none 0 0, .slice none 0 0]], []⟩ 8 (by kernel_rfl) (by kernel_rfl) (by kernel_rfl) (by kernel_rfl)) ?_
  intro W base args ds gs before hval0 hW hcnd _
  have hval : ∀ (j : Nat) t v, Try.f7.params[j]? = some t → args[j]? = some v → Value.okWide Try.prog W .any base t v := hval0
  have hW' := hW
  obtain ⟨p, q, hA0, hV, rfl, hfz, hnd⟩ := hW
  have hA : DataW.TrodAll enc Try.prog W 0 (fun _ => true) true Try.f7.params.toList args.toList ds p := hA0
  rw [Try.params7] at hA hval
  obtain ⟨v0, vs0, d0, ds0, p0, q0, hargs, rfl, rfl, h0, tr0⟩ := trodAll_cons hA
  obtain ⟨v1, vs1, d1, ds1, p1, q1, rfl, rfl, rfl, h1, tr1⟩ := trodAll_cons tr0
  obtain ⟨v2, vs2, d2, ds2, p2, q2, rfl, rfl, rfl, h2, tr2⟩ := trodAll_cons tr1
  obtain ⟨rfl, rfl, rfl⟩ := trodAll_nil tr2
  obtain rfl : args = #[v0, v1, v2] := by cases args; simp_all
  obtain ⟨rfl, rfl⟩ := trodVars_none hV
  obtain ⟨a0, rfl, rfl, rfl, w0⟩ := open_int Try.underlying3 (hval 0 3 v0 rfl rfl) h0
  have F0 : Fits (.int .i64) a0 := by simpa [Lit.wf, Fits] using w0
  obtain ⟨a1, rfl, rfl, rfl, w1⟩ := open_int Try.underlying3 (hval 1 3 v1 rfl rfl) h1
  have F1 : Fits (.int .i64) a1 := by simpa [Lit.wf, Fits] using w1
  obtain ⟨A2, rfl⟩ := okWide_array Try.underlying44 (hval 2 44 v2 rfl rfl)
  have k2 := h2
  have lt2 : ∀ x ∈ p2, x.block < W.heap.size := by obtain ⟨m, hm⟩ := k2; exact DataW.trod_lt m _ _ _ hm
  obtain ⟨fu2, hf2⟩ := h2
  obtain ⟨l2, r2, F2⟩ := (Opens.arr (P := Try.prog) (t := 44) (m := 2) (e := 35) (κ := (.slice 43 (.int .u64))) (by kernel_rfl) (by kernel_rfl) (by kernel_rfl) (Opens.slice (κ := (.int .u64)) (by kernel_rfl) (by kernel_rfl) (by decide) (Opens.int (by kernel_rfl)))) enc W 0 true fu2 _ _ hf2
  obtain ⟨cs2_0, ct2_0, x2_0, lt2_0, ce2_0, le2_0, rr2_0, rs2_0⟩ := rd_arr_cons r2
  subst le2_0
  obtain ⟨cs2_1, ct2_1, x2_1, lt2_1, ce2_1, le2_1, rr2_1, rs2_1⟩ := rd_arr_cons rs2_0
  subst le2_1
  obtain ⟨ct2, le2⟩ := rd_arr_nil rs2_1; subst le2
  obtain ⟨A2_0, c2_0, cv2_0, R2_0⟩ := rr2_0
  replace cv2_0 : cs2_0 = [.slice A2_0 x2_0.length c2_0] := cv2_0
  obtain ⟨A2_1, c2_1, cv2_1, R2_1⟩ := rr2_1
  replace cv2_1 : cs2_1 = [.slice A2_1 x2_1.length c2_1] := cv2_1
  have ec2 : A2 = #[.slice A2_0 x2_0.length c2_0, .slice A2_1 x2_1.length c2_1] := by apply Array.ext'; show (Value.cells (.agg A2)).toList = _; rw [ce2_0, cv2_0, ce2_1, cv2_1, ct2]; rfl
  subst ec2
  refine (colophonlaw03_SparseFrom.calls W a0 a1 A2_0 c2_0 x2_0 R2_0 A2_1 c2_1 x2_1 R2_1 true (pure_SparseFrom a0 F0 a1 F1 x2_0 (F2.2 _ (by simp)) x2_1 (F2.2 _ (by simp)))).mono ?_
  rintro e W' ⟨v, rfl, rfl, hS⟩
  have bel := hS.below
  exact ⟨_, rfl, _, _, _, [], _, [], hW', trodAll_mk1 (shut_bool Try.underlying4 _), (trodAll_cons_mk (shut_int Try.underlying3 w0) (trodAll_cons_mk (shut_int Try.underlying3 w1) (trodAll_cons_mk (Below.trod laidOut (by kernel_rfl) (of_decide_eq_true (by kernel_rfl)) k2 bel lt2) trodAll_mk0))), rfl, bel.frame _, fun h => by cases h⟩
theorem over : Rows.sparseFromRow.holds Try.pinned (OpenSpec.ofChange Rows.sparseFromSpec) :=
  OpenClaim.holds_of_wide 7 Try.f7 rfl rfl rfl rfl rfl rfl rfl ⟨rfl, rfl, rfl, rfl, rfl⟩ rfl rfl rfl rfl rfl (by kernel_rfl) Try.func7 (by kernel_rfl)
    (of_decide_eq_true (by kernel_rfl)) (by unfold Func.isWrapper; first | (rw [if_pos (by decide +kernel)]; kernel_rfl) | (rw [if_neg (by decide +kernel)]; exact ⟨rfl, rfl⟩))
    (fun os started H enc _ => lifted os started H enc)
end Go.Proofs.Ytomeiphaohjeoaa.LawSparseFrom
namespace Go.Proofs.Ytomeiphaohjeoaa
theorem sparseFrom_holds : Rows.SparseFromSaid := LawSparseFrom.over
#print axioms sparseFrom_holds
end Go.Proofs.Ytomeiphaohjeoaa
