/-
  The plain laws of layer page. No condition.
-/
import Derived.Test.YtdfoalfnpgeilaaPuCrcR
import Derived.Test.YtdfoalfnpgeilaaGPageCounts
namespace Go.Proofs.Ytdfoalfnpgeilaa
open Go Go.Gol
set_option linter.unusedVariables false
set_option linter.unusedSimpArgs false
set_option maxRecDepth 100000
theorem page_first : colophonlaw05_first.f = some true := by decide +kernel
theorem pure_PageCounts (a0 : Int) (F0 : Fits (.int .i64) a0) : colophonlaw05_PageCounts.f a0 = some true := by
  have hF := fits_i64 F0
  unfold colophonlaw05_PageCounts.f
  rw [page_first, Option.bind_some, if_neg (by simp)]
  unfold page_Many.f
  by_cases h : a0 ≤ 0
  · simp [h]
  · simp only [h, decide_false, Bool.false_eq_true, if_false, Option.bind_some]
    rw [wi_eq (n := a0 - 1) (by omega) (by omega), Int.tdiv_eq_ediv_of_nonneg (by omega), wi_eq (n := (a0 - 1) / 256) (by omega) (by omega), wi_eq (n := (a0 - 1) / 256 + 1) (by omega) (by omega)]
    rw [if_pos (by simp; omega), wi_eq (n := (a0 - 1) / 256 + 1 - 1) (by omega) (by omega)]
    simp
end Go.Proofs.Ytdfoalfnpgeilaa
