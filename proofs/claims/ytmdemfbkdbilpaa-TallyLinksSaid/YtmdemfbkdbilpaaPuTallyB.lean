/-
  The law of doubles, in plain words. No condition.
-/
import Derived.Test.YtmdemfbkdbilpaaPuTallyA
import Derived.Test.YtmdemfbkdbilpaaGTallyDoubles
namespace Go.Proofs.Ytmdemfbkdbilpaa
open Go Go.Gol
set_option linter.unusedVariables false
set_option linter.unusedSimpArgs false
set_option linter.unnecessarySimpa false
set_option maxRecDepth 100000
namespace Tally
open Docs (at_g)
theorem first_f : colophonlaw16_first.f = some true := by decide +kernel
theorem new_bad {l0 l1 : List Int} (hn : l1.length ≤ 2000000) (hl : l0.length ≠ l1.length) : tally_New.f l0 l1 = some (none, 2) := by
  obtain ⟨rows, eT, hT⟩ := Rmq.new_ok (l := l1) (by omega)
  unfold tally_New.f
  rw [eT, Option.bind_some]
  simp only []
  rw [if_neg (by simp), if_pos (by rw [bne_iff_ne]; omega)]
end Tally
open Tally
theorem pure_TallyDoubles (l0 : List Int) (F0 : Fits (.slice 3 (.int .i64)) l0) (l1 : List Int) (F1 : Fits (.slice 3 (.int .i64)) l1) (a2_0 : Int) (F2_0 : Fits (.int .i64) a2_0) (a2_1 : Int) (F2_1 : Fits (.int .i64) a2_1) : colophonlaw16_TallyDoubles.f l0 l1 a2_0 a2_1 = some true := by
  unfold colophonlaw16_TallyDoubles.f
  rw [first_f, Option.bind_some, if_neg (by simp)]
  by_cases hmx : imax (l0.length : Int) (l1.length : Int) > 400
  · rw [if_pos (by simpa using hmx)]
  rw [if_neg (by simpa using hmx)]
  have h400 : l0.length ≤ 400 ∧ l1.length ≤ 400 := by unfold imax at hmx; split at hmx <;> omega
  by_cases hl : l0.length = l1.length
  · obtain ⟨T, x, eT, ex, hx, h0, hT⟩ := new_ok (l0 := l0) (l1 := l1) (by omega) hl.symm
    have hs : ∀ i, sm (dn x) (i + 1) = sm (dn x) i + dn x i := fun i => rfl
    have hb : ∀ i, i ≤ l0.length → sm (dn x) i ≤ 5000000 := fun i hi => by
      have := sm_mono (dn x) hi
      obtain ⟨V, m, B, _, _, _, _, h⟩ := hT
      omega
    have hdx : ∀ i, i < l0.length → x.getD i 0 = (dn x i : Int) := fun i hi => by have := h0 i hi; unfold dn; omega
    rw [eT, Option.bind_some, if_neg (by rw [bne_iff_ne]; omega)]
    simp only []
    rw [if_neg (by simp), ex, Option.bind_some, Option.bind_some]
    have key : ∀ (m k i : Nat), l0.length + 2 - i = m → m < k → colophonlaw16_TallyDoubles.l1 l0 l1 x T k ((i : Int) - 1) = some (.inr ()) := by
      intro m
      induction m with
      | zero => intro k i hm hk; cases k with
        | zero => omega
        | succ k => unfold colophonlaw16_TallyDoubles.l1; rw [if_neg (by rw [decide_eq_true_eq]; omega)]
      | succ m ih => intro k i hm hk; cases k with
        | zero => omega
        | succ k =>
          unfold colophonlaw16_TallyDoubles.l1
          have nx := ih k (i + 1) (by omega) (by omega)
          rw [show ((i + 1 : Nat) : Int) - 1 = (i : Int) - 1 + 1 by omega] at nx
          rw [if_pos (by rw [decide_eq_true_eq]; omega), wi_eq (n := (i : Int) - 1 + 1) (by omega) (by omega)]
          by_cases h0 : i = 0
          · subst h0
            rw [if_neg (by simp), doubles_out hT (.inl (by simp)), Option.bind_some, if_neg (by simp)]; exact nx
          · rw [if_pos (by rw [decide_eq_true_eq]; omega)]
            have ei : ((i : Int) - 1) = ((i - 1 : Nat) : Int) := by omega
            rw [ei] at nx ⊢
            by_cases h1 : i - 1 < l0.length
            · rw [if_pos (by rw [decide_eq_true_eq]; omega), Docs.at_g (by omega), Option.bind_some, doubles_in hT h1, Option.bind_some, hdx _ h1, if_neg (by simp)]; exact nx
            · rw [if_neg (by rw [decide_eq_true_eq]; omega), doubles_out hT (.inr (by omega)), Option.bind_some, if_neg (by simp)]; exact nx
    have e := key (l0.length + 2) FU 0 (by omega) (by show l0.length + 2 < 4611686018427387904; omega)
    rw [show (((0 : Nat) : Int) - 1) = -1 from rfl] at e
    rw [e, Option.bind_some]
    simp only []
    by_cases c1 : a2_0 < 0
    · rw [if_pos (by simpa using c1), docs_out hT (.inl c1)]; rfl
    rw [if_neg (by simpa using c1)]
    by_cases c2 : a2_0 ≥ a2_1
    · rw [if_pos (by simpa using c2), docs_out hT (.inr (.inl c2))]; rfl
    rw [if_neg (by simpa using c2)]
    by_cases c3 : a2_1 > (l0.length : Int)
    · rw [if_pos (by simpa using c3), docs_out hT (.inr (.inr c3))]; rfl
    rw [if_neg (by simpa using c3)]
    obtain ⟨a, rfl⟩ : ∃ a : Nat, a2_0 = (a : Int) := ⟨a2_0.toNat, by omega⟩
    obtain ⟨b, rfl⟩ : ∃ b : Nat, a2_1 = (b : Int) := ⟨a2_1.toNat, by omega⟩
    have key2 : ∀ (m k i : Nat), b - i = m → m < k → a + 1 ≤ i → i ≤ b → colophonlaw16_TallyDoubles.l2 (b : Int) x k ((b : Int) - (a : Int) - ((sm (dn x) i : Int) - (sm (dn x) (a + 1) : Int))) (i : Int) = some ((b : Int) - (a : Int) - ((sm (dn x) b : Int) - (sm (dn x) (a + 1) : Int))) := by
      intro m
      induction m with
      | zero => intro k i hm hk ha hi; cases k with
        | zero => omega
        | succ k => unfold colophonlaw16_TallyDoubles.l2; rw [if_neg (by rw [decide_eq_true_eq]; omega), show i = b by omega]
      | succ m ih => intro k i hm hk ha hi; cases k with
        | zero => omega
        | succ k =>
          unfold colophonlaw16_TallyDoubles.l2
          have hil : i < l0.length := by omega
          have h1 := hb i (by omega)
          have h2 := hb (i + 1) (by omega)
          have h3 := hb (a + 1) (by omega)
          have h4 := hs i
          rw [if_pos (by rw [decide_eq_true_eq]; omega), Docs.at_g (by omega), Option.bind_some, hdx i hil, wi_eq (n := (b : Int) - (a : Int) - ((sm (dn x) i : Int) - (sm (dn x) (a + 1) : Int)) - (dn x i : Int)) (by omega) (by omega), wi_eq (by omega) (by omega), show ((i : Int) + 1) = ((i + 1 : Nat) : Int) by omega, show (b : Int) - (a : Int) - ((sm (dn x) i : Int) - (sm (dn x) (a + 1) : Int)) - (dn x i : Int) = (b : Int) - (a : Int) - ((sm (dn x) (i + 1) : Int) - (sm (dn x) (a + 1) : Int)) by omega]
          exact ih k (i + 1) (by omega) (by omega) (by omega) (by omega)
    have e2 := key2 (b - (a + 1)) FU (a + 1) rfl (by show b - (a + 1) < 4611686018427387904; omega) (by omega) (by omega)
    rw [Int.sub_self, Int.sub_zero] at e2
    rw [wi_eq (n := (b : Int) - (a : Int)) (by omega) (by omega), wi_eq (n := (a : Int) + 1) (by omega) (by omega), show ((a : Int) + 1) = ((a + 1 : Nat) : Int) by omega, e2, Option.bind_some, docs_in hT (by omega) (by omega), Option.bind_some]
    simp
  · rw [new_bad (by omega) hl, Option.bind_some, if_pos (by rw [bne_iff_ne]; omega)]; rfl
end Go.Proofs.Ytmdemfbkdbilpaa
