/-
  The laws TallyDocs and TallyAll, in plain words. No condition.
-/
import Derived.Test.YtmdemfbkdbilpaaPuTallyD
namespace Go.Proofs.Ytmdemfbkdbilpaa
open Go Go.Gol Tally
set_option linter.unusedVariables false
set_option linter.unusedSimpArgs false
set_option linter.unnecessarySimpa false
set_option maxRecDepth 100000
theorem pure_TallyDocs (l0 : List (List Int)) (F0 : Fits (.slice 34 (.slice 5 (.int .u8))) l0) (l1 : List Int) (F1 : Fits (.slice 5 (.int .u8)) l1) : colophonlaw16_TallyDocs.f l0 l1 = some true := by
  obtain ⟨hd, hl⟩ := Text.docs_byte F0
  unfold colophonlaw16_TallyDocs.f
  rw [first_f, Option.bind_some, if_neg (by simp)]
  obtain ⟨b, e, hs⟩ := Text.small_ok l0 hd hl 250 60 (by decide) (by decide)
  rw [show ((250 : Nat) : Int) = 250 from rfl, show ((60 : Nat) : Int) = 60 from rfl] at e
  rw [e, Option.bind_some]
  cases b with
  | false => rfl
  | true =>
    obtain ⟨h60, htot⟩ := hs rfl
    rw [if_neg (by simp)]
    by_cases c0 : l1.length = 0
    · rw [if_pos (by rw [beq_iff_eq]; omega)]
    rw [if_neg (by rw [beq_iff_eq]; omega)]
    by_cases c1 : l1.length > 60
    · rw [if_pos (by rw [decide_eq_true_eq]; omega)]
    rw [if_neg (by rw [decide_eq_true_eq]; omega)]
    obtain ⟨s, d, h, sa, es, ep, a1, a2, a3, a4, hO, hlc⟩ := parts_ok (l0 := l0) (by omega) (by omega)
    obtain ⟨T, eT, hT⟩ := tally_same a1 a2 a3 a4 hO hlc
    have key : ∀ (m k i : Nat) (x : List Int), l1.length - i = m → m < k → i ≤ l1.length → x.length = i → ∃ x', colophonlaw16_TallyDocs.l1 l0 l1 k x (i : Int) = some x' ∧ x'.length = l1.length := by
      intro m
      induction m with
      | zero => intro k i x hm hk hi hx; cases k with
        | zero => omega
        | succ k => unfold colophonlaw16_TallyDocs.l1; rw [if_neg (by rw [decide_eq_true_eq]; omega)]; exact ⟨x, rfl, by omega⟩
      | succ m ih => intro k i x hm hk hi hx; cases k with
        | zero => omega
        | succ k =>
          unfold colophonlaw16_TallyDocs.l1
          rw [if_pos (by rw [decide_eq_true_eq]; omega), Docs.at_g (show i < l1.length by omega), Option.bind_some, app?_eq (by simp; omega), Option.bind_some, wi_eq (n := (i : Int) + 1) (by omega) (by omega), show ((i : Int) + 1) = ((i + 1 : Nat) : Int) by omega]
          exact ih k (i + 1) _ (by omega) (by omega) (by omega) (by simp [hx])
    obtain ⟨p, e1, lp⟩ := key l1.length FU 0 [] (by omega) (by show l1.length < 4611686018427387904; omega) (by omega) rfl
    rw [show ((0 : Nat) : Int) = 0 from rfl] at e1
    obtain ⟨a, b, c, er, ed, eu⟩ := hT p (by omega)
    rw [ep, Option.bind_some]
    simp only []
    rw [eT, Option.bind_some]
    simp only []
    rw [Option.bind_some, e1, Option.bind_some, es, Option.bind_some, er, Option.bind_some, if_pos (by simp)]
    simp only []
    rw [ed, Option.bind_some, eu, Option.bind_some]; simp
theorem pure_TallyAll (l0 : List (List Int)) (F0 : Fits (.slice 34 (.slice 5 (.int .u8))) l0) (a1 : Int) (F1 : Fits (.int .i64) a1) : colophonlaw16_TallyAll.f l0 a1 = some true := by
  obtain ⟨hd, hl⟩ := Text.docs_byte F0
  unfold colophonlaw16_TallyAll.f
  rw [first_f, Option.bind_some, if_neg (by simp)]
  obtain ⟨b, e, hs⟩ := Text.small_ok l0 hd hl 80 12 (by decide) (by decide)
  rw [show ((80 : Nat) : Int) = 80 from rfl, show ((12 : Nat) : Int) = 12 from rfl] at e
  rw [e, Option.bind_some]
  cases b with
  | false => rfl
  | true =>
    obtain ⟨h12, htot⟩ := hs rfl
    rw [if_neg (by simp)]
    obtain ⟨s, d, h, sa, es, ep, b1, b2, b3, b4, hO, hlc⟩ := parts_ok (l0 := l0) (by omega) (by omega)
    obtain ⟨T, eT, hT⟩ := tally_same b1 b2 b3 b4 hO hlc
    obtain ⟨w, ew, hw1, hw2⟩ : ∃ w : Nat, wi (1 + (wi (Int.tmod (IntKind.wrap .u64 a1) 5))) = (w : Int) ∧ 1 ≤ w ∧ w ≤ 5 := by
      have h0 : 0 ≤ IntKind.wrap .u64 a1 := by rw [wrap_u64_eq]; omega
      refine ⟨1 + (IntKind.wrap .u64 a1 % 5).toNat, ?_, by omega, by omega⟩
      rw [Int.tmod_eq_emod_of_nonneg h0, wi_eq (n := IntKind.wrap .u64 a1 % 5) (by omega) (by omega), wi_eq (by omega) (by omega)]; omega
    have k3 : ∀ (y : List Int), y.length ≤ 1000 → ∃ p, colophonlaw16_TallyAll.l3 l0 y FU [] 0 = some p ∧ p.length = y.length := by
      intro y hy
      have key : ∀ (m k i : Nat) (x : List Int), y.length - i = m → m < k → i ≤ y.length → x.length = i → ∃ x', colophonlaw16_TallyAll.l3 l0 y k x (i : Int) = some x' ∧ x'.length = y.length := by
        intro m
        induction m with
        | zero => intro k i x hm hk hi hx; cases k with
          | zero => omega
          | succ k => unfold colophonlaw16_TallyAll.l3; rw [if_neg (by rw [decide_eq_true_eq]; omega)]; exact ⟨x, rfl, by omega⟩
        | succ m ih => intro k i x hm hk hi hx; cases k with
          | zero => omega
          | succ k =>
            unfold colophonlaw16_TallyAll.l3
            rw [if_pos (by rw [decide_eq_true_eq]; omega), Docs.at_g (show i < y.length by omega), Option.bind_some, app?_eq (by simp; omega), Option.bind_some, wi_eq (n := (i : Int) + 1) (by omega) (by omega), show ((i : Int) + 1) = ((i + 1 : Nat) : Int) by omega]
            exact ih k (i + 1) _ (by omega) (by omega) (by omega) (by simp [hx])
      obtain ⟨p, e1, lp⟩ := key y.length FU 0 [] (by omega) (by show y.length < 4611686018427387904; omega) (by omega) rfl
      rw [show ((0 : Nat) : Int) = 0 from rfl] at e1
      exact ⟨p, e1, lp⟩
    have k2 : ∀ (v : List Int), v.length ≤ 100000 → ∀ (m k i : Nat), v.length + 1 - i = m → m < k → i ≤ v.length + 1 → colophonlaw16_TallyAll.l2 l0 a1 (d, h, sa) s T v k (i : Int) = some (.inr ()) := by
      intro v hv m
      induction m with
      | zero => intro k i hm hk hi; cases k with
        | zero => omega
        | succ k =>
          unfold colophonlaw16_TallyAll.l2
          rw [ew, wi_eq (n := (i : Int) + (w : Int)) (by omega) (by omega), if_neg (by rw [decide_eq_true_eq]; omega)]
      | succ m ih => intro k i hm hk hi; cases k with
        | zero => omega
        | succ k =>
          unfold colophonlaw16_TallyAll.l2
          rw [ew, wi_eq (n := (i : Int) + (w : Int)) (by omega) (by omega)]
          by_cases c : i + w ≤ v.length
          · obtain ⟨p, e3, lp⟩ := k3 ((v.take (i + w)).drop i) (by rw [List.length_drop, List.length_take]; omega)
            obtain ⟨a, b, c', er, ed, eu⟩ := hT p (by rw [lp, List.length_drop, List.length_take]; omega)
            rw [if_pos (by rw [decide_eq_true_eq]; omega), show (i : Int) + (w : Int) = ((i + w : Nat) : Int) by omega, sub?_nat v (by omega) c, Option.bind_some, e3, Option.bind_some]
            simp only []
            rw [er, Option.bind_some]
            simp only []
            rw [ed, Option.bind_some, eu, Option.bind_some, if_neg (by simp), wi_eq (by omega) (by omega), show ((i : Int) + 1) = ((i + 1 : Nat) : Int) by omega]
            exact ih k (i + 1) (by omega) (by omega) (by omega)
          · rw [if_neg (by rw [decide_eq_true_eq]; omega)]
    have k1 : ∀ (m k i : Nat), l0.length - i = m → m < k → colophonlaw16_TallyAll.l1 l0 a1 (d, h, sa) s T k (i : Int) = some (.inr ()) := by
      intro m
      induction m with
      | zero => intro k i hm hk; cases k with
        | zero => omega
        | succ k => unfold colophonlaw16_TallyAll.l1; rw [if_neg (by rw [decide_eq_true_eq]; omega)]
      | succ m ih => intro k i hm hk; cases k with
        | zero => omega
        | succ k =>
          unfold colophonlaw16_TallyAll.l1
          have hil : i < l0.length := by omega
          have hlt := Text.stt_lt l0 hil
          have hst : Text.stt l0 l0.length = Text.tot l0 l0.length + l0.length := rfl
          have hv : (l0.getD i []).length ≤ 100000 := by show (Text.D l0 i).length ≤ 100000; omega
          have e2 := k2 (l0.getD i []) hv ((l0.getD i []).length + 1) FU 0 rfl (by show (l0.getD i []).length + 1 < 4611686018427387904; omega) (by omega)
          rw [show ((0 : Nat) : Int) = 0 from rfl] at e2
          rw [if_pos (by rw [decide_eq_true_eq]; omega), Text.at_get [] hil, Option.bind_some, e2, Option.bind_some]
          simp only []
          rw [wi_eq (by omega) (by omega), show ((i : Int) + 1) = ((i + 1 : Nat) : Int) by omega]
          exact ih k (i + 1) (by omega) (by omega)
    have e1 := k1 l0.length FU 0 (by omega) (by show l0.length < 4611686018427387904; omega)
    rw [show ((0 : Nat) : Int) = 0 from rfl] at e1
    rw [ep, Option.bind_some]
    simp only []
    rw [eT, Option.bind_some, es, Option.bind_some]
    simp only []
    rw [Option.bind_some, e1]; rfl
end Go.Proofs.Ytmdemfbkdbilpaa
