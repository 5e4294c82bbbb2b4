/-
  The laws of layer docs, in plain words. No condition.
-/
import Derived.Test.YthnlihpmpmhidaaPuDocsA
import Derived.Test.YthnlihpmpmhidaaGDocsLinks
import Derived.Test.YthnlihpmpmhidaaGDocsMirrors
import Derived.Test.YthnlihpmpmhidaaGDocsCounts
namespace Go.Proofs.Ythnlihpmpmhidaa
open Go Go.Gol Docs
set_option linter.unusedVariables false
set_option linter.unusedSimpArgs false
set_option maxRecDepth 100000
namespace Docs
theorem to_next {l : List Int} {i q : Nat} (hi : i < l.length) (h : Prv l i (q : Int)) : Nxt l q (i : Int) := by
  rcases h with ⟨h, _⟩ | ⟨q', e, h1, h2, h3⟩
  · omega
  · have : q' = q := by omega
    subst this
    exact ⟨i, rfl, h1, by omega, fun j a b => by rw [h2]; exact h3 j a b, fun _ => h2.symm⟩
theorem to_prev {l : List Int} {i q : Nat} (hq : q < l.length) (h : Nxt l i (q : Int)) : Prv l q (i : Int) := by
  obtain ⟨q', e, h1, h2, h3, h4⟩ := h
  have : q' = q := by omega
  subst this
  have := h4 hq
  exact .inr ⟨i, rfl, h1, this.symm, fun j a b => by rw [this]; exact h3 j a b⟩
theorem Prv.cases {l : List Int} {i : Nat} {p : Int} (h : Prv l i p) : p = -1 ∨ ∃ q : Nat, p = (q : Int) ∧ q < i := by
  rcases h with ⟨h, _⟩ | ⟨q, e, h1, _⟩
  · exact .inl h
  · exact .inr ⟨q, e, h1⟩
end Docs
theorem pure_DocsLinks (l0 : List Int) (F0 : Fits (.slice 3 (.int .i64)) l0) : colophonlaw12_DocsLinks.f l0 = some true := by
  unfold colophonlaw12_DocsLinks.f
  rw [first_f, Option.bind_some, if_neg (by simp)]
  by_cases h : l0.length > 800
  · rw [if_pos (by simp; omega)]
  rw [if_neg (by simp; omega), app?_eq (by simp; omega), Option.bind_some, List.nil_append]
  obtain ⟨b, eb, lb, hb⟩ := back_ok (l := l0) (by omega)
  obtain ⟨a, ea, la, ha⟩ := ahead_ok (l := l0) (by omega)
  obtain ⟨b', eb', lb', hb'⟩ := refBack_ok (l := l0) (by omega)
  obtain ⟨a', ea', la', ha'⟩ := refAhead_ok (l := l0) (by omega)
  have hbb : b' = b := ext_get (by omega) (fun i hi => (hb' i (by omega)).uniq (hb i (by omega)))
  have haa : a' = a := ext_get (by omega) (fun i hi => (ha' i (by omega)).uniq (ha i (by omega)))
  subst hbb haa
  rw [eb, Option.bind_some, ea, Option.bind_some, same_refl _ (by omega), Option.bind_some, if_neg (by simp), eb', Option.bind_some, same_refl _ (by omega), Option.bind_some, if_neg (by simp), ea', Option.bind_some, same_refl _ (by omega), Option.bind_some, if_neg (by simp)]
  have key : ∀ (m k i : Nat), l0.length - i = m → m < k → colophonlaw12_DocsLinks.l1 l0 b' a' k (i : Int) = some (.inr ()) := by
    intro m
    induction m with
    | zero => intro k i hm hk; cases k with
      | zero => omega
      | succ k => unfold colophonlaw12_DocsLinks.l1; rw [if_neg (by simp; omega)]
    | succ m ih => intro k i hm hk; cases k with
      | zero => omega
      | succ k =>
        unfold colophonlaw12_DocsLinks.l1
        have hil : i < l0.length := by omega
        have hbi := hb i hil
        have hai := ha i hil
        have tail : ((at? a' (i : Int)).bind fun v106 => (if decide (v106 < (l0.length : Int)) then ((at? b' v106).bind fun v109 => (if (v109 != (i : Int)) then some (.inl false) else colophonlaw12_DocsLinks.l1 l0 b' a' k (wi ((i : Int) + 1)))) else colophonlaw12_DocsLinks.l1 l0 b' a' k (wi ((i : Int) + 1)))) = some (.inr ()) := by
          rw [at_g (by omega), Option.bind_some, wi_eq (by omega) (by omega), show ((i : Int) + 1) = ((i + 1 : Nat) : Int) by omega]
          obtain ⟨q, e, _⟩ := id hai
          rw [e] at hai ⊢
          by_cases hq : q < l0.length
          · rw [if_pos (by simp; omega), at_g (by omega), Option.bind_some, (hb q hq).uniq (to_prev hq hai), if_neg (by simp)]
            exact ih k (i + 1) (by omega) (by omega)
          · rw [if_neg (by simp; omega)]
            exact ih k (i + 1) (by omega) (by omega)
        rw [if_pos (by simp; omega), at_g (by omega), Option.bind_some]
        rcases hbi.cases with e | ⟨q, e, hq⟩
        · rw [e, if_neg (by simp)]; exact tail
        · rw [e] at hbi ⊢
          rw [if_pos (by simp), at_g (by omega), Option.bind_some, (ha q (by omega)).uniq (to_next hil hbi), if_neg (by simp)]; exact tail
  have := key l0.length FU 0 (by omega) (by show l0.length < 4611686018427387904; omega)
  rw [show ((0 : Nat) : Int) = 0 from rfl] at this
  rw [this]; rfl
theorem pure_DocsMirrors (l0 : List Int) (F0 : Fits (.slice 3 (.int .i64)) l0) : colophonlaw12_DocsMirrors.f l0 = some true := by
  unfold colophonlaw12_DocsMirrors.f
  rw [first_f, Option.bind_some, if_neg (by simp)]
  by_cases h : l0.length > 1000
  · rw [if_pos (by simp; omega)]
  rw [if_neg (by simp; omega)]
  have k1 : ∀ (i k : Nat) (m : List Int), i < k → i ≤ l0.length → m.length = l0.length - i → (∀ j, j < l0.length - i → m.getD j 0 = l0.getD (l0.length - 1 - j) 0) →
      ∃ m', colophonlaw12_DocsMirrors.l1 l0 k m ((i : Int) - 1) = some m' ∧ m'.length = l0.length ∧ ∀ j, j < l0.length → m'.getD j 0 = l0.getD (l0.length - 1 - j) 0 := by
    intro i
    induction i with
    | zero => intro k m hk hi hm hj; cases k with
      | zero => omega
      | succ k => unfold colophonlaw12_DocsMirrors.l1; rw [if_neg (by simp)]; exact ⟨m, rfl, by omega, fun j h => hj j (by omega)⟩
    | succ i ih => intro k m hk hi hm hj; cases k with
      | zero => omega
      | succ k =>
        unfold colophonlaw12_DocsMirrors.l1
        rw [show (((i + 1 : Nat) : Int) - 1) = (i : Int) by omega, if_pos (by simp), at_g (by omega), Option.bind_some, app?_eq (by simp; omega), Option.bind_some, wi_eq (by omega) (by omega)]
        refine ih k _ (by omega) (by omega) (by simp; omega) (fun j hjl => ?_)
        rw [List.getD_eq_getElem?_getD]
        rcases Nat.lt_or_ge j (l0.length - (i + 1)) with h | h
        · rw [List.getElem?_append_left (by omega), ← List.getD_eq_getElem?_getD]; exact hj j h
        · rw [List.getElem?_append_right (by omega), show j - m.length = 0 by omega, show l0.length - 1 - j = i by omega]; rfl
  obtain ⟨m, em, lm, hm⟩ := k1 l0.length FU [] (by show l0.length < 4611686018427387904; omega) (Nat.le_refl _) (by simp) (fun j h => by omega)
  obtain ⟨b, eb, lb, hb⟩ := back_ok (l := l0) (by omega)
  obtain ⟨a, ea, la, ha⟩ := ahead_ok (l := m) (by omega)
  rw [wi_eq (by omega) (by omega), em, Option.bind_some, eb, Option.bind_some, ea, Option.bind_some]
  have key : ∀ (x k i : Nat), l0.length - i = x → x < k → colophonlaw12_DocsMirrors.l2 l0 b a k (i : Int) = some (.inr ()) := by
    intro x
    induction x with
    | zero => intro k i hx hk; cases k with
      | zero => omega
      | succ k => unfold colophonlaw12_DocsMirrors.l2; rw [if_neg (by simp; omega)]
    | succ x ih => intro k i hx hk; cases k with
      | zero => omega
      | succ k =>
        unfold colophonlaw12_DocsMirrors.l2
        have hil : i < l0.length := by omega
        have hbi := hb i hil
        have hnx : Nxt m (l0.length - 1 - i) ((l0.length : Int) - 1 - b.getD i 0) := by
          have hme : m.getD (l0.length - 1 - i) 0 = l0.getD i 0 := by rw [hm _ (by omega)]; congr 1; omega
          rcases hbi with ⟨e, h1⟩ | ⟨q, e, h1, h2, h3⟩
          · exact ⟨l0.length, by omega, by omega, by omega, fun j hj1 hj2 => by
              rw [hme, hm j hj2]; exact h1 _ (by omega), fun h => by omega⟩
          · exact ⟨l0.length - 1 - q, by omega, by omega, by omega, fun j hj1 hj2 => by
              rw [hme, hm j (by omega)]; exact h3 _ (by omega) (by omega), fun _ => by
              rw [hme, hm _ (by omega), show l0.length - 1 - (l0.length - 1 - q) = q by omega]; exact h2⟩
        have hbr : -1 ≤ b.getD i 0 ∧ b.getD i 0 < 2000 := by rcases hbi.cases with e | ⟨q, e, hq⟩ <;> omega
        rw [if_pos (by simp; omega), wi_eq (n := (l0.length : Int) - 1) (by omega) (by omega), wi_eq (n := (l0.length : Int) - 1 - (i : Int)) (by omega) (by omega), show ((l0.length : Int) - 1 - (i : Int)) = ((l0.length - 1 - i : Nat) : Int) by omega, at_g (by omega), Option.bind_some, at_g (by omega), Option.bind_some, (ha _ (by omega)).uniq hnx, wi_eq (n := (l0.length : Int) - 1 - b.getD i 0) (by omega) (by omega), if_neg (by simp), wi_eq (by omega) (by omega), show ((i : Int) + 1) = ((i + 1 : Nat) : Int) by omega]
        exact ih k (i + 1) (by omega) (by omega)
  have := key l0.length FU 0 (by omega) (by show l0.length < 4611686018427387904; omega)
  rw [show ((0 : Nat) : Int) = 0 from rfl] at this
  rw [this]
  simp [la, lm, lb]
namespace Docs
/-- how many of the first places are marked -/
def cn (P : Nat → Bool) : Nat → Nat
  | 0 => 0
  | n + 1 => cn P n + if P n then 1 else 0
theorem cn_zero {P : Nat → Bool} {n : Nat} (h : ∀ j, j < n → P j = false) : cn P n = 0 := by
  induction n with
  | zero => rfl
  | succ n ih => simp only [cn]; rw [ih (fun j hj => h j (by omega)), h n (by omega)]; rfl
theorem cn_pos {P : Nat → Bool} {n q : Nat} (hq : q < n) (h : P q = true) : 0 < cn P n := by
  induction n with
  | zero => omega
  | succ n ih =>
    simp only [cn]
    by_cases e : q = n
    · subst e; rw [h, if_pos rfl]; omega
    · have := ih (by omega); omega
theorem cn_le (P : Nat → Bool) (n : Nat) : cn P n ≤ n := by
  induction n with
  | zero => exact Nat.le_refl _
  | succ n ih => simp only [cn]; split <;> omega
theorem cn_past {P : Nat → Bool} {i n : Nat} (h : i ≤ n) (hp : ∀ j, i ≤ j → j < n → P j = false) : cn P n = cn P i := by
  induction n with
  | zero => have : i = 0 := by omega
            subst this; rfl
  | succ n ih =>
    by_cases e : i = n + 1
    · rw [e]
    · simp only [cn]; rw [ih (by omega) (fun j a b => hp j a (by omega)), hp n (by omega) (by omega)]; rfl
theorem imin_lt {x a b : Int} : x < imin a b ↔ x < a ∧ x < b := by unfold imin; split <;> omega
end Docs
theorem pure_DocsCounts (l0 : List Int) (F0 : Fits (.slice 3 (.int .i64)) l0) (a1 : Int) (F1 : Fits (.int .i64) a1) (a2_0 : Int) (F2_0 : Fits (.int .i64) a2_0) (a2_1 : Int) (F2_1 : Fits (.int .i64) a2_1) : colophonlaw12_DocsCounts.f l0 a1 a2_0 a2_1 = some true := by
  unfold colophonlaw12_DocsCounts.f
  rw [first_f, Option.bind_some, if_neg (by simp)]
  by_cases h : l0.length > 1500
  · rw [if_pos (by simp; omega)]
  rw [if_neg (by simp; omega)]
  obtain ⟨b, eb, lb, hb⟩ := back_ok (l := l0) (by omega)
  obtain ⟨P, hP⟩ : ∃ P : Nat → Bool, P = fun j : Nat => decide (a2_0 ≤ (j : Int)) && decide ((j : Int) < a2_1) && decide (l0.getD j 0 = a1) := ⟨_, rfl⟩
  have hPt : ∀ j, P j = true ↔ a2_0 ≤ (j : Int) ∧ (j : Int) < a2_1 ∧ l0.getD j 0 = a1 := fun j => by rw [hP]; simp [and_assoc]
  have hPf : ∀ j, P j = false ↔ ¬ (a2_0 ≤ (j : Int) ∧ (j : Int) < a2_1 ∧ l0.getD j 0 = a1) := fun j => by rw [← hPt]; simp
  -- the reference
  have kr : ∀ (m k i : Nat), l0.length - i = m → m < k → i ≤ l0.length → colophonref12_Count.l1 l0 a1 a2_0 a2_1 k (cn P i : Int) (i : Int) = some (cn P l0.length : Int) := by
    intro m
    induction m with
    | zero => intro k i hm hk hi; cases k with
      | zero => omega
      | succ k => unfold colophonref12_Count.l1; rw [if_neg (by simp; omega), show i = l0.length by omega]
    | succ m ih => intro k i hm hk hi; cases k with
      | zero => omega
      | succ k =>
        unfold colophonref12_Count.l1
        have hil : i < l0.length := by omega
        have hc := cn_le P i
        have hs : cn P (i + 1) = cn P i + if P i then 1 else 0 := rfl
        have nx := ih k (i + 1) (by omega) (by omega) (by omega)
        rw [if_pos (by simp; omega), at_g hil, Option.bind_some, wi_eq (n := (i : Int) + 1) (by omega) (by omega), show ((i : Int) + 1) = ((i + 1 : Nat) : Int) by omega]
        rw [wi_eq (n := (cn P i : Int) + 1) (by omega) (by omega)]
        cases e : P i with
        | true =>
          obtain ⟨h1, h2, h3⟩ := (hPt i).1 e
          rw [e, if_pos rfl] at hs
          rw [if_pos (by simpa using h3), if_pos (by simpa using h1), if_pos (by simpa using h2), show ((cn P i : Int) + 1) = (cn P (i + 1) : Int) by omega]; exact nx
        | false =>
          have h' := (hPf i).1 e
          rw [e, if_neg (by simp), Nat.add_zero] at hs
          rw [hs] at nx
          by_cases h1 : l0.getD i 0 = a1
          · rw [if_pos (by simpa using h1)]
            by_cases h2 : (i : Int) ≥ a2_0
            · rw [if_pos (by simpa using h2)]
              by_cases h3 : (i : Int) < a2_1
              · exact absurd ⟨h2, h3, h1⟩ h'
              · rw [if_neg (by simpa using h3)]; exact nx
            · rw [if_neg (by simpa using h2)]; exact nx
          · rw [if_neg (by simpa using h1)]; exact nx
  -- the program
  have kp : ∀ (m k i : Nat), l0.length - i = m → m < k → i ≤ l0.length → a2_0 ≤ (i : Int) → docs_Count.l1 l0 a1 a2_1 k (cn P i : Int) (i : Int) = some (cn P l0.length : Int) := by
    intro m
    induction m with
    | zero => intro k i hm hk hi ha; cases k with
      | zero => omega
      | succ k => unfold docs_Count.l1; rw [if_neg (by simp only [decide_eq_true_eq, imin_lt]; omega), show i = l0.length by omega]
    | succ m ih => intro k i hm hk hi ha; cases k with
      | zero => omega
      | succ k =>
        unfold docs_Count.l1
        have hil : i < l0.length := by omega
        have hc := cn_le P i
        have hs : cn P (i + 1) = cn P i + if P i then 1 else 0 := rfl
        have nx := ih k (i + 1) (by omega) (by omega) (by omega) (by omega)
        by_cases h2 : (i : Int) < a2_1
        · rw [if_pos (by simp only [decide_eq_true_eq, imin_lt]; omega), at_g hil, Option.bind_some, wi_eq (n := (i : Int) + 1) (by omega) (by omega), show ((i : Int) + 1) = ((i + 1 : Nat) : Int) by omega, wi_eq (n := (cn P i : Int) + 1) (by omega) (by omega)]
          by_cases h3 : l0.getD i 0 = a1
          · rw [(hPt i).2 ⟨ha, h2, h3⟩, if_pos rfl] at hs
            rw [if_pos (by simpa using h3), show ((cn P i : Int) + 1) = (cn P (i + 1) : Int) by omega]; exact nx
          · rw [(hPf i).2 (fun h => h3 h.2.2), if_neg (by simp), Nat.add_zero] at hs
            rw [hs] at nx
            rw [if_neg (by simpa using h3)]; exact nx
        · rw [if_neg (by simp only [decide_eq_true_eq, imin_lt]; omega), cn_past hi (fun j h1 _ => (hPf j).2 (fun h => by omega))]
  have ep : docs_Count.f l0 a1 a2_0 a2_1 = some (cn P l0.length : Int) := by
    unfold docs_Count.f
    have hmax : a2_0 ≤ imax a2_0 0 ∧ 0 ≤ imax a2_0 0 ∧ (imax a2_0 0 = 0 ∨ imax a2_0 0 = a2_0) := by unfold imax; split <;> omega
    by_cases hn : imax a2_0 0 < (l0.length : Int)
    · obtain ⟨s, hs⟩ : ∃ s : Nat, imax a2_0 0 = (s : Int) := ⟨(imax a2_0 0).toNat, by omega⟩
      have := kp (l0.length - s) FU s rfl (by show l0.length - s < 4611686018427387904; omega) (by omega) (by omega)
      rw [cn_zero (P := P) (n := s) (fun j hj => (hPf j).2 (fun h => by omega)), show ((0 : Nat) : Int) = 0 from rfl] at this
      rw [hs, this]; rfl
    · rw [show FU = FU - 1 + 1 from rfl]
      unfold docs_Count.l1
      rw [if_neg (by simp only [decide_eq_true_eq, imin_lt]; omega), Option.bind_some, cn_zero (P := P) (fun j hj => (hPf j).2 (fun h => by omega))]; rfl
  have er : colophonref12_Count.f l0 a1 a2_0 a2_1 = some (cn P l0.length : Int) := by
    unfold colophonref12_Count.f
    have := kr l0.length FU 0 (by omega) (by show l0.length < 4611686018427387904; omega) (by omega)
    rw [show ((0 : Nat) : Int) = 0 from rfl, show (cn P 0 : Int) = 0 from rfl] at this
    rw [this]; rfl
  have hfst : ∀ (m k i : Nat) (x : Int), b.length - i = m → m < k → i ≤ b.length → 0 ≤ x → x ≤ (i : Int) → (0 ≤ a2_0 → x = (min (cn P i) 1 : Nat)) →
      ∃ y : Int, colophonlaw12_DocsCounts.l1 l0 a1 a2_0 a2_1 b k x (i : Int) = some y ∧ (0 ≤ a2_0 → y = (min (cn P b.length) 1 : Nat)) := by
    intro m
    induction m with
    | zero => intro k i x hm hk hi h0 hx hc; cases k with
      | zero => omega
      | succ k => unfold colophonlaw12_DocsCounts.l1; rw [if_neg (by simp; omega)]; have : i = b.length := by omega
                  subst this; exact ⟨x, rfl, hc⟩
    | succ m ih => intro k i x hm hk hi h0 hx hc; cases k with
      | zero => omega
      | succ k =>
        unfold colophonlaw12_DocsCounts.l1
        have hil : i < l0.length := by omega
        have hs : cn P (i + 1) = cn P i + if P i then 1 else 0 := rfl
        rw [if_pos (by simp; omega), at_g (by omega), Option.bind_some, wi_eq (n := (i : Int) + 1) (by omega) (by omega), show ((i : Int) + 1) = ((i + 1 : Nat) : Int) by omega, wi_eq (n := x + 1) (by omega) (by omega)]
        by_cases h1 : (i : Int) ≥ a2_0
        · rw [if_pos (by simpa using h1)]
          by_cases h2 : (i : Int) < a2_1
          · rw [if_pos (by simpa using h2), at_g hil, Option.bind_some]
            by_cases h3 : l0.getD i 0 = a1
            · rw [if_pos (by simpa using h3)]
              rw [(hPt i).2 ⟨h1, h2, h3⟩, if_pos rfl] at hs
              by_cases h4 : b.getD i 0 < a2_0
              · rw [if_pos (by simpa using h4)]
                refine ih k (i + 1) _ (by omega) (by omega) (by omega) (by omega) (by omega) (fun h => ?_)
                have hz : cn P i = 0 := by
                  rcases hb i hil with ⟨e, hn⟩ | ⟨q, e, hq, he, hn⟩
                  · exact cn_zero (fun j hj => (hPf j).2 (fun h' => hn j hj (by rw [h'.2.2, h3])))
                  · refine cn_zero (fun j hj => (hPf j).2 (fun h' => ?_))
                    rcases Nat.lt_or_ge q j with hqj | hqj
                    · exact hn j hqj hj (by rw [h'.2.2, h3])
                    · omega
                have := hc h
                omega
              · rw [if_neg (by simpa using h4)]
                refine ih k (i + 1) _ (by omega) (by omega) (by omega) (by omega) (by omega) (fun h => ?_)
                have hz : 0 < cn P i := by
                  rcases hb i hil with ⟨e, hn⟩ | ⟨q, e, hq, he, hn⟩
                  · omega
                  · exact cn_pos hq ((hPt q).2 ⟨by omega, by omega, by rw [he, h3]⟩)
                have := hc h
                omega
            · rw [if_neg (by simpa using h3)]
              rw [(hPf i).2 (fun h => h3 h.2.2), if_neg (by simp), Nat.add_zero] at hs
              exact ih k (i + 1) _ (by omega) (by omega) (by omega) (by omega) (by omega) (fun h => by rw [hs]; exact hc h)
          · rw [if_neg (by simpa using h2)]
            rw [(hPf i).2 (fun h => h2 h.2.1), if_neg (by simp), Nat.add_zero] at hs
            exact ih k (i + 1) _ (by omega) (by omega) (by omega) (by omega) (by omega) (fun h => by rw [hs]; exact hc h)
        · rw [if_neg (by simpa using h1)]
          rw [(hPf i).2 (fun h => h1 h.1), if_neg (by simp), Nat.add_zero] at hs
          exact ih k (i + 1) _ (by omega) (by omega) (by omega) (by omega) (by omega) (fun h => by rw [hs]; exact hc h)
  obtain ⟨y, ey, hy⟩ := hfst b.length FU 0 0 (by omega) (by show b.length < 4611686018427387904; omega) (by omega) (by omega) (by omega) (fun _ => rfl)
  rw [show ((0 : Nat) : Int) = 0 from rfl] at ey
  rw [ep, Option.bind_some, er, Option.bind_some, if_neg (by simp), eb, Option.bind_some, ey, Option.bind_some]
  by_cases ha : a2_0 < 0
  · rw [if_pos (by simpa using ha)]
  · rw [if_neg (by simpa using ha)]
    have := hy (by omega)
    congr 1
    rw [beq_iff_eq, this, lb]
    unfold imin
    split <;> omega
end Go.Proofs.Ythnlihpmpmhidaa
