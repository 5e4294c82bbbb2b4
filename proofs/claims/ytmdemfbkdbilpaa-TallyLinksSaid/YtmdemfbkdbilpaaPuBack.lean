/-
  The plain laws of layer docs: where a number stood last, and stands next. No condition.
-/
import Derived.Test.YtmdemfbkdbilpaaGI
import Derived.Test.YtmdemfbkdbilpaaGP1b
namespace Go.Proofs.Ytmdemfbkdbilpaa
open Go Go.Gol
set_option linter.unusedVariables false
set_option linter.unusedSimpArgs false
set_option maxRecDepth 100000
namespace Docs
theorem at_g {l : List Int} {q : Nat} (h : q < l.length) : at? l (q : Int) = some (l.getD q 0) := by
  rw [at?_nat, List.getElem?_eq_getElem h]; simp [List.getD_eq_getElem?_getD, List.getElem?_eq_getElem h]
theorem getD_set {l : List Int} {i j : Nat} {v : Int} (h : i < l.length) : (l.set i v).getD j 0 = if j = i then v else l.getD j 0 := by
  rw [List.getD_eq_getElem?_getD, List.getElem?_set]
  by_cases e : i = j
  · subst e; rw [if_pos rfl, if_pos h, if_pos rfl]; rfl
  · rw [if_neg e, if_neg (Ne.symm e), ← List.getD_eq_getElem?_getD]
theorem ext_get {a b : List Int} (hl : a.length = b.length) (h : ∀ i, i < a.length → a.getD i 0 = b.getD i 0) : a = b := by
  apply List.ext_getElem hl
  intro i h1 h2
  have := h i h1
  rw [List.getD_eq_getElem?_getD, List.getElem?_eq_getElem h1, List.getD_eq_getElem?_getD, List.getElem?_eq_getElem h2] at this
  exact this
/-- the last place ahead with the same number -/
def Prv (l : List Int) (i : Nat) (p : Int) : Prop := (p = -1 ∧ ∀ j, j < i → l.getD j 0 ≠ l.getD i 0) ∨ ∃ q : Nat, p = (q : Int) ∧ q < i ∧ l.getD q 0 = l.getD i 0 ∧ ∀ j, q < j → j < i → l.getD j 0 ≠ l.getD i 0
theorem Prv.uniq {l : List Int} {i : Nat} {p p' : Int} (h : Prv l i p) (h' : Prv l i p') : p = p' := by
  rcases h with ⟨rfl, h1⟩ | ⟨q, rfl, hq, he, hn⟩
  · rcases h' with ⟨rfl, _⟩ | ⟨q', rfl, hq', he', _⟩
    · rfl
    · exact absurd he' (h1 q' hq')
  · rcases h' with ⟨rfl, h1⟩ | ⟨q', rfl, hq', he', hn'⟩
    · exact absurd he (h1 q hq)
    · rcases Nat.lt_trichotomy q q' with h | h | h
      · exact absurd he' (hn q' h hq')
      · rw [h]
      · exact absurd he (hn' q h hq)
theorem back_ok {l : List Int} (hl : l.length ≤ 1000000000) : ∃ b, docs_Back.f l = some b ∧ b.length = l.length ∧ ∀ i, i < l.length → Prv l i (b.getD i 0) := by
  unfold docs_Back.f
  rw [make?_nat _ (by omega), Option.bind_some]
  have key : ∀ (m k i : Nat) (b : List Int) (M : List (Int × Int)), l.length - i = m → m < k → i ≤ l.length → b.length = l.length → (∀ j, j < i → Prv l j (b.getD j 0)) →
      (∀ x, (mget M x = none ∧ ∀ j, j < i → l.getD j 0 ≠ x) ∨ ∃ q : Nat, mget M x = some (q : Int) ∧ q < i ∧ l.getD q 0 = x ∧ ∀ j, q < j → j < i → l.getD j 0 ≠ x) →
      ∃ b' M', docs_Back.l1 l k b (i : Int) M = some (b', M') ∧ b'.length = l.length ∧ ∀ j, j < l.length → Prv l j (b'.getD j 0) := by
    intro m
    induction m with
    | zero => intro k i b M hm hk hi hb hp hM; cases k with
      | zero => omega
      | succ k => unfold docs_Back.l1; rw [if_neg (by simp; omega)]; exact ⟨b, M, rfl, hb, fun j hj => hp j (by omega)⟩
    | succ m ih => intro k i b M hm hk hi hb hp hM; cases k with
      | zero => omega
      | succ k =>
        unfold docs_Back.l1
        have hil : i < l.length := by omega
        have hM' : ∀ x, (mget (mset M (l.getD i 0) (i : Int)) x = none ∧ ∀ j, j < i + 1 → l.getD j 0 ≠ x) ∨ ∃ q : Nat, mget (mset M (l.getD i 0) (i : Int)) x = some (q : Int) ∧ q < i + 1 ∧ l.getD q 0 = x ∧ ∀ j, q < j → j < i + 1 → l.getD j 0 ≠ x := by
          intro x
          rw [mget_mset]
          by_cases hx : x = l.getD i 0
          · rw [if_pos hx]; exact .inr ⟨i, rfl, by omega, hx.symm, fun j h1 h2 => by omega⟩
          · rw [if_neg hx]
            rcases hM x with ⟨h1, h2⟩ | ⟨q, h1, h2, h3, h4⟩
            · exact .inl ⟨h1, fun j hj => by
                rcases Nat.lt_or_ge j i with h | h
                · exact h2 j h
                · have : j = i := by omega
                  subst this; exact Ne.symm hx⟩
            · exact .inr ⟨q, h1, by omega, h3, fun j hj1 hj2 => by
                rcases Nat.lt_or_ge j i with h | h
                · exact h4 j hj1 h
                · have : j = i := by omega
                  subst this; exact Ne.symm hx⟩
        have hp' : ∀ v, Prv l i v → ∀ j, j < i + 1 → Prv l j ((b.set i v).getD j 0) := fun v hv j hj => by
          rw [getD_set (by omega)]
          by_cases e : j = i
          · rw [if_pos e, e]; exact hv
          · rw [if_neg e]; exact hp j (by omega)
        rw [if_pos (by simp; omega), at_g hil, Option.bind_some, wi_eq (by omega) (by omega), show ((i : Int) + 1) = ((i + 1 : Nat) : Int) by omega]
        rcases hM (l.getD i 0) with ⟨h1, h2⟩ | ⟨q, h1, h2, h3, h4⟩
        · rw [h1, if_neg (by simp), at_g (by omega), Option.bind_some, set?_nat _ (by omega), Option.bind_some]
          exact ih k (i + 1) _ _ (by omega) (by omega) (by omega) (by simpa using hb) (hp' (-1) (.inl ⟨rfl, h2⟩)) hM'
        · rw [h1, if_pos (by simp), at_g (by omega), Option.bind_some, set?_nat _ (by omega), Option.bind_some]
          exact ih k (i + 1) _ _ (by omega) (by omega) (by omega) (by simpa using hb) (hp' (q : Int) (.inr ⟨q, rfl, h2, h3, h4⟩)) hM'
  obtain ⟨b', M', e, h1, h2⟩ := key l.length FU 0 (List.replicate l.length 0) [] (by omega) (by show l.length < 4611686018427387904; omega) (by omega) (by simp) (fun j h => by omega) (fun x => .inl ⟨rfl, fun j h => by omega⟩)
  rw [show ((0 : Nat) : Int) = 0 from rfl] at e
  rw [e]; exact ⟨b', rfl, h1, h2⟩
end Docs
end Go.Proofs.Ytmdemfbkdbilpaa
