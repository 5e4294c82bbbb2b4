/-
  The plain laws of layer docs: where a number stood last, and stands next. No condition.
-/
import Derived.Test.YthnlihpmpmhidaaPuTextCore
import Derived.Test.YthnlihpmpmhidaaGP1b
namespace Go.Proofs.Ythnlihpmpmhidaa
open Go Go.Gol
set_option linter.unusedVariables false
set_option linter.unusedSimpArgs false
set_option maxRecDepth 100000
namespace Docs
theorem at_g {l : List Int} {q : Nat} (h : q < l.length) : at? l (q : Int) = some (l.getD q 0) := by
  rw [at?_nat, List.getElem?_eq_getElem h]; simp [List.getD_eq_getElem?_getD, List.getElem?_eq_getElem h]
theorem getD_set {l : List Int} {i j : Nat} {v : Int} (h : i < l.length) : (l.set i v).getD j 0 = if j = i then v else l.getD j 0 := by
  rw [List.getD_eq_getElem?_getD, List.getElem?_set]
  by_cases e : i = j
  · subst e; rw [if_pos rfl, if_pos h, if_pos rfl]; rfl
  · rw [if_neg e, if_neg (Ne.symm e), ← List.getD_eq_getElem?_getD]
theorem ext_get {a b : List Int} (hl : a.length = b.length) (h : ∀ i, i < a.length → a.getD i 0 = b.getD i 0) : a = b := by
  apply List.ext_getElem hl
  intro i h1 h2
  have := h i h1
  rw [List.getD_eq_getElem?_getD, List.getElem?_eq_getElem h1, List.getD_eq_getElem?_getD, List.getElem?_eq_getElem h2] at this
  exact this
/-- the last place ahead with the same number -/
def Prv (l : List Int) (i : Nat) (p : Int) : Prop := (p = -1 ∧ ∀ j, j < i → l.getD j 0 ≠ l.getD i 0) ∨ ∃ q : Nat, p = (q : Int) ∧ q < i ∧ l.getD q 0 = l.getD i 0 ∧ ∀ j, q < j → j < i → l.getD j 0 ≠ l.getD i 0
/-- the next place behind with the same number -/
def Nxt (l : List Int) (i : Nat) (p : Int) : Prop := ∃ q : Nat, p = (q : Int) ∧ i < q ∧ q ≤ l.length ∧ (∀ j, i < j → j < q → l.getD j 0 ≠ l.getD i 0) ∧ (q < l.length → l.getD q 0 = l.getD i 0)
theorem Prv.uniq {l : List Int} {i : Nat} {p p' : Int} (h : Prv l i p) (h' : Prv l i p') : p = p' := by
  rcases h with ⟨rfl, h1⟩ | ⟨q, rfl, hq, he, hn⟩
  · rcases h' with ⟨rfl, _⟩ | ⟨q', rfl, hq', he', _⟩
    · rfl
    · exact absurd he' (h1 q' hq')
  · rcases h' with ⟨rfl, h1⟩ | ⟨q', rfl, hq', he', hn'⟩
    · exact absurd he (h1 q hq)
    · rcases Nat.lt_trichotomy q q' with h | h | h
      · exact absurd he' (hn q' h hq')
      · rw [h]
      · exact absurd he (hn' q h hq)
theorem Nxt.uniq {l : List Int} {i : Nat} {p p' : Int} (h : Nxt l i p) (h' : Nxt l i p') : p = p' := by
  obtain ⟨q, rfl, h1, h2, h3, h4⟩ := h
  obtain ⟨q', rfl, h1', h2', h3', h4'⟩ := h'
  rcases Nat.lt_trichotomy q q' with h | h | h
  · exact absurd (h4 (by omega)) (h3' q h1 h)
  · rw [h]
  · exact absurd (h4' (by omega)) (h3 q' h1' h)
theorem back_ok {l : List Int} (hl : l.length ≤ 1000000000) : ∃ b, docs_Back.f l = some b ∧ b.length = l.length ∧ ∀ i, i < l.length → Prv l i (b.getD i 0) := by
  unfold docs_Back.f
  rw [make?_nat _ (by omega), Option.bind_some]
  have key : ∀ (m k i : Nat) (b : List Int) (M : List (Int × Int)), l.length - i = m → m < k → i ≤ l.length → b.length = l.length → (∀ j, j < i → Prv l j (b.getD j 0)) →
      (∀ x, (mget M x = none ∧ ∀ j, j < i → l.getD j 0 ≠ x) ∨ ∃ q : Nat, mget M x = some (q : Int) ∧ q < i ∧ l.getD q 0 = x ∧ ∀ j, q < j → j < i → l.getD j 0 ≠ x) →
      ∃ b' M', docs_Back.l1 l k b (i : Int) M = some (b', M') ∧ b'.length = l.length ∧ ∀ j, j < l.length → Prv l j (b'.getD j 0) := by
    intro m
    induction m with
    | zero => intro k i b M hm hk hi hb hp hM; cases k with
      | zero => omega
      | succ k => unfold docs_Back.l1; rw [if_neg (by simp; omega)]; exact ⟨b, M, rfl, hb, fun j hj => hp j (by omega)⟩
    | succ m ih => intro k i b M hm hk hi hb hp hM; cases k with
      | zero => omega
      | succ k =>
        unfold docs_Back.l1
        have hil : i < l.length := by omega
        have hM' : ∀ x, (mget (mset M (l.getD i 0) (i : Int)) x = none ∧ ∀ j, j < i + 1 → l.getD j 0 ≠ x) ∨ ∃ q : Nat, mget (mset M (l.getD i 0) (i : Int)) x = some (q : Int) ∧ q < i + 1 ∧ l.getD q 0 = x ∧ ∀ j, q < j → j < i + 1 → l.getD j 0 ≠ x := by
          intro x
          rw [mget_mset]
          by_cases hx : x = l.getD i 0
          · rw [if_pos hx]; exact .inr ⟨i, rfl, by omega, hx.symm, fun j h1 h2 => by omega⟩
          · rw [if_neg hx]
            rcases hM x with ⟨h1, h2⟩ | ⟨q, h1, h2, h3, h4⟩
            · exact .inl ⟨h1, fun j hj => by
                rcases Nat.lt_or_ge j i with h | h
                · exact h2 j h
                · have : j = i := by omega
                  subst this; exact Ne.symm hx⟩
            · exact .inr ⟨q, h1, by omega, h3, fun j hj1 hj2 => by
                rcases Nat.lt_or_ge j i with h | h
                · exact h4 j hj1 h
                · have : j = i := by omega
                  subst this; exact Ne.symm hx⟩
        have hp' : ∀ v, Prv l i v → ∀ j, j < i + 1 → Prv l j ((b.set i v).getD j 0) := fun v hv j hj => by
          rw [getD_set (by omega)]
          by_cases e : j = i
          · rw [if_pos e, e]; exact hv
          · rw [if_neg e]; exact hp j (by omega)
        rw [if_pos (by simp; omega), at_g hil, Option.bind_some, wi_eq (by omega) (by omega), show ((i : Int) + 1) = ((i + 1 : Nat) : Int) by omega]
        rcases hM (l.getD i 0) with ⟨h1, h2⟩ | ⟨q, h1, h2, h3, h4⟩
        · rw [h1, if_neg (by simp), at_g (by omega), Option.bind_some, set?_nat _ (by omega), Option.bind_some]
          exact ih k (i + 1) _ _ (by omega) (by omega) (by omega) (by simpa using hb) (hp' (-1) (.inl ⟨rfl, h2⟩)) hM'
        · rw [h1, if_pos (by simp), at_g (by omega), Option.bind_some, set?_nat _ (by omega), Option.bind_some]
          exact ih k (i + 1) _ _ (by omega) (by omega) (by omega) (by simpa using hb) (hp' (q : Int) (.inr ⟨q, rfl, h2, h3, h4⟩)) hM'
  obtain ⟨b', M', e, h1, h2⟩ := key l.length FU 0 (List.replicate l.length 0) [] (by omega) (by show l.length < 4611686018427387904; omega) (by omega) (by simp) (fun j h => by omega) (fun x => .inl ⟨rfl, fun j h => by omega⟩)
  rw [show ((0 : Nat) : Int) = 0 from rfl] at e
  rw [e]; exact ⟨b', rfl, h1, h2⟩
theorem ahead_ok {l : List Int} (hl : l.length ≤ 1000000000) : ∃ a, docs_Ahead.f l = some a ∧ a.length = l.length ∧ ∀ i, i < l.length → Nxt l i (a.getD i 0) := by
  unfold docs_Ahead.f
  rw [make?_nat _ (by omega), Option.bind_some]
  have key : ∀ (i k : Nat) (a : List Int) (M : List (Int × Int)), i < k → i ≤ l.length → a.length = l.length → (∀ j, i ≤ j → j < l.length → Nxt l j (a.getD j 0)) →
      (∀ x, (mget M x = none ∧ ∀ j, i ≤ j → j < l.length → l.getD j 0 ≠ x) ∨ ∃ q : Nat, mget M x = some (q : Int) ∧ i ≤ q ∧ q < l.length ∧ l.getD q 0 = x ∧ ∀ j, i ≤ j → j < q → l.getD j 0 ≠ x) →
      ∃ a' M', docs_Ahead.l1 l k a ((i : Int) - 1) M = some (a', M') ∧ a'.length = l.length ∧ ∀ j, j < l.length → Nxt l j (a'.getD j 0) := by
    intro i
    induction i with
    | zero => intro k a M hk hi ha hp hM; cases k with
      | zero => omega
      | succ k => unfold docs_Ahead.l1; rw [if_neg (by simp)]; exact ⟨a, M, rfl, ha, fun j hj => hp j (by omega) hj⟩
    | succ i ih => intro k a M hk hi ha hp hM; cases k with
      | zero => omega
      | succ k =>
        unfold docs_Ahead.l1
        have hil : i < l.length := by omega
        have hM' : ∀ x, (mget (mset M (l.getD i 0) (i : Int)) x = none ∧ ∀ j, i ≤ j → j < l.length → l.getD j 0 ≠ x) ∨ ∃ q : Nat, mget (mset M (l.getD i 0) (i : Int)) x = some (q : Int) ∧ i ≤ q ∧ q < l.length ∧ l.getD q 0 = x ∧ ∀ j, i ≤ j → j < q → l.getD j 0 ≠ x := by
          intro x
          rw [mget_mset]
          by_cases hx : x = l.getD i 0
          · rw [if_pos hx]; exact .inr ⟨i, rfl, by omega, hil, hx.symm, fun j h1 h2 => by omega⟩
          · rw [if_neg hx]
            rcases hM x with ⟨h1, h2⟩ | ⟨q, h1, h2, h3, h4, h5⟩
            · exact .inl ⟨h1, fun j hj hjl => by
                by_cases e : j = i
                · subst e; exact Ne.symm hx
                · exact h2 j (by omega) hjl⟩
            · exact .inr ⟨q, h1, by omega, h3, h4, fun j hj1 hj2 => by
                by_cases e : j = i
                · subst e; exact Ne.symm hx
                · exact h5 j (by omega) hj2⟩
        have hp' : ∀ v, Nxt l i v → ∀ j, i ≤ j → j < l.length → Nxt l j ((a.set i v).getD j 0) := fun v hv j hj hjl => by
          rw [getD_set (by omega)]
          by_cases e : j = i
          · rw [if_pos e, e]; exact hv
          · rw [if_neg e]; exact hp j (by omega) hjl
        rw [show (((i + 1 : Nat) : Int) - 1) = (i : Int) by omega, if_pos (by simp), at_g hil, Option.bind_some, wi_eq (n := (i : Int) - 1) (by omega) (by omega)]
        rcases hM (l.getD i 0) with ⟨h1, h2⟩ | ⟨q, h1, h2, h3, h4, h5⟩
        · rw [h1, if_pos (by simp), at_g (by omega), Option.bind_some, set?_nat _ (by omega), Option.bind_some]
          exact ih k _ _ (by omega) (by omega) (by simpa using ha) (hp' (l.length : Int) ⟨l.length, rfl, hil, Nat.le_refl _, fun j hj1 hj2 => h2 j (by omega) hj2, fun h => by omega⟩) hM'
        · rw [h1, if_neg (by simp), at_g (by omega), Option.bind_some, set?_nat _ (by omega), Option.bind_some]
          exact ih k _ _ (by omega) (by omega) (by simpa using ha) (hp' (q : Int) ⟨q, rfl, by omega, by omega, fun j hj1 hj2 => h5 j (by omega) hj2, fun _ => h4⟩) hM'
  obtain ⟨a', M', e, h1, h2⟩ := key l.length FU (List.replicate l.length 0) [] (by show l.length < 4611686018427387904; omega) (Nat.le_refl _) (by simp) (fun j h h' => by omega) (fun x => .inl ⟨rfl, fun j h h' => by omega⟩)
  rw [wi_eq (by omega) (by omega), e]; exact ⟨a', rfl, h1, h2⟩
theorem refBack_ok {l : List Int} (hl : l.length ≤ 1000000000) : ∃ b, colophonref12_Back.f l = some b ∧ b.length = l.length ∧ ∀ i, i < l.length → Prv l i (b.getD i 0) := by
  have k2 : ∀ (i : Nat), i < l.length → ∀ (p k : Nat), p < k → p ≤ i → (∀ j, p ≤ j → j < i → l.getD j 0 ≠ l.getD i 0) → ∃ v, colophonref12_Back.l2 l (i : Int) k ((p : Int) - 1) = some v ∧ Prv l i v := by
    intro i hil p
    induction p with
    | zero => intro k hk hp hn; cases k with
      | zero => omega
      | succ k => unfold colophonref12_Back.l2; rw [if_neg (by simp)]; exact ⟨_, rfl, .inl ⟨rfl, fun j hj => hn j (by omega) hj⟩⟩
    | succ p ih => intro k hk hp hn; cases k with
      | zero => omega
      | succ k =>
        unfold colophonref12_Back.l2
        rw [show (((p + 1 : Nat) : Int) - 1) = (p : Int) by omega, if_pos (by simp), at_g (by omega), Option.bind_some, at_g hil, Option.bind_some]
        by_cases e : l.getD p 0 = l.getD i 0
        · rw [if_neg (by rw [bne_iff_ne]; exact fun h => h e)]
          exact ⟨_, rfl, .inr ⟨p, rfl, by omega, e, fun j h1 h2 => hn j (by omega) h2⟩⟩
        · rw [if_pos (by rw [bne_iff_ne]; exact e), wi_eq (by omega) (by omega)]
          exact ih k (by omega) (by omega) (fun j h1 h2 => by
            by_cases h : j = p
            · subst h; exact e
            · exact hn j (by omega) h2)
  have key : ∀ (m k i : Nat) (b : List Int), l.length - i = m → m < k → i ≤ l.length → b.length = i → (∀ j, j < i → Prv l j (b.getD j 0)) → ∃ b', colophonref12_Back.l1 l k b (i : Int) = some b' ∧ b'.length = l.length ∧ ∀ j, j < l.length → Prv l j (b'.getD j 0) := by
    intro m
    induction m with
    | zero => intro k i b hm hk hi hb hp; cases k with
      | zero => omega
      | succ k => unfold colophonref12_Back.l1; rw [if_neg (by simp; omega)]; exact ⟨b, rfl, by omega, fun j hj => hp j (by omega)⟩
    | succ m ih => intro k i b hm hk hi hb hp; cases k with
      | zero => omega
      | succ k =>
        unfold colophonref12_Back.l1
        have hil : i < l.length := by omega
        obtain ⟨v, e, hv⟩ := k2 i hil i FU (by show i < 4611686018427387904; omega) (Nat.le_refl _) (fun j h1 h2 => by omega)
        rw [if_pos (by simp; omega), wi_eq (n := (i : Int) - 1) (by omega) (by omega), e, Option.bind_some, app?_eq (by simp; omega), Option.bind_some, wi_eq (by omega) (by omega), show ((i : Int) + 1) = ((i + 1 : Nat) : Int) by omega]
        refine ih k (i + 1) _ (by omega) (by omega) (by omega) (by simp [hb]) (fun j hj => ?_)
        rw [List.getD_eq_getElem?_getD]
        rcases Nat.lt_or_ge j i with h | h
        · rw [List.getElem?_append_left (by omega), ← List.getD_eq_getElem?_getD]; exact hp j h
        · have : j = i := by omega
          subst this
          rw [List.getElem?_append_right (by omega), hb, Nat.sub_self]; exact hv
  obtain ⟨b', e, h1, h2⟩ := key l.length FU 0 [] (by omega) (by show l.length < 4611686018427387904; omega) (by omega) rfl (fun j h => by omega)
  unfold colophonref12_Back.f
  rw [show ((0 : Nat) : Int) = 0 from rfl] at e
  rw [e]; exact ⟨b', rfl, h1, h2⟩
theorem refAhead_ok {l : List Int} (hl : l.length ≤ 1000000000) : ∃ b, colophonref12_Ahead.f l = some b ∧ b.length = l.length ∧ ∀ i, i < l.length → Nxt l i (b.getD i 0) := by
  have k2 : ∀ (i : Nat), i < l.length → ∀ (m p k : Nat), l.length - p = m → m < k → i < p → p ≤ l.length → (∀ j, i < j → j < p → l.getD j 0 ≠ l.getD i 0) → ∃ v, colophonref12_Ahead.l2 l (i : Int) k (p : Int) = some v ∧ Nxt l i v := by
    intro i hil m
    induction m with
    | zero => intro p k hm hk hip hp hn; cases k with
      | zero => omega
      | succ k => unfold colophonref12_Ahead.l2; rw [if_neg (by simp; omega)]; exact ⟨_, rfl, p, rfl, hip, hp, hn, fun h => by omega⟩
    | succ m ih => intro p k hm hk hip hp hn; cases k with
      | zero => omega
      | succ k =>
        unfold colophonref12_Ahead.l2
        rw [if_pos (by simp; omega), at_g (by omega), Option.bind_some, at_g hil, Option.bind_some]
        by_cases e : l.getD p 0 = l.getD i 0
        · rw [if_neg (by rw [bne_iff_ne]; exact fun h => h e)]
          exact ⟨_, rfl, p, rfl, hip, hp, hn, fun _ => e⟩
        · rw [if_pos (by rw [bne_iff_ne]; exact e), wi_eq (by omega) (by omega), show ((p : Int) + 1) = ((p + 1 : Nat) : Int) by omega]
          exact ih (p + 1) k (by omega) (by omega) (by omega) (by omega) (fun j h1 h2 => by
            by_cases h : j = p
            · subst h; exact e
            · exact hn j h1 (by omega))
  have key : ∀ (m k i : Nat) (b : List Int), l.length - i = m → m < k → i ≤ l.length → b.length = i → (∀ j, j < i → Nxt l j (b.getD j 0)) → ∃ b', colophonref12_Ahead.l1 l k b (i : Int) = some b' ∧ b'.length = l.length ∧ ∀ j, j < l.length → Nxt l j (b'.getD j 0) := by
    intro m
    induction m with
    | zero => intro k i b hm hk hi hb hp; cases k with
      | zero => omega
      | succ k => unfold colophonref12_Ahead.l1; rw [if_neg (by simp; omega)]; exact ⟨b, rfl, by omega, fun j hj => hp j (by omega)⟩
    | succ m ih => intro k i b hm hk hi hb hp; cases k with
      | zero => omega
      | succ k =>
        unfold colophonref12_Ahead.l1
        have hil : i < l.length := by omega
        obtain ⟨v, e, hv⟩ := k2 i hil (l.length - (i + 1)) (i + 1) FU rfl (by show l.length - (i + 1) < 4611686018427387904; omega) (by omega) (by omega) (fun j h1 h2 => by omega)
        rw [if_pos (by simp; omega), wi_eq (n := (i : Int) + 1) (by omega) (by omega), show ((i : Int) + 1) = ((i + 1 : Nat) : Int) by omega, e, Option.bind_some, app?_eq (by simp; omega), Option.bind_some]
        refine ih k (i + 1) _ (by omega) (by omega) (by omega) (by simp [hb]) (fun j hj => ?_)
        rw [List.getD_eq_getElem?_getD]
        rcases Nat.lt_or_ge j i with h | h
        · rw [List.getElem?_append_left (by omega), ← List.getD_eq_getElem?_getD]; exact hp j h
        · have : j = i := by omega
          subst this
          rw [List.getElem?_append_right (by omega), hb, Nat.sub_self]; exact hv
  obtain ⟨b', e, h1, h2⟩ := key l.length FU 0 [] (by omega) (by show l.length < 4611686018427387904; omega) (by omega) rfl (fun j h => by omega)
  unfold colophonref12_Ahead.f
  rw [show ((0 : Nat) : Int) = 0 from rfl] at e
  rw [e]; exact ⟨b', rfl, h1, h2⟩
theorem same_refl (a : List Int) (h : a.length ≤ 1000000000) : colophonref08_Same.f a a = some true := by
  unfold colophonref08_Same.f
  rw [if_neg (by simp)]
  have key : ∀ (m k i : Nat), a.length - i = m → m < k → colophonref08_Same.l1 a a k (i : Int) = some (.inr ()) := by
    intro m
    induction m with
    | zero => intro k i hm hk; cases k with
      | zero => omega
      | succ k => unfold colophonref08_Same.l1; rw [if_neg (by simp; omega)]
    | succ m ih => intro k i hm hk; cases k with
      | zero => omega
      | succ k =>
        unfold colophonref08_Same.l1
        rw [if_pos (by simp; omega), at_g (by omega), Option.bind_some, Option.bind_some, if_neg (by simp), wi_eq (by omega) (by omega), show ((i : Int) + 1) = ((i + 1 : Nat) : Int) by omega]
        exact ih k (i + 1) (by omega) (by omega)
  have := key a.length FU 0 (by omega) (by show a.length < 4611686018427387904; omega)
  rw [show ((0 : Nat) : Int) = 0 from rfl] at this
  rw [this]; rfl
theorem first_f : colophonlaw12_first.f = some true := by decide +kernel
end Docs
end Go.Proofs.Ythnlihpmpmhidaa
