/-
  Documents as one row of symbols: what the references answer. No condition.
-/
import Derived.Test.YtmdemfbkdbilpaaGP1c
import Derived.Test.YtmdemfbkdbilpaaGI
namespace Go.Proofs.Ytmdemfbkdbilpaa
open Go Go.Gol
set_option linter.unusedVariables false
set_option linter.unusedSimpArgs false
set_option maxRecDepth 100000
namespace Text
theorem at_get {α : Type} {l : List α} {q : Nat} (d : α) (h : q < l.length) : at? l (q : Int) = some (l.getD q d) := by
  rw [at?_nat, List.getElem?_eq_getElem h]; simp [List.getD_eq_getElem?_getD, List.getElem?_eq_getElem h]
theorem at_g {l : List Int} {q : Nat} (h : q < l.length) : at? l (q : Int) = some (l.getD q 0) := at_get 0 h
abbrev D (l : List (List Int)) (i : Nat) : List Int := l.getD i []
def tot (l : List (List Int)) : Nat → Nat
  | 0 => 0
  | i + 1 => tot l i + (D l i).length
def stt (l : List (List Int)) (i : Nat) : Nat := tot l i + i
theorem stt_succ (l : List (List Int)) (i : Nat) : stt l (i + 1) = stt l i + (D l i).length + 1 := by simp only [stt, tot]; omega
theorem tot_mono (l : List (List Int)) {a b : Nat} (h : a ≤ b) : tot l a ≤ tot l b := by
  induction b with
  | zero => have : a = 0 := by omega
            subst this; exact Nat.le_refl _
  | succ b ih =>
    rcases Nat.lt_or_ge a (b + 1) with h' | h'
    · have := ih (by omega); simp only [tot]; omega
    · have : a = b + 1 := by omega
      subst this; exact Nat.le_refl _
theorem stt_mono (l : List (List Int)) {a b : Nat} (h : a ≤ b) : stt l a ≤ stt l b := by have := tot_mono l h; simp only [stt]; omega
theorem stt_lt (l : List (List Int)) {a b : Nat} (h : a < b) : stt l a + (D l a).length < stt l b := by have := stt_mono l (show a + 1 ≤ b from h); rw [stt_succ] at this; omega
theorem small_ok (l : List (List Int)) (hb : ∀ i, i < l.length → (D l i).length ≤ maxLen) (hl : l.length ≤ maxLen) (B C : Nat) (hB : B ≤ 1000000) (hC : C ≤ 1000000) : ∃ b, colophonref08_Small.f l (B : Int) (C : Int) = some b ∧ (b = true → l.length ≤ C ∧ tot l l.length ≤ B) := by
  unfold colophonref08_Small.f
  by_cases h : l.length > C
  · rw [if_pos (by simp; omega)]; exact ⟨false, rfl, fun h => by cases h⟩
  rw [if_neg (by simp; omega)]
  have key : ∀ (m k i : Nat), l.length - i = m → m < k → i ≤ l.length → tot l i ≤ B → ∃ o, colophonref08_Small.l1 l k ((B - tot l i : Nat) : Int) (i : Int) = some o ∧ ((∃ b, o = .inl b ∧ b = false) ∨ (o = .inr () ∧ tot l l.length ≤ B)) := by
    intro m
    induction m with
    | zero => intro k i hm hk hi ht; cases k with
      | zero => omega
      | succ k =>
        unfold colophonref08_Small.l1
        have : i = l.length := by omega
        subst this
        rw [if_neg (by simp)]; exact ⟨_, rfl, .inr ⟨rfl, ht⟩⟩
    | succ m ih => intro k i hm hk hi ht; cases k with
      | zero => omega
      | succ k =>
        unfold colophonref08_Small.l1
        have hil : i < l.length := by omega
        rw [if_pos (by simp; omega), at_get [] hil, Option.bind_some]
        by_cases hc : (D l i).length > B - tot l i
        · rw [if_pos (by rw [decide_eq_true_eq]; show ((D l i).length : Int) > _; omega)]; exact ⟨_, rfl, .inl ⟨_, rfl, rfl⟩⟩
        · rw [if_neg (by rw [decide_eq_true_eq]; show ¬ (((D l i).length : Int) > _); omega)]
          have e1 : tot l (i + 1) = tot l i + (D l i).length := rfl
          rw [wi_eq (n := ((B - tot l i : Nat) : Int) - ((l.getD i []).length : Int)) (by show _ ≤ ((B - tot l i : Nat) : Int) - ((D l i).length : Int); omega) (by omega), show ((B - tot l i : Nat) : Int) - ((l.getD i []).length : Int) = ((B - tot l (i + 1) : Nat) : Int) by show ((B - tot l i : Nat) : Int) - ((D l i).length : Int) = _; omega, wi_eq (by omega) (by omega), show ((i : Int) + 1) = ((i + 1 : Nat) : Int) by omega]
          exact ih k (i + 1) (by omega) (by omega) (by omega) (by omega)
  obtain ⟨o, e, ho⟩ := key l.length FU 0 (by omega) (by show l.length < 4611686018427387904; omega) (by omega) (Nat.zero_le _)
  rw [show ((0 : Nat) : Int) = 0 from rfl, show tot l 0 = 0 from rfl, Nat.sub_zero] at e
  rw [e, Option.bind_some]
  rcases ho with ⟨b, rfl, rfl⟩ | ⟨rfl, ht⟩
  · exact ⟨false, rfl, fun h => by cases h⟩
  · exact ⟨true, rfl, fun _ => ⟨by omega, ht⟩⟩
theorem place (l : List (List Int)) {n p : Nat} (h : p < stt l n) : ∃ d o, d < n ∧ o ≤ (D l d).length ∧ p = stt l d + o := by
  induction n with
  | zero => have : stt l 0 = 0 := rfl
            omega
  | succ n ih =>
    rcases Nat.lt_or_ge p (stt l n) with h' | h'
    · obtain ⟨d, o, h1, h2, h3⟩ := ih h'; exact ⟨d, o, by omega, h2, h3⟩
    · rw [stt_succ] at h; exact ⟨n, p - stt l n, by omega, by omega, by omega⟩
theorem refSym_len (l : List (List Int)) (h1 : l.length ≤ 256) (h2 : tot l l.length ≤ 65536) : ∃ r, colophonref08_Symbols.f l = some r ∧ r.length = stt l l.length := by
  have hst : stt l l.length = tot l l.length + l.length := rfl
  have k2 : ∀ (v : List Int), v.length ≤ 100000 → ∀ (m k o : Nat) (x : List Int), v.length - o = m → m < k → o ≤ v.length → x.length ≤ 200000 + o → ∃ r, colophonref08_Symbols.l2 l v k x (o : Int) = some r ∧ r.length = x.length + (v.length - o) := by
    intro v hv m
    induction m with
    | zero => intro k o x hm hk ho hx; cases k with
      | zero => omega
      | succ k => unfold colophonref08_Symbols.l2; rw [if_neg (by simp; omega)]; exact ⟨x, rfl, by omega⟩
    | succ m ih => intro k o x hm hk ho hx; cases k with
      | zero => omega
      | succ k =>
        unfold colophonref08_Symbols.l2
        rw [if_pos (by simp; omega), at_g (by omega), Option.bind_some, app?_eq (by simp; omega), Option.bind_some, wi_eq (n := (o : Int) + 1) (by omega) (by omega), show ((o : Int) + 1) = ((o + 1 : Nat) : Int) by omega]
        obtain ⟨r, e, hr⟩ := ih k (o + 1) (x ++ [wi (wi (v.getD o 0) + (l.length : Int))]) (by omega) (by omega) (by omega) (by simp; omega)
        exact ⟨r, e, by rw [hr, List.length_append, List.length_singleton]; omega⟩
  have k1 : ∀ (m k i : Nat) (x : List Int), l.length - i = m → m < k → i ≤ l.length → x.length = stt l i → ∃ r, colophonref08_Symbols.l1 l k x (i : Int) = some r ∧ r.length = stt l l.length := by
    intro m
    induction m with
    | zero => intro k i x hm hk hi hx; cases k with
      | zero => omega
      | succ k => unfold colophonref08_Symbols.l1; rw [if_neg (by simp; omega)]; exact ⟨x, rfl, by rw [hx, show i = l.length by omega]⟩
    | succ m ih => intro k i x hm hk hi hx; cases k with
      | zero => omega
      | succ k =>
        unfold colophonref08_Symbols.l1
        have hil : i < l.length := by omega
        have hlt := stt_lt l hil
        have hsu := stt_succ l i
        rw [if_pos (by simp; omega), at_get [] hil, Option.bind_some]
        obtain ⟨r, e, hr⟩ := k2 (l.getD i []) (by show (D l i).length ≤ _; omega) (l.getD i []).length FU 0 x (by omega) (by show (D l i).length < 4611686018427387904; omega) (by omega) (by omega)
        rw [show ((0 : Nat) : Int) = 0 from rfl] at e
        have hr' : r.length = x.length + (D l i).length := hr
        rw [e, Option.bind_some, app?_eq (by simp; omega), Option.bind_some, wi_eq (by omega) (by omega), show ((i : Int) + 1) = ((i + 1 : Nat) : Int) by omega]
        exact ih k (i + 1) _ (by omega) (by omega) (by omega) (by rw [List.length_append, List.length_singleton, hr']; omega)
  obtain ⟨r, e, hr⟩ := k1 l.length FU 0 [] (by omega) (by show l.length < 4611686018427387904; omega) (by omega) rfl
  unfold colophonref08_Symbols.f
  rw [show ((0 : Nat) : Int) = 0 from rfl] at e
  rw [e]; exact ⟨r, rfl, hr⟩
theorem refDoc_ok {l : List (List Int)} (hl : l.length ≤ 256) (ht : tot l l.length ≤ 65536) (d o : Nat) (hd : d < l.length) (ho : o ≤ (D l d).length) :
    colophonref08_Doc.f l ((stt l d + o : Nat) : Int) = some ((d : Int), (o : Int)) := by
  have hst : stt l l.length = tot l l.length + l.length := rfl
  have hlt := stt_lt l hd
  have key : ∀ (m k i : Nat), d - i = m → m < k → i ≤ d → colophonref08_Doc.l1 l k ((stt l d + o - stt l i : Nat) : Int) (i : Int) = some (.inl ((d : Int), (o : Int))) := by
    intro m
    induction m with
    | zero => intro k i hm hk hi; cases k with
      | zero => omega
      | succ k =>
        have : i = d := by omega
        subst this
        unfold colophonref08_Doc.l1
        rw [if_pos (by simp; omega), at_get [] hd, Option.bind_some, if_pos (by show decide (_ ≤ ((D l i).length : Int)) = true; rw [decide_eq_true_eq]; omega), Nat.add_sub_cancel_left]
    | succ m ih => intro k i hm hk hi; cases k with
      | zero => omega
      | succ k =>
        unfold colophonref08_Doc.l1
        have h1 := stt_mono l (show i + 1 ≤ d by omega)
        have h2 := stt_succ l i
        rw [if_pos (by simp; omega), at_get [] (by omega), Option.bind_some]
        show (if decide (((stt l d + o - stt l i : Nat) : Int) ≤ ((D l i).length : Int)) then _ else colophonref08_Doc.l1 l k (wi (((stt l d + o - stt l i : Nat) : Int) - wi (((D l i).length : Int) + 1))) _) = _
        rw [if_neg (by rw [decide_eq_true_eq]; omega), wi_eq (n := ((D l i).length : Int) + 1) (by omega) (by omega), wi_eq (n := ((stt l d + o - stt l i : Nat) : Int) - (((D l i).length : Int) + 1)) (by omega) (by omega), show ((stt l d + o - stt l i : Nat) : Int) - (((D l i).length : Int) + 1) = ((stt l d + o - stt l (i + 1) : Nat) : Int) by omega, wi_eq (by omega) (by omega), show ((i : Int) + 1) = ((i + 1 : Nat) : Int) by omega]
        exact ih k (i + 1) (by omega) (by omega) (by omega)
  have := key d FU 0 (by omega) (by show d < 4611686018427387904; omega) (by omega)
  rw [show stt l 0 = 0 from rfl, Nat.sub_zero, show ((0 : Nat) : Int) = 0 from rfl] at this
  unfold colophonref08_Doc.f
  rw [if_neg (by simp; omega), this]; rfl
theorem docs_byte {e e2 : TypeId} {l : List (List Int)} (F : Fits (.slice e (.slice e2 (.int .u8))) l) : (∀ i, i < l.length → (D l i).length ≤ maxLen) ∧ l.length ≤ maxLen := by
  refine ⟨fun i hi => ?_, F.1⟩
  have e : D l i = l[i] := by show l.getD i [] = _; rw [List.getD_eq_getElem?_getD, List.getElem?_eq_getElem hi]; rfl
  rw [e]; exact (F.2 _ (List.getElem_mem hi)).1
end Text
end Go.Proofs.Ytmdemfbkdbilpaa
