/-
  How many of the first places are marked. No condition.
-/
import Derived.Test.YtmdemfbkdbilpaaPuPop
namespace Go.Proofs.Ytmdemfbkdbilpaa
open Go Go.Gol
set_option linter.unusedVariables false
set_option linter.unusedSimpArgs false
namespace Cnt
def cnt (B : Nat → Bool) : Nat → Nat
  | 0 => 0
  | n + 1 => cnt B n + if B n then 1 else 0
theorem cnt_add (B : Nat → Bool) (a b : Nat) : cnt B (a + b) = cnt B a + cnt (fun j => B (a + j)) b := by
  induction b with
  | zero => rfl
  | succ b ih => rw [← Nat.add_assoc]; simp only [cnt, ih]; omega
theorem cnt_congr {B C : Nat → Bool} {n : Nat} (h : ∀ j, j < n → B j = C j) : cnt B n = cnt C n := by
  induction n with
  | zero => rfl
  | succ n ih => simp only [cnt]; rw [ih (fun j hj => h j (by omega)), h n (by omega)]
theorem cnt_le (B : Nat → Bool) (n : Nat) : cnt B n ≤ n := by
  induction n with
  | zero => exact Nat.le_refl _
  | succ n ih => simp only [cnt]; split <;> omega
theorem cnt_mono (B : Nat → Bool) {a b : Nat} (h : a ≤ b) : cnt B a ≤ cnt B b := by
  obtain ⟨c, rfl⟩ := Nat.exists_eq_add_of_le h
  rw [cnt_add]; omega
theorem cnt_zero {B : Nat → Bool} {n : Nat} (h : ∀ j, j < n → B j = false) : cnt B n = 0 := by
  induction n with
  | zero => rfl
  | succ n ih => simp only [cnt]; rw [ih (fun j hj => h j (by omega)), h n (by omega)]; rfl
theorem cnt_past {B : Nat → Bool} {n m : Nat} (h : ∀ j, n ≤ j → B j = false) (hm : n ≤ m) : cnt B m = cnt B n := by
  obtain ⟨c, rfl⟩ := Nat.exists_eq_add_of_le hm
  rw [cnt_add, cnt_zero (B := fun j => B (n + j)) (fun j _ => h _ (by omega))]; rfl
theorem cnt_succ (B : Nat → Bool) (n : Nat) : cnt B (n + 1) = cnt B n + if B n then 1 else 0 := rfl
/-- the others among the first n -/
def oth (B : Nat → Bool) (n : Nat) (j : Nat) : Bool := decide (j < n) && !B j
theorem cnt_oth (B : Nat → Bool) (n m : Nat) (h : m ≤ n) : cnt (oth B n) m + cnt B m = m := by
  induction m with
  | zero => rfl
  | succ m ih =>
    have := ih (by omega)
    simp only [cnt]
    have e : oth B n m = !B m := by unfold oth; rw [decide_eq_true (by omega)]; rfl
    rw [e]
    cases B m <;> simp <;> omega
theorem oth_past (B : Nat → Bool) (n j : Nat) (h : n ≤ j) : oth B n j = false := by unfold oth; rw [decide_eq_false (by omega)]; rfl
/-- the place of the mark of a number -/
def Sel (B : Nat → Bool) (n : Nat) (k p : Int) : Prop := ((k < 0 ∨ (cnt B n : Int) ≤ k) ∧ p = -1) ∨ ∃ q : Nat, p = (q : Int) ∧ q < n ∧ B q = true ∧ (cnt B q : Int) = k
theorem Sel.uniq {B : Nat → Bool} {n : Nat} {k p p' : Int} (h : Sel B n k p) (h' : Sel B n k p') : p = p' := by
  have lt : ∀ q : Nat, q < n → B q = true → cnt B q < cnt B n := fun q hq hb => by
    have h1 := cnt_mono B (a := q + 1) (b := n) hq
    rw [cnt_succ, hb] at h1
    simp at h1; omega
  rcases h with ⟨h1, rfl⟩ | ⟨q, rfl, hq, hb, hc⟩
  · rcases h' with ⟨_, rfl⟩ | ⟨q', rfl, hq', hb', hc'⟩
    · rfl
    · have := lt q' hq' hb'; omega
  · rcases h' with ⟨h1, rfl⟩ | ⟨q', rfl, hq', hb', hc'⟩
    · have := lt q hq hb; omega
    · rcases Nat.lt_trichotomy q q' with h | h | h
      · have h1 := cnt_mono B (a := q + 1) (b := q') h
        rw [cnt_succ, hb] at h1; simp at h1; omega
      · rw [h]
      · have h1 := cnt_mono B (a := q' + 1) (b := q) h
        rw [cnt_succ, hb'] at h1; simp at h1; omega
theorem Sel.congr {B C : Nat → Bool} {n : Nat} {k p : Int} (h : Sel B n k p) (e : ∀ j, j < n → B j = C j) : Sel C n k p := by
  rcases h with ⟨h1, rfl⟩ | ⟨q, rfl, hq, hb, hc⟩
  · exact .inl ⟨by rwa [← cnt_congr e], rfl⟩
  · exact .inr ⟨q, rfl, hq, by rw [← e q hq]; exact hb, by rw [← cnt_congr (fun j hj => e j (by omega))]; exact hc⟩
/-- what a search by halves ends with -/
theorem Sel.found {B : Nat → Bool} {n : Nat} {k : Int} {p : Nat} (hk : 0 ≤ k) (hk2 : k < (cnt B n : Int)) (hp : p ≤ n) (h1 : ∀ j, j < p → (cnt B (j + 1) : Int) ≤ k) (h2 : p < n → k < (cnt B (p + 1) : Int)) : Sel B n k (p : Int) := by
  have hn : p < n := by
    rcases Nat.lt_or_ge p n with h | h
    · exact h
    · have e : p = n := by omega
      subst e
      rcases Nat.eq_zero_or_pos p with h0 | h0
      · subst h0; have : cnt B 0 = 0 := rfl; omega
      · have := h1 (p - 1) (by omega)
        rw [show p - 1 + 1 = p by omega] at this; omega
  have h3 := h2 hn
  have h4 : (cnt B p : Int) ≤ k := by
    rcases Nat.eq_zero_or_pos p with h0 | h0
    · subst h0; have : cnt B 0 = 0 := rfl; omega
    · have := h1 (p - 1) (by omega)
      rw [show p - 1 + 1 = p by omega] at this; exact this
  rw [cnt_succ] at h3
  refine .inr ⟨p, rfl, hn, ?_, ?_⟩
  · cases hb : B p with
    | true => rfl
    | false => rw [hb] at h3; simp at h3; omega
  · cases hb : B p with
    | true => rw [hb] at h3; simp at h3; omega
    | false => rw [hb] at h3; simp at h3; omega
theorem bl_cnt (n x : Nat) : (Pop.bl n x).sum = cnt (fun j => x.testBit j) n := by
  induction n generalizing x with
  | zero => rfl
  | succ n ih =>
    rw [show n + 1 = 1 + n by omega, cnt_add, show 1 + n = n + 1 by omega]
    simp only [Pop.bl, List.sum_cons]
    rw [ih (x / 2)]
    congr 1
    · simp only [cnt, Nat.testBit_zero]
      have h2 := Nat.mod_two_eq_zero_or_one x
      rcases h2 with h | h <;> simp [h]
    · refine cnt_congr (fun j _ => ?_)
      rw [show 1 + j = j + 1 by omega, Nat.testBit_succ]
theorem pop_cnt (x : Nat) : Pop.pop x = cnt (fun j => x.testBit j) 64 := bl_cnt 64 x
theorem pop_low (x s : Nat) (hs : s ≤ 64) : Pop.pop (x % 2 ^ s) = cnt (fun j => x.testBit j) s := by
  rw [pop_cnt]
  have e : cnt (fun j => (x % 2 ^ s).testBit j) 64 = cnt (fun j => (x % 2 ^ s).testBit j) s := cnt_past (fun j hj => by rw [Nat.testBit_mod_two_pow]; simp; omega) hs
  rw [e]
  exact cnt_congr (fun j hj => by rw [Nat.testBit_mod_two_pow]; simp [hj])
end Cnt
end Go.Proofs.Ytmdemfbkdbilpaa
