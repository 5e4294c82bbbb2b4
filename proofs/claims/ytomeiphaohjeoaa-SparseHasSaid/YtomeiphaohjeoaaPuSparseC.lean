/-
  The laws of layer sparse, in plain words: what is in the set. No condition.
-/
import Derived.Test.YtomeiphaohjeoaaPuSparseR
import Derived.Test.YtomeiphaohjeoaaGSparseHas
namespace Go.Proofs.Ytomeiphaohjeoaa
open Go Go.Gol
set_option linter.unusedVariables false
set_option linter.unusedSimpArgs false
set_option maxRecDepth 100000
namespace Sparse
theorem below_ok {u : Nat} {l : List Int} (hG : Good u l) (hl : l.length ≤ 100000) (x : Int) : ∃ r : Nat, colophonref03_Below.f l x = some (r : Int) ∧ r ≤ l.length ∧ (∀ j, j < r → l.getD j 0 < x) ∧ ∀ j, r ≤ j → j < l.length → x ≤ l.getD j 0 := by
  have key : ∀ (m k i r : Nat), l.length - i = m → m < k → i ≤ l.length → r ≤ i → (∀ j, j < r → l.getD j 0 < x) → (∀ j, r ≤ j → j < i → x ≤ l.getD j 0) → ∃ r' : Nat, colophonref03_Below.l1 l x k (r : Int) (i : Int) = some (r' : Int) ∧ r' ≤ l.length ∧ (∀ j, j < r' → l.getD j 0 < x) ∧ ∀ j, r' ≤ j → j < l.length → x ≤ l.getD j 0 := by
    intro m
    induction m with
    | zero => intro k i r hm hk hi hr h1 h2; cases k with
      | zero => omega
      | succ k => unfold colophonref03_Below.l1; rw [if_neg (by simp; omega)]
                  exact ⟨r, rfl, by omega, h1, fun j a b => h2 j a (by omega)⟩
    | succ m ih => intro k i r hm hk hi hr h1 h2; cases k with
      | zero => omega
      | succ k =>
        unfold colophonref03_Below.l1
        have hil : i < l.length := by omega
        rw [if_pos (by simp; omega), at_g hil, Option.bind_some, wi_eq (n := (i : Int) + 1) (by omega) (by omega), show ((i : Int) + 1) = ((i + 1 : Nat) : Int) by omega]
        by_cases h : l.getD i 0 < x
        · have hri : r = i := by
            rcases Nat.lt_or_ge r i with h' | h'
            · have := h2 r (Nat.le_refl _) h'; have := hG.lt h' hil; omega
            · omega
          rw [if_pos (by simpa using h), wi_eq (by omega) (by omega), show ((r : Int) + 1) = ((r + 1 : Nat) : Int) by omega]
          exact ih k (i + 1) (r + 1) (by omega) (by omega) (by omega) (by omega) (fun j hj => by
            by_cases e : j = i
            · rw [e]; exact h
            · exact h1 j (by omega)) (fun j a b => by omega)
        · rw [if_neg (by simpa using h)]
          exact ih k (i + 1) r (by omega) (by omega) (by omega) (by omega) h1 (fun j a b => by
            by_cases e : j = i
            · rw [e]; omega
            · exact h2 j a (by omega))
  obtain ⟨r, e, h⟩ := key l.length FU 0 0 (by omega) (by show l.length < 4611686018427387904; omega) (by omega) (by omega) (fun j h => by omega) (fun j a b => by omega)
  rw [show ((0 : Nat) : Int) = 0 from rfl] at e
  unfold colophonref03_Below.f
  rw [e]; exact ⟨r, rfl, h⟩
theorem wipe1 (l y : List Int) (hy : y.length ≤ 1000000) : ∀ (m k i : Nat) (x : List Int), y.length - i = m → m < k → x.length = y.length → colophonlaw03_SparseHas.l1 l y k x (i : Int) = some () := by
  intro m
  induction m with
  | zero => intro k i x hm hk hx; cases k with
    | zero => omega
    | succ k => unfold colophonlaw03_SparseHas.l1; rw [if_neg (by simp; omega)]
  | succ m ih => intro k i x hm hk hx; cases k with
    | zero => omega
    | succ k =>
      unfold colophonlaw03_SparseHas.l1
      rw [if_pos (by simp; omega), at_g (by omega), Option.bind_some, set?_nat _ (by omega), Option.bind_some, wi_eq (by omega) (by omega), show ((i : Int) + 1) = ((i + 1 : Nat) : Int) by omega]
      exact ih k (i + 1) _ (by omega) (by omega) (by simpa using hx)
theorem wipe4 (y : List Int) (hy : y.length ≤ 1000000) : ∀ (m k i : Nat) (x : List Int), y.length - i = m → m < k → x.length = y.length → colophonlaw03_SparseHas.l4 y k x (i : Int) = some () := by
  intro m
  induction m with
  | zero => intro k i x hm hk hx; cases k with
    | zero => omega
    | succ k => unfold colophonlaw03_SparseHas.l4; rw [if_neg (by simp; omega)]
  | succ m ih => intro k i x hm hk hx; cases k with
    | zero => omega
    | succ k =>
      unfold colophonlaw03_SparseHas.l4
      rw [if_pos (by simp; omega), at_g (by omega), Option.bind_some, set?_nat _ (by omega), Option.bind_some, wi_eq (by omega) (by omega), show ((i : Int) + 1) = ((i + 1 : Nat) : Int) by omega]
      exact ih k (i + 1) _ (by omega) (by omega) (by simpa using hx)
theorem loop3 {S : Int × Int × Int × (Option (Int × (List Int) × (List Int) × Int)) × (Option (Int × Int × (List Int))) × (Option (Int × Int × (List Int)))} {u : Nat} {l : List Int} (h : SetOk S u l) (hG : Good u l) (hu : u ≤ 4194304) : ∀ (m k i : Nat), l.length - i = m → m < k → colophonlaw03_SparseHas.l3 l S k (i : Int) = some (.inr ()) := by
  have hlen := hG.len
  intro m
  induction m with
  | zero => intro k i hm hk; cases k with
    | zero => omega
    | succ k => unfold colophonlaw03_SparseHas.l3; rw [if_neg (by simp; omega)]
  | succ m ih => intro k i hm hk; cases k with
    | zero => omega
    | succ k =>
      unfold colophonlaw03_SparseHas.l3
      rw [if_pos (by simp; omega), at_g (by omega), Option.bind_some, at_ok h hG hu (by omega), Option.bind_some, if_neg (by simp), wi_eq (by omega) (by omega), show ((i : Int) + 1) = ((i + 1 : Nat) : Int) by omega]
      exact ih k (i + 1) (by omega) (by omega)
theorem loop5 {S : Int × Int × Int × (Option (Int × (List Int) × (List Int) × Int)) × (Option (Int × Int × (List Int))) × (Option (Int × Int × (List Int)))} {u : Nat} {l : List Int} (h : SetOk S u l) (hG : Good u l) (hu : u ≤ 4194304) : ∀ (m k i : Nat), l.length - i = m → m < k → colophonlaw03_SparseHas.l5 l S k (i : Int) = some (.inr ()) := by
  have hlen := hG.len
  intro m
  induction m with
  | zero => intro k i hm hk; cases k with
    | zero => omega
    | succ k => unfold colophonlaw03_SparseHas.l5; rw [if_neg (by simp; omega)]
  | succ m ih => intro k i hm hk; cases k with
    | zero => omega
    | succ k =>
      unfold colophonlaw03_SparseHas.l5
      rw [if_pos (by simp; omega), at_g (by omega), Option.bind_some, at_ok h hG hu (by omega), Option.bind_some, if_neg (by simp), wi_eq (by omega) (by omega), show ((i : Int) + 1) = ((i + 1 : Nat) : Int) by omega]
      exact ih k (i + 1) (by omega) (by omega)
theorem loop6 {S : Int × Int × Int × (Option (Int × (List Int) × (List Int) × Int)) × (Option (Int × Int × (List Int))) × (Option (Int × Int × (List Int)))} {u : Nat} {l : List Int} (h : SetOk S u l) (hG : Good u l) (hu : u ≤ 4194304) : ∀ (m k i : Nat), l.length - i = m → m < k → colophonlaw03_SparseHas.l6 l S k (i : Int) = some (.inr ()) := by
  have hlen := hG.len
  intro m
  induction m with
  | zero => intro k i hm hk; cases k with
    | zero => omega
    | succ k => unfold colophonlaw03_SparseHas.l6; rw [if_neg (by simp; omega)]
  | succ m ih => intro k i hm hk; cases k with
    | zero => omega
    | succ k =>
      unfold colophonlaw03_SparseHas.l6
      rw [if_pos (by simp; omega), at_g (by omega), Option.bind_some, at_ok h hG hu (by omega), Option.bind_some, if_neg (by simp), wi_eq (by omega) (by omega), show ((i : Int) + 1) = ((i + 1 : Nat) : Int) by omega]
      exact ih k (i + 1) (by omega) (by omega)
end Sparse
open Sparse
theorem pure_SparseHas (a0 : Int) (F0 : Fits (.int .i64) a0) (l1 : List Int) (F1 : Fits (.slice 3 (.int .i64)) l1) (a2 : Int) (F2 : Fits (.int .i64) a2) : colophonlaw03_SparseHas.f a0 l1 a2 = some true := by
  unfold colophonlaw03_SparseHas.f
  rw [first_f, Option.bind_some, if_neg (by simp)]
  by_cases h1 : l1.length > 1000
  · rw [if_pos (by simp; omega)]
  rw [if_neg (by simp; omega)]
  obtain ⟨b, eb, hb⟩ := right_ok (u := a0) (l := l1) (by omega)
  by_cases h2 : a0 > 50000
  · rw [if_pos (by simpa using h2)]
    by_cases h3 : l1.length > 0
    · rw [if_pos (by simpa [List.length_pos_iff] using h3)]
    have hnil : l1 = [] := List.eq_nil_of_length_eq_zero (by omega)
    subst hnil
    rw [if_neg (by simp), app?_eq (by simp), Option.bind_some, List.nil_append]
    cases b with
    | false =>
      rw [new_bad (by simp) (fun h => by have := hb.2 h; cases this), Option.bind_some, eb, Option.bind_some]; rfl
    | true =>
      obtain ⟨h0, h4, hG⟩ := hb.1 rfl
      obtain ⟨u, rfl⟩ : ∃ u : Nat, a0 = (u : Int) := ⟨a0.toNat, by omega⟩
      rw [Int.toNat_natCast] at hG
      have hu : u ≤ 4194304 := by omega
      obtain ⟨S, eS, hS⟩ := new_ok hu (.inr rfl) hG
      obtain ⟨r, er, hr⟩ := rank_ok hS hG hu a2
      obtain ⟨r', er', hr'⟩ := below_ok hG (by simp) a2
      have hrr : r' = r := rank_uniq hr' hr
      subst hrr
      have hr0 : r' = 0 := by have := hr.1; simpa using this
      obtain ⟨c, ec, hc⟩ := has_ok hS hG hu a2
      have hcf : c = false := by
        cases c with
        | false => rfl
        | true => obtain ⟨j, hj, _⟩ := hc.1 rfl; simp at hj
      have ew := wipe1 [] [] (by simp) 0 FU 0 [] (by simp) (by show 0 < 4611686018427387904; omega) rfl
      have e3 := loop3 hS hG hu 0 FU 0 (by simp) (by show 0 < 4611686018427387904; omega)
      rw [show ((0 : Nat) : Int) = 0 from rfl] at ew e3
      have ewd : ∃ W : List Int × List Int, sparse_Set_Words.f (some S) = some W ∧ colophonref03_Words.f (u : Int) [] = some W ∧ W.1.length ≤ 1000000 ∧ W.2.length ≤ 10000000 := by
        obtain ⟨w, m, V, U1, U2, xs, rfl, hsh, hB, hV, hP, hx⟩ := id hS
        have hm := (hsh.zero rfl).1
        have e1 : U1 = [] := List.eq_nil_of_length_eq_zero (by have := hB.len; omega)
        have e2 : U2 = [] := List.eq_nil_of_length_eq_zero (by have := hP.len; rw [this]; unfold Pack.need; simp)
        subst e1 e2
        exact ⟨([], []), rfl, rfl, by simp, by simp⟩
      obtain ⟨W, w1, w2, w3, w4⟩ := ewd
      rw [eS, Option.bind_some, eb, Option.bind_some, if_neg (by simp)]
      simp only []
      rw [Option.bind_some, ew, Option.bind_some, if_neg (by simp), len_ok hS, Option.bind_some, if_neg (by simp), bound_ok hS, Option.bind_some, if_neg (by simp), er, Option.bind_some, er', Option.bind_some, if_neg (by simp), ec, Option.bind_some, Option.bind_some, if_neg (by rw [hr0]; simp), hcf, if_neg (by simp), e3, Option.bind_some]
      simp only []
      rw [w1, Option.bind_some, w2, Option.bind_some, Refw.same_refl _ (by omega), Option.bind_some, if_pos rfl, Refw.same_refl _ (by omega), Option.bind_some, if_pos rfl, at_out hS (.inr (Int.le_refl _)), Option.bind_some, if_pos (by simp), at_out hS (.inl (by omega))]; rfl
  rw [if_neg (by simpa using h2), app?_eq (by simp; omega), Option.bind_some, List.nil_append]
  cases b with
  | false =>
    rw [new_bad (by omega) (fun h => by have := hb.2 h; cases this), Option.bind_some, eb, Option.bind_some]; rfl
  | true =>
    obtain ⟨h0, h4, hG⟩ := hb.1 rfl
    obtain ⟨u, rfl⟩ : ∃ u : Nat, a0 = (u : Int) := ⟨a0.toNat, by omega⟩
    rw [Int.toNat_natCast] at hG
    have hu : u ≤ 4194304 := by omega
    obtain ⟨S, eS, hS⟩ := new_ok hu (.inl (by omega)) hG
    obtain ⟨r, er, hr⟩ := rank_ok hS hG hu a2
    obtain ⟨r', er', hr'⟩ := below_ok hG (by omega) a2
    have hrr : r' = r := rank_uniq hr' hr
    subst hrr
    obtain ⟨c, ec, hc⟩ := has_ok hS hG hu a2
    have ew := wipe4 l1 (by omega) l1.length FU 0 l1 (by omega) (by show l1.length < 4611686018427387904; omega) rfl
    have e5 := loop5 hS hG hu l1.length FU 0 (by omega) (by show l1.length < 4611686018427387904; omega)
    have e6 := loop6 hS hG hu l1.length FU 0 (by omega) (by show l1.length < 4611686018427387904; omega)
    rw [show ((0 : Nat) : Int) = 0 from rfl] at ew e5 e6
    obtain ⟨W1, W2, w1, w2, w3, w4⟩ := Sparse.words_ok hS hG (by omega)
    rw [eS, Option.bind_some, eb, Option.bind_some, if_neg (by simp)]
    simp only []
    rw [Option.bind_some, ew, Option.bind_some, if_neg (by simp), len_ok hS, Option.bind_some, if_neg (by simp), bound_ok hS, Option.bind_some, if_neg (by simp), er, Option.bind_some, er', Option.bind_some, if_neg (by simp), ec, Option.bind_some, Option.bind_some]
    by_cases hrl : r' < l1.length
    · have em : imin (r' : Int) (wi ((l1.length : Int) - 1)) = (r' : Int) := by rw [wi_eq (by omega) (by omega)]; unfold imin; split <;> omega
      have hcb : c = (l1.getD r' 0 == a2) := by
        rw [Bool.eq_iff_iff, hc, beq_iff_eq]
        refine ⟨fun ⟨j, hj, e⟩ => ?_, fun e => ⟨r', hrl, e⟩⟩
        rcases Nat.lt_trichotomy j r' with h | h | h
        · have := hr.2.1 j h; omega
        · rw [← h]; exact e
        · have := hr.2.2 r' (Nat.le_refl _) hrl; have := hG.lt h hj; omega
      rw [if_pos (by simp; omega), Option.bind_some, em, at_g hrl, Option.bind_some, hcb, if_neg (by simp), e5, Option.bind_some]
      simp only []
      rw [w1, Option.bind_some, w2, Option.bind_some]
      simp only []
      rw [Refw.same_refl _ (by omega), Option.bind_some, if_pos rfl, Refw.same_refl _ (by omega), Option.bind_some, if_pos rfl, at_out hS (.inr (Int.le_refl _)), Option.bind_some, if_pos (by simp), at_out hS (.inl (by omega))]; rfl
    · have hcf : c = false := by
        cases c with
        | false => rfl
        | true => obtain ⟨j, hj, e⟩ := hc.1 rfl; have := hr.2.1 j (by omega); omega
      rw [if_neg (by simp; omega), hcf, if_neg (by simp), e6, Option.bind_some]
      simp only []
      rw [w1, Option.bind_some, w2, Option.bind_some]
      simp only []
      rw [Refw.same_refl _ (by omega), Option.bind_some, if_pos rfl, Refw.same_refl _ (by omega), Option.bind_some, if_pos rfl, at_out hS (.inr (Int.le_refl _)), Option.bind_some, if_pos (by simp), at_out hS (.inl (by omega))]; rfl
end Go.Proofs.Ytomeiphaohjeoaa
