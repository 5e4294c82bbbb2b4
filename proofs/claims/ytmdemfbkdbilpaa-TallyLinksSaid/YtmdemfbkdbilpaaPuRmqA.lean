/-
  The plain laws of layer rmq: the table of least numbers. No condition.
-/
import Derived.Test.YtmdemfbkdbilpaaGP1
import Derived.Test.YtmdemfbkdbilpaaGI
namespace Go.Proofs.Ytmdemfbkdbilpaa
open Go Go.Gol
set_option linter.unusedVariables false
set_option linter.unusedSimpArgs false
set_option maxRecDepth 100000
namespace Rmq
theorem at_get {l : List Int} {q : Nat} (h : q < l.length) : at? l (q : Int) = some (l.getD q 0) := by
  rw [at?_nat, List.getElem?_eq_getElem h]; simp [List.getD_eq_getElem?_getD, List.getElem?_eq_getElem h]
/-- the first place of the least number of the places S; -1: there is none -/
def Best (l : List Int) (S : Nat → Prop) (r : Int) : Prop :=
  ((∀ j, ¬ S j) ∧ r = -1) ∨ ∃ q : Nat, r = (q : Int) ∧ S q ∧ ∀ j, S j → l.getD q 0 ≤ l.getD j 0 ∧ (j < q → l.getD q 0 < l.getD j 0)
theorem Best.uniq {l : List Int} {S : Nat → Prop} {r r' : Int} (h : Best l S r) (h' : Best l S r') : r = r' := by
  rcases h with ⟨h1, rfl⟩ | ⟨q, rfl, hq, hm⟩
  · rcases h' with ⟨_, rfl⟩ | ⟨q', rfl, hq', _⟩
    · rfl
    · exact absurd hq' (h1 q')
  · rcases h' with ⟨h1, rfl⟩ | ⟨q', rfl, hq', hm'⟩
    · exact absurd hq (h1 q)
    · have a1 := hm q' hq'
      have a2 := hm' q hq
      rcases Nat.lt_trichotomy q q' with h | h | h
      · have := a2.2 h; omega
      · rw [h]
      · have := a1.2 h; omega
theorem Best.congr {l : List Int} {S T : Nat → Prop} {r : Int} (h : Best l S r) (e : ∀ j, S j ↔ T j) : Best l T r := by
  have : S = T := funext fun j => propext (e j)
  subst this; exact h
theorem Best.lt {l : List Int} {S : Nat → Prop} {r : Int} (h : Best l S r) : -1 ≤ r := by
  rcases h with ⟨_, rfl⟩ | ⟨q, rfl, _⟩ <;> omega
theorem better_ok {l : List Int} {rows : List (List Int)} {S T : Nat → Prop} {x y : Int} (hx : Best l S x) (hy : Best l T y) (hS : ∀ j, S j → j < l.length) (hT : ∀ j, T j → j < l.length) :
    ∃ z, rmq_Table_better.f (some (l, rows)) x y = some z ∧ Best l (fun j => S j ∨ T j) z := by
  unfold rmq_Table_better.f
  rcases hx with ⟨h1, rfl⟩ | ⟨q, rfl, hq, hm⟩
  · rw [if_pos (by simp)]
    exact ⟨y, rfl, hy.congr fun j => ⟨.inr, fun h => h.resolve_left (h1 j)⟩⟩
  · rw [if_neg (by simp)]
    rcases hy with ⟨h1, rfl⟩ | ⟨p, rfl, hp, hn⟩
    · rw [if_pos (by simp)]
      exact ⟨_, rfl, .inr ⟨q, rfl, .inl hq, fun j hj => hm j (hj.resolve_right (h1 j))⟩⟩
    · rw [if_neg (by simp)]
      simp only [Option.bind_some]
      rw [at_get (hS q hq), Option.bind_some, at_get (hT p hp), Option.bind_some]
      by_cases c1 : l.getD q 0 < l.getD p 0
      · rw [if_pos (by simpa using c1)]
        refine ⟨_, rfl, .inr ⟨q, rfl, .inl hq, fun j hj => ?_⟩⟩
        rcases hj with hj | hj
        · exact hm j hj
        · have := hn j hj; exact ⟨by omega, fun _ => by omega⟩
      · rw [if_neg (by simpa using c1)]
        by_cases c2 : l.getD q 0 = l.getD p 0
        · rw [if_pos (by simpa using c2)]
          by_cases c3 : q < p
          · rw [if_pos (by simpa using c3)]
            refine ⟨_, rfl, .inr ⟨q, rfl, .inl hq, fun j hj => ?_⟩⟩
            rcases hj with hj | hj
            · exact hm j hj
            · have := hn j hj; exact ⟨by omega, fun h => by have := this.2 (by omega); omega⟩
          · rw [if_neg (by simpa using c3)]
            refine ⟨_, rfl, .inr ⟨p, rfl, .inr hp, fun j hj => ?_⟩⟩
            rcases hj with hj | hj
            · have := hm j hj; exact ⟨by omega, fun h => by have := this.2 (by omega); omega⟩
            · exact hn j hj
        · rw [if_neg (by simpa using c2)]
          refine ⟨_, rfl, .inr ⟨p, rfl, .inr hp, fun j hj => ?_⟩⟩
          rcases hj with hj | hj
          · have := hm j hj; exact ⟨by omega, fun _ => by omega⟩
          · exact hn j hj
theorem scan_ok {l : List Int} {rows : List (List Int)} (hl : l.length ≤ 4194304) (a b : Nat) (hb : b ≤ l.length) :
    ∃ r, rmq_Table_scan.f (some (l, rows)) (a : Int) (b : Int) = some r ∧ Best l (fun j => a ≤ j ∧ j < b) r := by
  have key : ∀ (m k i : Nat) (x : Int), b - i = m → m < k → Best l (fun j => a ≤ j ∧ j < i) x → a ≤ i →
      ∃ r, rmq_Table_scan.l1 (some (l, rows)) (b : Int) k x (i : Int) = some r ∧ Best l (fun j => a ≤ j ∧ j < max b i) r := by
    intro m
    induction m with
    | zero =>
      intro k i x hm hk hx hi; cases k with
      | zero => omega
      | succ k => unfold rmq_Table_scan.l1; rw [if_neg (by simp; omega)]; exact ⟨x, rfl, hx.congr fun j => by omega⟩
    | succ m ih =>
      intro k i x hm hk hx hi; cases k with
      | zero => omega
      | succ k =>
        unfold rmq_Table_scan.l1
        obtain ⟨z, hz, hz'⟩ := better_ok (rows := rows) hx (y := (i : Int)) (T := fun j => j = i) (.inr ⟨i, rfl, rfl, fun j hj => by subst hj; exact ⟨Int.le_refl _, fun h => by omega⟩⟩) (fun j hj => by omega) (fun j hj => by omega)
        rw [if_pos (by simp; omega), hz, Option.bind_some, wi_eq (by omega) (by omega), show ((i : Int) + 1) = ((i + 1 : Nat) : Int) by omega]
        obtain ⟨r, h1, h2⟩ := ih k (i + 1) z (by omega) (by omega) (hz'.congr fun j => by omega) (by omega)
        exact ⟨r, h1, h2.congr fun j => by omega⟩
  obtain ⟨r, h1, h2⟩ := key (b - a) FU a (-1) rfl (by show b - a < 4611686018427387904; omega) (.inl ⟨fun j => by omega, rfl⟩) (Nat.le_refl _)
  unfold rmq_Table_scan.f
  rw [h1]
  exact ⟨r, rfl, h2.congr fun j => by omega⟩
def nb (n : Nat) : Nat := (n + 31) / 32
/-- a row of the table: of so many blocks from each on -/
def Row (l : List Int) (w : Nat) (row : List Int) : Prop := row.length = nb l.length - (w - 1) ∧ ∀ i, i < row.length → Best l (fun j => 32 * i ≤ j ∧ j < min (32 * (i + w)) l.length) (row.getD i 0)
theorem clone_f (l : List Int) (h : l.length ≤ 17592186044416) : slices_Clone_28.f l = some l := by
  unfold slices_Clone_28.f; rw [app?_eq (by simpa using h)]; rfl
theorem getD_append_lt {xs : List Int} {y : Int} {i : Nat} (h : i < xs.length) : (xs ++ [y]).getD i 0 = xs.getD i 0 := by
  simp [List.getD_eq_getElem?_getD, List.getElem?_append_left h]
theorem getD_append_eq {xs : List Int} {y : Int} : (xs ++ [y]).getD xs.length 0 = y := by
  simp [List.getD_eq_getElem?_getD]
theorem new1 {l : List Int} (hl : l.length ≤ 4194304) : ∃ row, rmq_New.l1 l l FU [] 0 = some row ∧ Row l 1 row := by
  have key : ∀ (m k i : Nat) (row : List Int), nb l.length - i = m → m < k → row.length = i → i ≤ nb l.length → (∀ q, q < i → Best l (fun j => 32 * q ≤ j ∧ j < min (32 * (q + 1)) l.length) (row.getD q 0)) →
      ∃ row', rmq_New.l1 l l k row ((32 * i : Nat) : Int) = some row' ∧ Row l 1 row' := by
    intro m
    induction m with
    | zero =>
      intro k i row hm hk hr hi hq; cases k with
      | zero => omega
      | succ k =>
        unfold rmq_New.l1; unfold nb at hm hi; rw [if_neg (by simp; omega)]
        exact ⟨row, rfl, by unfold nb; omega, fun q h => hq q (by omega)⟩
    | succ m ih =>
      intro k i row hm hk hr hi hq; cases k with
      | zero => omega
      | succ k =>
        unfold rmq_New.l1
        have hi2 : 32 * i < l.length := by unfold nb at hm; omega
        have e1 : imin (wi (((32 * i : Nat) : Int) + 32)) (l.length : Int) = ((min (32 * (i + 1)) l.length : Nat) : Int) := by
          rw [wi_eq (by omega) (by omega)]; unfold imin; split <;> omega
        obtain ⟨r, h1, h2⟩ := scan_ok (rows := []) hl (32 * i) (min (32 * (i + 1)) l.length) (by omega)
        rw [if_pos (by simp; omega), e1, h1, Option.bind_some, app?_eq (by simp; unfold nb at hi; omega), Option.bind_some, wi_eq (by omega) (by omega), show (((32 * i : Nat) : Int) + 32) = ((32 * (i + 1) : Nat) : Int) by omega]
        refine ih k (i + 1) (row ++ [r]) (by omega) (by omega) (by simp [hr]) (by unfold nb; omega) (fun q hq' => ?_)
        by_cases h : q < i
        · rw [getD_append_lt (by omega)]; exact hq q h
        · have : q = row.length := by omega
          subst this; rw [getD_append_eq, hr]; exact h2
  have := key (nb l.length) FU 0 [] (by omega) (by show nb l.length < 4611686018427387904; unfold nb; omega) rfl (by omega) (fun q h => by omega)
  exact this
theorem new3 {l row : List Int} {rows : List (List Int)} {q : List Int × List (List Int)} {w : Nat} (hl : l.length ≤ 4194304) (hq : q.1 = l) (hw : 1 ≤ w) (hw2 : w ≤ 8388608) (hr : Row l w row) :
    ∃ next, rmq_New.l3 row (w : Int) q rows FU [] 0 = some next ∧ Row l (2 * w) next := by
  have hrl : row.length ≤ 4194304 := by rw [hr.1]; unfold nb; omega
  have key : ∀ (m k i : Nat) (next : List Int), row.length - w - i = m → m < k → next.length = i → i ≤ row.length - w → (∀ q, q < i → Best l (fun j => 32 * q ≤ j ∧ j < min (32 * (q + 2 * w)) l.length) (next.getD q 0)) →
      ∃ next', rmq_New.l3 row (w : Int) q rows k next (i : Int) = some next' ∧ Row l (2 * w) next' := by
    intro m
    induction m with
    | zero =>
      intro k i next hm hk hn hi hqq; cases k with
      | zero => omega
      | succ k =>
        unfold rmq_New.l3
        rw [wi_eq (by omega) (by omega), if_neg (by simp; omega)]
        exact ⟨next, rfl, by have := hr.1; omega, fun q h => hqq q (by omega)⟩
    | succ m ih =>
      intro k i next hm hk hn hi hqq; cases k with
      | zero => omega
      | succ k =>
        unfold rmq_New.l3
        have hnb : nb l.length ≤ (l.length + 31) / 32 := Nat.le_refl _
        have h0 := hr.1
        obtain ⟨z, h1, h2⟩ := better_ok (rows := rows) (hr.2 i (by omega)) (hr.2 (i + w) (by omega)) (fun j h => by omega) (fun j h => by omega)
        rw [wi_eq (n := (i : Int) + (w : Int)) (by omega) (by omega), show ((i : Int) + (w : Int)) = ((i + w : Nat) : Int) by omega, if_pos (by simp; omega), at_get (by omega), Option.bind_some, at_get (by omega), Option.bind_some, hq, h1, Option.bind_some, app?_eq (by simp; omega), Option.bind_some, wi_eq (by omega) (by omega), show ((i : Int) + 1) = ((i + 1 : Nat) : Int) by omega]
        refine ih k (i + 1) _ (by omega) (by omega) (by simp [hn]) (by omega) (fun q hq' => ?_)
        by_cases h : q < i
        · rw [getD_append_lt (by omega)]; exact hqq q h
        · have : q = next.length := by omega
          subst this; rw [getD_append_eq, hn]
          refine h2.congr fun j => ?_
          have : 32 * (i + w) ≤ l.length := by unfold nb at h0; omega
          omega
  exact key (row.length - w) FU 0 [] (by omega) (by show row.length - w < 4611686018427387904; omega) rfl (by omega) (fun q h => by omega)
/-- the table is as it must be -/
structure Tab (l : List Int) (rows : List (List Int)) : Prop where
  ok : ∀ k i, i + 2 ^ k ≤ nb l.length → ∃ row, rows[k]? = some row ∧ i < row.length ∧ Row l (2 ^ k) row
theorem new_ok {l : List Int} (hl : l.length ≤ 4194304) : ∃ rows, rmq_New.f l = some (some (l, rows), 0) ∧ Tab l rows := by
  unfold rmq_New.f
  obtain ⟨row, h1, h2⟩ := new1 hl
  rw [if_neg (by simp; omega), clone_f l (by omega), Option.bind_some, h1, Option.bind_some]
  have key : ∀ (m k t : Nat) (row : List Int) (rows : List (List Int)), row.length = m → m < k → rows.length = t → Row l (2 ^ t) row → (t = 0 ∨ 2 ^ t ≤ 8388608) → (∀ s, s < t → ∃ r, rows[s]? = some r ∧ Row l (2 ^ s) r) →
      ∃ rows', rmq_New.l2 k row ((2 ^ t : Nat) : Int) (l, rows) = some (l, rows') ∧ Tab l rows' := by
    intro m
    induction m using Nat.strongRecOn with
    | _ m ih =>
      intro k t row rows hm hk ht hr hb hs; cases k with
      | zero => omega
      | succ k =>
        unfold rmq_New.l2
        have hp : 0 < 2 ^ t := Nat.pow_pos (by decide)
        have hb' : 2 ^ t ≤ 8388608 := by rcases hb with rfl | h <;> omega
        by_cases h0 : row.length = 0
        · rw [if_neg (by rw [decide_eq_true_eq]; omega)]
          refine ⟨rows, rfl, ⟨fun s i hi => ?_⟩⟩
          have hst : s < t := by
            rcases Nat.lt_or_ge s t with h | h
            · exact h
            · have : 2 ^ t ≤ 2 ^ s := Nat.pow_le_pow_right (by decide) h
              have := hr.1; omega
          obtain ⟨r, e1, e2⟩ := hs s hst
          exact ⟨r, e1, by have := e2.1; have : 0 < 2 ^ s := Nat.pow_pos (by decide); omega, e2⟩
        · have hrl := hr.1
          have htl : t ≤ 23 := by
            rcases Nat.lt_or_ge 23 t with h | h
            · have : 2 ^ 24 ≤ 2 ^ t := Nat.pow_le_pow_right (by decide) h
              omega
            · exact h
          have h2t : 2 ^ t ≤ nb l.length := by omega
          have hnb : nb l.length ≤ 131072 := by unfold nb; omega
          obtain ⟨next, e1, e2⟩ := new3 (rows := rows ++ [row]) (q := (l, rows)) hl rfl hp hb' hr
          rw [if_pos (by rw [decide_eq_true_eq]; omega)]
          simp only []
          rw [app?_eq (by simp; omega), Option.bind_some, e1, Option.bind_some, wi_eq (by omega) (by omega), show (((2 ^ t : Nat) : Int) * 2) = ((2 ^ (t + 1) : Nat) : Int) by rw [Nat.pow_succ]; omega]
          refine ih next.length (by have := e2.1; omega) k (t + 1) next (rows ++ [row]) rfl (by have := e2.1; omega) (by simp [ht]) (by rw [Nat.pow_succ, Nat.mul_comm]; exact e2) (.inr (by rw [Nat.pow_succ]; omega)) (fun s hs' => ?_)
          by_cases h : s < t
          · obtain ⟨r, f1, f2⟩ := hs s h
            exact ⟨r, by rw [List.getElem?_append_left (by omega)]; exact f1, f2⟩
          · have : s = t := by omega
            subst this
            exact ⟨row, by rw [← ht]; simp, hr⟩
  obtain ⟨rows', e1, e2⟩ := key row.length FU 0 row [] rfl (by have := h2.1; show row.length < 4611686018427387904; unfold nb at this; omega) rfl (by simpa using h2) (.inl rfl) (fun s h => by omega)
  rw [show ((2 ^ 0 : Nat) : Int) = 1 from rfl] at e1
  rw [e1, Option.bind_some]
  exact ⟨rows', rfl, e2⟩
end Rmq
end Go.Proofs.Ytmdemfbkdbilpaa
