/-
  The law of what goes in and out of a gate, in plain words. No condition.
-/
import Derived.Test.YthlbebgmphnniaaPuQuotaA
import Derived.Test.YthlbebgmphnniaaGQuotaBack
namespace Go.Proofs.Ythlbebgmphnniaa
open Go Go.Gol
set_option linter.unusedVariables false
set_option linter.unusedSimpArgs false
set_option linter.unnecessarySimpa false
set_option maxRecDepth 100000
namespace Quota
theorem first_f : colophonlaw22_first.f = some true := by decide +kernel
theorem has_ok (s : Int) (T : List (Int × Int)) (M : List (Int × Int)) {d : Nat} (hd : d < T.length) : quota_Gate_has.f (s, T, M) (d : Int) = some true := by
  unfold quota_Gate_has.f
  rw [if_pos (by simp)]; simp; omega
theorem all_ok {s : Int} {T M : List (Int × Int)} {c : Int → Nat} {S : Nat} (h : MOk M c S) (hS : S ≤ 1000000) : quota_Gate_All.f (s, T, M) = some (S : Int) := by
  unfold quota_Gate_All.f
  have := h.sum
  unfold sm at this
  simp only []
  rw [this, wi_eq (by omega) (by omega)]
theorem live_ok {s : Int} {T M : List (Int × Int)} {c : Int → Nat} {S d : Nat} (h : MOk M c S) (hd : d < T.length) : quota_Gate_Live.f (s, T, M) (d : Int) = some (c (d : Int) : Int) := by
  unfold quota_Gate_Live.f
  rw [has_ok s T M hd, Option.bind_some, if_neg (by simp)]
  simp only []
  rw [h.getD]
theorem enter_ok {s : Int} {T M : List (Int × Int)} {c : Int → Nat} {S d : Nat} (h : MOk M c S) (hS : S ≤ 1000000) (hc : c (d : Int) ≤ 1000000) (hd : d < T.length) :
    (∃ e, e ≠ 0 ∧ quota_Gate_Enter.f (s, T, M) (d : Int) = some (e, (s, T, M))) ∨ ∃ M', quota_Gate_Enter.f (s, T, M) (d : Int) = some (0, (s, T, M')) ∧ MOk M' (fun x => if x = (d : Int) then c x + 1 else c x) (S + 1) := by
  unfold quota_Gate_Enter.f
  rw [has_ok s T M hd, Option.bind_some, if_neg (by simp)]
  simp only []
  rw [at?_nat, List.getElem?_eq_getElem hd, Option.bind_some, h.getD]
  by_cases h1 : (c (d : Int) : Int) ≥ T[d].2
  · rw [if_pos (by simpa using h1)]; exact .inl ⟨220, by decide, rfl⟩
  rw [if_neg (by simpa using h1), all_ok h hS, Option.bind_some]
  by_cases h2 : (S : Int) ≥ s
  · rw [if_pos (by simpa using h2)]; exact .inl ⟨221, by decide, rfl⟩
  rw [if_neg (by simpa using h2), wi_eq (by omega) (by omega)]
  exact .inr ⟨_, rfl, h.up _⟩
theorem leave_ok {s : Int} {T M : List (Int × Int)} {c : Int → Nat} {S d : Nat} (h : MOk M c S) (hS : 0 < S) (hc : c (d : Int) ≤ 1000000) (hd : d < T.length) (hk : 0 < c (d : Int)) :
    ∃ M', quota_Gate_Leave.f (s, T, M) (d : Int) = some (true, (s, T, M')) ∧ MOk M' (fun x => if x = (d : Int) then c x - 1 else c x) (S - 1) := by
  unfold quota_Gate_Leave.f
  rw [has_ok s T M hd, Option.bind_some, if_neg (by simp)]
  simp only []
  have hd' := h.down hk hS
  rw [h.getD, if_neg (by rw [beq_iff_eq]; omega), wi_eq (by omega) (by omega), mget_mset, if_pos rfl, Option.getD_some]
  by_cases e : (c (d : Int) : Int) - 1 = 0
  · rw [if_pos e] at hd'
    rw [if_pos (by rw [beq_iff_eq]; exact e)]; exact ⟨_, rfl, hd'⟩
  · rw [if_neg e] at hd'
    rw [if_neg (by rw [beq_iff_eq]; exact e)]; exact ⟨_, rfl, hd'⟩
theorem leave_no {s : Int} {T M : List (Int × Int)} {c : Int → Nat} {S d : Nat} (h : MOk M c S) (hd : d < T.length) (hk : c (d : Int) = 0) : quota_Gate_Leave.f (s, T, M) (d : Int) = some (false, (s, T, M)) := by
  unfold quota_Gate_Leave.f
  rw [has_ok s T M hd, Option.bind_some, if_neg (by simp)]
  simp only []
  rw [h.getD, if_pos (by rw [beq_iff_eq]; omega)]
theorem new_ok {a : Int} {T : List (Int × Int)} (h1 : 1 ≤ a) (h2 : a ≤ 64) (h3 : 1 ≤ T.length) (h4 : T.length ≤ 16) (hT : ∀ p ∈ T, p.1 = 2 ∧ 0 ≤ p.2 ∧ p.2 ≤ 8) : quota_New.f a T = some (some (a, T, []), 0) := by
  have key : ∀ (m k i : Nat), T.length - i = m → m < k → quota_Right.l1 T k (i : Int) = some (.inr ()) := by
    intro m
    induction m with
    | zero => intro k i hm hk; cases k with
      | zero => omega
      | succ k => unfold quota_Right.l1; rw [if_neg (by rw [decide_eq_true_eq]; omega)]
    | succ m ih => intro k i hm hk; cases k with
      | zero => omega
      | succ k =>
        unfold quota_Right.l1
        have hil : i < T.length := by omega
        obtain ⟨p1, p2, p3⟩ := hT _ (List.getElem_mem hil)
        have e : quota_Right_1.f (T[i].1, T[i].2) = some false := by
          unfold quota_Right_1.f
          simp only []
          rw [if_neg (by rw [decide_eq_true_eq]; omega), if_neg (by rw [decide_eq_true_eq]; omega), if_neg (by rw [decide_eq_true_eq]; omega), decide_eq_false (by omega)]
        rw [if_pos (by rw [decide_eq_true_eq]; omega), at?_nat, List.getElem?_eq_getElem hil, Option.bind_some, e, Option.bind_some, if_neg (by simp), wi_eq (by omega) (by omega), show ((i : Int) + 1) = ((i + 1 : Nat) : Int) by omega]
        exact ih k (i + 1) (by omega) (by omega)
  have e := key T.length FU 0 (by omega) (by show T.length < 9223372036854775808; omega)
  rw [show ((0 : Nat) : Int) = 0 from rfl] at e
  have er : quota_Right.f T = some true := by
    unfold quota_Right.f
    rw [if_neg (by rw [decide_eq_true_eq]; omega), if_neg (by rw [decide_eq_true_eq]; omega), e]; rfl
  unfold quota_New.f
  rw [er, Option.bind_some, if_neg (by simp), if_neg (by rw [decide_eq_true_eq]; omega), if_neg (by rw [decide_eq_true_eq]; omega)]
  unfold slices_Clone.f
  rw [app?_eq (by simp; omega), List.nil_append]; rfl
/-- how many of the first places are marked -/
def cn (P : Nat → Bool) : Nat → Nat
  | 0 => 0
  | n + 1 => cn P n + if P n then 1 else 0
theorem cn_congr {B C : Nat → Bool} {n : Nat} (h : ∀ j, j < n → B j = C j) : cn B n = cn C n := by
  induction n with
  | zero => rfl
  | succ n ih => simp only [cn]; rw [ih (fun j hj => h j (by omega)), h n (by omega)]
theorem cn_le (P : Nat → Bool) (n : Nat) : cn P n ≤ n := by
  induction n with
  | zero => exact Nat.le_refl _
  | succ n ih => simp only [cn]; split <;> omega
theorem cn_sub {P Q : Nat → Bool} {n : Nat} (h : ∀ j, j < n → P j = true → Q j = true) : cn P n ≤ cn Q n := by
  induction n with
  | zero => exact Nat.le_refl _
  | succ n ih =>
    have := ih (fun j hj => h j (by omega))
    simp only [cn]
    cases e : P n with
    | false => simp; omega
    | true => rw [h n (by omega) e]; simp; omega
theorem cn_all (n : Nat) : cn (fun _ => true) n = n := by
  induction n with
  | zero => rfl
  | succ n ih => simp only [cn, ih]; rfl
/-- one place less -/
theorem cn_out {P : Nat → Bool} {q n : Nat} (hq : q < n) (hP : P q = true) : cn (fun p => P p && !(p == q)) n + 1 = cn P n := by
  induction n with
  | zero => omega
  | succ n ih =>
    simp only [cn]
    by_cases e : n = q
    · subst e
      have h1 : cn (fun p => P p && !(p == n)) n = cn P n := cn_congr (fun j hj => by
        have : (j == n) = false := by simp; omega
        show (P j && !(j == n)) = P j
        rw [this]; simp)
      rw [h1]; simp [hP]
    · have := ih (by omega)
      have hb : (n == q) = false := by simpa using e
      simp only [hb, Bool.not_false, Bool.and_true]; omega
theorem count_cn (X : List Int) (k : Int) : X.count k = cn (fun p => decide (X.getD p 0 = k)) X.length := by
  have key : ∀ n, n ≤ X.length → (X.take n).count k = cn (fun p => decide (X.getD p 0 = k)) n := by
    intro n
    induction n with
    | zero => intro _; rfl
    | succ n ih =>
      intro hn
      have hg : X.getD n 0 = X[n] := by rw [List.getD_eq_getElem?_getD, List.getElem?_eq_getElem (by omega)]; rfl
      rw [List.take_add_one, List.getElem?_eq_getElem (by omega), List.count_append, ih (by omega)]
      simp only [cn, hg, Option.toList_some, List.count_singleton]
      by_cases e : X[n] = k
      · simp [e]
      · have : (X[n] == k) = false := by simpa using e
        simp [this, e]
  have := key X.length (Nat.le_refl _)
  rw [List.take_length] at this
  exact this
theorem perm7 : ∀ L : Fin 61, L.val % 7 ≠ 0 → ∀ i : Fin 61, i.val < L.val → ∀ j : Fin 61, j.val < i.val → (7 * i.val + 3) % L.val ≠ (7 * j.val + 3) % L.val := by decide +kernel
end Quota
open Quota
theorem pure_QuotaBack (a0 : Int) (F0 : Fits (.int .i64) a0) (l1 : List Int) (F1 : Fits (.slice 5 (.int .u8)) l1) (l2 : List Int) (F2 : Fits (.slice 3 (.int .i64)) l2) : colophonlaw22_QuotaBack.f a0 l1 l2 = some true := by
  have hm1 : l1.length ≤ 9223372036854775807 := Nat.le_trans F1.1 (by decide)
  have hm2 : l2.length ≤ 9223372036854775807 := Nat.le_trans F2.1 (by decide)
  have by1 : ∀ i, i < l1.length → 0 ≤ l1.getD i 0 ∧ l1.getD i 0 ≤ 255 := fun i hi => by
    rw [List.getD_eq_getElem?_getD, List.getElem?_eq_getElem hi]; exact F1.2 _ (List.getElem_mem hi)
  unfold colophonlaw22_QuotaBack.f
  rw [first_f, Option.bind_some, if_neg (by simp)]
  have k1 : ∀ (m k i : Nat) (T : List (Int × Int)), l1.length - i = m → m < k → i ≤ l1.length → T.length = min i 16 → (∀ p ∈ T, p.1 = 2 ∧ 0 ≤ p.2 ∧ p.2 ≤ 8) → ∃ T', colophonlaw22_QuotaBack.l1 l1 k T (i : Int) = some T' ∧ T'.length = min l1.length 16 ∧ ∀ p ∈ T', p.1 = 2 ∧ 0 ≤ p.2 ∧ p.2 ≤ 8 := by
    intro m
    induction m with
    | zero => intro k i T hm hk hi hT h; cases k with
      | zero => omega
      | succ k => unfold colophonlaw22_QuotaBack.l1; rw [if_neg (by rw [decide_eq_true_eq]; omega)]; exact ⟨T, rfl, by rw [hT]; omega, h⟩
    | succ m ih => intro k i T hm hk hi hT h; cases k with
      | zero => omega
      | succ k =>
        unfold colophonlaw22_QuotaBack.l1
        have hil : i < l1.length := by omega
        have hb := by1 i hil
        rw [if_pos (by rw [decide_eq_true_eq]; omega), at_g hil, Option.bind_some, wi_eq (n := (i : Int) + 1) (by omega) (by omega), show ((i : Int) + 1) = ((i + 1 : Nat) : Int) by omega]
        have e9 : Int.tmod (l1.getD i 0) 9 = l1.getD i 0 % 9 := Int.tmod_eq_emod_of_nonneg hb.1
        by_cases h16 : i < 16
        · rw [if_pos (by rw [decide_eq_true_eq]; omega), app?_eq (by simp; omega), Option.bind_some, e9, wi_eq (by omega) (by omega)]
          refine ih k (i + 1) _ (by omega) (by omega) (by omega) (by simp; omega) (fun p hp => ?_)
          rcases List.mem_append.1 hp with h' | h'
          · exact h p h'
          · rw [List.mem_singleton] at h'; subst h'; exact ⟨rfl, by simp only []; omega, by simp only []; omega⟩
        · rw [if_neg (by rw [decide_eq_true_eq]; omega)]
          exact ih k (i + 1) T (by omega) (by omega) (by omega) (by omega) h
  obtain ⟨T, e1, lT, hT⟩ := k1 l1.length FU 0 [] (by omega) (by show l1.length < 9223372036854775808; omega) (by omega) rfl (fun p h => by cases h)
  rw [show ((0 : Nat) : Int) = 0 from rfl] at e1
  obtain ⟨a, ea, ha1, ha2⟩ : ∃ a : Int, wi (1 + (wi (Int.tmod (IntKind.wrap .u64 a0) 20))) = a ∧ 1 ≤ a ∧ a ≤ 20 := by
    have h0 : 0 ≤ IntKind.wrap .u64 a0 := by rw [wrap_u64_eq]; omega
    refine ⟨1 + IntKind.wrap .u64 a0 % 20, ?_, by omega, by omega⟩
    rw [Int.tmod_eq_emod_of_nonneg h0, wi_eq (n := IntKind.wrap .u64 a0 % 20) (by omega) (by omega), wi_eq (by omega) (by omega)]
  rw [e1, Option.bind_some, ea]
  by_cases hz : T.length = 0
  · have : T = [] := List.eq_nil_of_length_eq_zero hz
    subst this
    have en : quota_New.f a [] = some (none, 2) := rfl
    rw [en, Option.bind_some, if_pos (by simp)]
  have hn : 1 ≤ T.length := by omega
  have hn2 : T.length ≤ 16 := by omega
  rw [new_ok ha1 (by omega) hn hn2 hT, Option.bind_some, if_neg (by rw [beq_iff_eq]; omega), Option.bind_some]
  have k2 : ∀ (m k i : Nat) (X : List Int) (M : List (Int × Int)), l2.length - i = m → m < k → i ≤ l2.length → X.length ≤ min i 60 → (∀ x ∈ X, ∃ d : Nat, x = (d : Int) ∧ d < T.length) → MOk M (fun x => X.count x) X.length →
      ∃ X' M', colophonlaw22_QuotaBack.l2 l2 T k X (i : Int) (a, T, M) = some (X', (a, T, M')) ∧ X'.length ≤ 60 ∧ (∀ x ∈ X', ∃ d : Nat, x = (d : Int) ∧ d < T.length) ∧ MOk M' (fun x => X'.count x) X'.length := by
    intro m
    induction m with
    | zero => intro k i X M hm hk hi hX hx hM; cases k with
      | zero => omega
      | succ k => unfold colophonlaw22_QuotaBack.l2; rw [if_neg (by rw [decide_eq_true_eq]; omega)]; exact ⟨X, M, rfl, by omega, hx, hM⟩
    | succ m ih => intro k i X M hm hk hi hX hx hM; cases k with
      | zero => omega
      | succ k =>
        unfold colophonlaw22_QuotaBack.l2
        have hil : i < l2.length := by omega
        have ewn : IntKind.wrap .u64 (T.length : Int) = (T.length : Int) := by rw [wrap_u64_eq]; omega
        obtain ⟨A, hA⟩ : ∃ A : Nat, IntKind.wrap .u64 (l2.getD i 0) = (A : Int) := ⟨(IntKind.wrap .u64 (l2.getD i 0)).toNat, by rw [wrap_u64_eq]; omega⟩
        obtain ⟨d, hd⟩ : ∃ d, d = A % T.length := ⟨_, rfl⟩
        have hdl : d < T.length := by rw [hd]; exact Nat.mod_lt _ (by omega)
        have ed : wi (Int.tmod (IntKind.wrap .u64 (l2.getD i 0)) (IntKind.wrap .u64 (T.length : Int))) = (d : Int) := by
          have : Int.tmod (A : Int) (T.length : Int) = (d : Int) := by rw [Int.tmod_eq_emod_of_nonneg (by omega), hd]; norm_cast
          rw [hA, ewn, this, wi_eq (by omega) (by omega)]
        rw [if_pos (by rw [decide_eq_true_eq]; omega), at_g hil, Option.bind_some, chk?_eq (decide_eq_true (by rw [ewn]; omega)), Option.bind_some, ed, wi_eq (n := (i : Int) + 1) (by omega) (by omega), show ((i : Int) + 1) = ((i + 1 : Nat) : Int) by omega]
        by_cases h60 : i < 60
        · rw [if_pos (by rw [decide_eq_true_eq]; omega)]
          have hcl : X.count (d : Int) ≤ X.length := List.count_le_length
          rcases enter_ok (s := a) (T := T) hM (by omega) (show X.count (d : Int) ≤ 1000000 by omega) hdl with ⟨e, he, ee⟩ | ⟨M', ee, hM'⟩
          · rw [ee, Option.bind_some, if_neg (by simpa using he)]
            exact ih k (i + 1) X M (by omega) (by omega) (by omega) (by omega) hx hM
          · rw [ee, Option.bind_some, if_pos (by simp), app?_eq (by simp; omega), Option.bind_some]
            refine ih k (i + 1) _ M' (by omega) (by omega) (by omega) (by simp; omega) (fun x hx' => ?_) ?_
            · rcases List.mem_append.1 hx' with h' | h'
              · exact hx x h'
              · rw [List.mem_singleton] at h'; exact ⟨d, h', hdl⟩
            · have : (fun x => (X ++ [(d : Int)]).count x) = fun x => if x = (d : Int) then X.count x + 1 else X.count x := funext fun x => by
                rw [List.count_append, List.count_singleton]
                by_cases e : x = (d : Int)
                · rw [if_pos e]; simp [e]
                · have : ((d : Int) == x) = false := by simpa using fun h => e h.symm
                  rw [if_neg e]; simp [this]
              rw [this, List.length_append, List.length_singleton]; exact hM'
        · rw [if_neg (by rw [decide_eq_true_eq]; omega)]
          exact ih k (i + 1) X M (by omega) (by omega) (by omega) (by omega) hx hM
  obtain ⟨X, M, e2, hX, hXe, hM⟩ := k2 l2.length FU 0 [] [] (by omega) (by show l2.length < 9223372036854775808; omega) (by omega) (by simp) (fun x h => by cases h) MOk.nil
  rw [show ((0 : Nat) : Int) = 0 from rfl] at e2
  rw [e2, Option.bind_some]
  simp only []
  rw [all_ok hM (by omega), Option.bind_some, if_neg (by simp)]
  obtain ⟨L, hL⟩ : ∃ L, L = X.length := ⟨_, rfl⟩
  obtain ⟨π, hπ⟩ : ∃ π : Nat → Nat, ∀ i, π i = if L % 7 = 0 then i else (7 * i + 3) % L := ⟨fun i => if L % 7 = 0 then i else (7 * i + 3) % L, fun i => rfl⟩
  have hπlt : ∀ i, i < L → π i < L := fun i hi => by
    rw [hπ]; split
    · exact hi
    · exact Nat.mod_lt _ (by omega)
  have hinj : ∀ i j, i < L → j < i → π i ≠ π j := fun i j hi hj => by
    rw [hπ, hπ]
    by_cases h7 : L % 7 = 0
    · rw [if_pos h7, if_pos h7]; omega
    · rw [if_neg h7, if_neg h7]
      exact perm7 ⟨L, by omega⟩ h7 ⟨i, by omega⟩ hi ⟨j, by omega⟩ hj
  have k3 : ∀ (m k i : Nat) (M1 : List (Int × Int)) (V : Nat → Bool), L - i = m → m < k → i ≤ L → (∀ p, V p = true ↔ ∃ j, j < i ∧ p = π j) → cn (fun p => !V p) L = L - i → MOk M1 (fun x => cn (fun p => decide (X.getD p 0 = x) && !V p) L) (L - i) →
      ∃ M' c', colophonlaw22_QuotaBack.l3 (X, (a, T, M)) k (i : Int) (a, T, M1) = some (.inr (a, T, M')) ∧ MOk M' c' 0 ∧ ∀ x, c' x = 0 := by
    intro m
    induction m with
    | zero => intro k i M1 V hm hk hi hV hU hM1; cases k with
      | zero => omega
      | succ k =>
        unfold colophonlaw22_QuotaBack.l3
        rw [if_neg (by rw [decide_eq_true_eq]; simp only []; omega)]
        refine ⟨M1, _, rfl, by have h0 : L - i = 0 := hm; rw [h0] at hM1; exact hM1, fun x => ?_⟩
        have := cn_sub (P := fun p => decide (X.getD p 0 = x) && !V p) (Q := fun p => !V p) (n := L) (fun j _ h => by
          rw [Bool.and_eq_true] at h; exact h.2)
        show cn (fun p => decide (X.getD p 0 = x) && !V p) L = 0
        omega
    | succ m ih => intro k i M1 V hm hk hi hV hU hM1; cases k with
      | zero => omega
      | succ k =>
        unfold colophonlaw22_QuotaBack.l3
        have hil : i < L := by omega
        obtain ⟨q, hq⟩ : ∃ q, q = π i := ⟨_, rfl⟩
        have hqL : q < L := by rw [hq]; exact hπlt i hil
        have hVq : V q = false := by
          cases e : V q with
          | false => rfl
          | true =>
            obtain ⟨j, hj, e'⟩ := (hV q).1 e
            exact absurd (by rw [← hq]; exact e') (hinj i j hil hj)
        have hgq : X.getD q 0 = X[q]'(by omega) := by rw [List.getD_eq_getElem?_getD, List.getElem?_eq_getElem (by omega)]; rfl
        obtain ⟨d, ed, hd⟩ := hXe (X.getD q 0) (by rw [hgq]; exact List.getElem_mem (by omega))
        have hPq : (decide (X.getD q 0 = (d : Int)) && !V q) = true := by rw [ed, hVq]; simp
        have hout := cn_out (P := fun p => decide (X.getD p 0 = (d : Int)) && !V p) hqL hPq
        have houtU := cn_out (P := fun p => !V p) hqL (by rw [hVq]; rfl)
        have hcl := cn_le (fun p => decide (X.getD p 0 = (d : Int)) && !V p) L
        obtain ⟨M', el, hM'⟩ := leave_ok (s := a) (T := T) hM1 (show 0 < L - i by omega) (d := d) (by show cn (fun p => decide (X.getD p 0 = (d : Int)) && !V p) L ≤ 1000000; omega) hd (by show 0 < cn (fun p => decide (X.getD p 0 = (d : Int)) && !V p) L; omega)
        have nx := ih k (i + 1) M' (fun p => V p || (p == q)) (by omega) (by omega) (by omega) (fun p => by
          rw [Bool.or_eq_true, hV, beq_iff_eq]
          constructor
          · rintro (⟨j, hj, e⟩ | e)
            · exact ⟨j, by omega, e⟩
            · exact ⟨i, by omega, by rw [e, hq]⟩
          · rintro ⟨j, hj, e⟩
            by_cases e' : j = i
            · right; rw [e, e', hq]
            · left; exact ⟨j, by omega, e⟩) (by
          rw [cn_congr (C := fun p => !V p && !(p == q)) (fun j _ => by cases V j <;> simp)]
          omega) (by
          have hc : (fun x => cn (fun p => decide (X.getD p 0 = x) && !(V p || (p == q))) L) = fun x => if x = (d : Int) then cn (fun p => decide (X.getD p 0 = x) && !V p) L - 1 else cn (fun p => decide (X.getD p 0 = x) && !V p) L := funext fun x => by
            by_cases e : x = (d : Int)
            · rw [if_pos e, e, cn_congr (C := fun p => (decide (X.getD p 0 = (d : Int)) && !V p) && !(p == q)) (fun j _ => by cases decide (X.getD j 0 = (d : Int)) <;> cases V j <;> simp)]
              omega
            · rw [if_neg e]
              refine cn_congr (fun j _ => ?_)
              by_cases ej : j = q
              · subst ej; rw [ed, decide_eq_false (fun h => e h.symm)]; rfl
              · have : (j == q) = false := by simpa using ej
                rw [this, Bool.or_false]
          rw [hc, show L - (i + 1) = L - i - 1 by omega]; exact hM')
        have em : Int.tmod (wi (wi ((i : Int) * 7) + 3)) (X.length : Int) = (((7 * i + 3) % L : Nat) : Int) := by
          rw [wi_eq (n := (i : Int) * 7) (by omega) (by omega), wi_eq (by omega) (by omega), Int.tmod_eq_emod_of_nonneg (by omega), ← hL, show (i : Int) * 7 + 3 = ((7 * i + 3 : Nat) : Int) by omega]; norm_cast
        have e7 : Int.tmod (X.length : Int) 7 = ((L % 7 : Nat) : Int) := by rw [Int.tmod_eq_emod_of_nonneg (by omega), ← hL]; norm_cast
        have hml : (7 * i + 3) % L < L := Nat.mod_lt _ (by omega)
        rw [if_pos (by rw [decide_eq_true_eq]; simp only []; omega)]
        simp only []
        rw [chk?_eq (decide_eq_true (by omega)), Option.bind_some, em, at_g (by omega), Option.bind_some, e7, wi_eq (n := (i : Int) + 1) (by omega) (by omega), show ((i : Int) + 1) = ((i + 1 : Nat) : Int) by omega]
        by_cases h7 : L % 7 = 0
        · have hqi : q = i := by rw [hq, hπ, if_pos h7]
          rw [if_pos (by rw [beq_iff_eq]; omega), at_g (by omega), Option.bind_some, ← hqi, ed, el, Option.bind_some, if_neg (by simp)]
          rw [← hqi] at nx; exact nx
        · have hqi : (7 * i + 3) % L = q := by rw [hq, hπ, if_neg h7]
          rw [if_neg (by rw [beq_iff_eq]; omega), hqi, ed, el, Option.bind_some, if_neg (by simp)]
          exact nx
  obtain ⟨M', c', e3, hM', hc0⟩ := k3 L FU 0 M (fun _ => false) (by omega) (by show L < 9223372036854775808; omega) (by omega) (fun p => ⟨fun h => (by cases h), fun ⟨j, hj, _⟩ => (by omega)⟩) (by
    have := cn_all L
    have e : cn (fun p => !(fun _ : Nat => false) p) L = cn (fun _ => true) L := cn_congr (fun j _ => rfl)
    exact e.trans (by omega)) (by
    have : (fun x => X.count x) = fun x => cn (fun p => decide (X.getD p 0 = x) && !false) L := funext fun x => by
      rw [count_cn, ← hL]; exact cn_congr (fun j _ => by simp)
    rw [← this, Nat.sub_zero, hL]; exact hM)
  rw [show ((0 : Nat) : Int) = 0 from rfl] at e3
  rw [e3, Option.bind_some]
  simp only []
  have k4 : ∀ (m k i : Nat), T.length - i = m → m < k → colophonlaw22_QuotaBack.l4 T k (i : Int) (a, T, M') = some (.inr (a, T, M')) := by
    intro m
    induction m with
    | zero => intro k i hm hk; cases k with
      | zero => omega
      | succ k => unfold colophonlaw22_QuotaBack.l4; rw [if_neg (by rw [decide_eq_true_eq]; omega)]
    | succ m ih => intro k i hm hk; cases k with
      | zero => omega
      | succ k =>
        unfold colophonlaw22_QuotaBack.l4
        have hil : i < T.length := by omega
        rw [if_pos (by rw [decide_eq_true_eq]; omega), live_ok hM' hil, Option.bind_some, hc0, if_neg (by simp), leave_no hM' hil (hc0 _), Option.bind_some, if_neg (by simp), wi_eq (by omega) (by omega), show ((i : Int) + 1) = ((i + 1 : Nat) : Int) by omega]
        exact ih k (i + 1) (by omega) (by omega)
  have e4 := k4 T.length FU 0 (by omega) (by show T.length < 9223372036854775808; omega)
  rw [show ((0 : Nat) : Int) = 0 from rfl] at e4
  rw [e4, Option.bind_some]
  simp only []
  rw [all_ok hM' (by omega)]; rfl
end Go.Proofs.Ythlbebgmphnniaa
