/-
  The laws of layer sparse, in plain words. No condition.
-/
import Derived.Test.YtomeiphaohjeoaaPuSparseA
import Derived.Test.YtomeiphaohjeoaaGSparseOrder
import Derived.Test.YtomeiphaohjeoaaGSparseMoves
namespace Go.Proofs.Ytomeiphaohjeoaa
open Go Go.Gol Sparse
set_option linter.unusedVariables false
set_option linter.unusedSimpArgs false
set_option maxRecDepth 100000
namespace Sparse
theorem first_f : colophonlaw03_first.f = some true := by decide +kernel
theorem len_ok {S : Int × Int × Int × (Option (Int × (List Int) × (List Int) × Int)) × (Option (Int × Int × (List Int))) × (Option (Int × Int × (List Int)))} {u : Nat} {l : List Int} (h : SetOk S u l) : sparse_Set_Len.f (some S) = some (l.length : Int) := by
  obtain ⟨w, m, V, U1, U2, xs, rfl, _⟩ := h; rfl
theorem bound_ok {S : Int × Int × Int × (Option (Int × (List Int) × (List Int) × Int)) × (Option (Int × Int × (List Int))) × (Option (Int × Int × (List Int)))} {u : Nat} {l : List Int} (h : SetOk S u l) : sparse_Set_Bound.f (some S) = some (u : Int) := by
  obtain ⟨w, m, V, U1, U2, xs, rfl, _⟩ := h; rfl
theorem right_ok {u : Int} {l : List Int} (hl : l.length ≤ 100000) : ∃ b, colophonref03_Right.f u l = some b ∧ (b = true ↔ 0 ≤ u ∧ u ≤ 4194304 ∧ Good u.toNat l) := by
  unfold colophonref03_Right.f
  by_cases h0 : u < 0
  · rw [if_pos (by simpa using h0)]; exact ⟨false, rfl, ⟨fun h => (by cases h), fun h => by omega⟩⟩
  rw [if_neg (by simpa using h0)]
  by_cases h1 : u > 4194304
  · rw [if_pos (by simpa using h1)]; exact ⟨false, rfl, ⟨fun h => (by cases h), fun h => by omega⟩⟩
  rw [if_neg (by simpa using h1)]
  have key : ∀ (m k i : Nat) (p : Int), l.length - i = m → m < k → i ≤ l.length → (∀ j, j < i → 0 ≤ l.getD j 0 ∧ l.getD j 0 < u) → (∀ j, j + 1 < i → l.getD j 0 < l.getD (j + 1) 0) → (i = 0 → p = -1) → (0 < i → p = l.getD (i - 1) 0) →
      (colophonref03_Right.l1 u l k p (i : Int) = some (.inl false) ∧ ¬ Good u.toNat l) ∨ (colophonref03_Right.l1 u l k p (i : Int) = some (.inr ()) ∧ Good u.toNat l) := by
    intro m
    induction m with
    | zero => intro k i p hm hk hi hr hu h0 h1; cases k with
      | zero => omega
      | succ k => unfold colophonref03_Right.l1; rw [if_neg (by simp; omega)]
                  exact .inr ⟨rfl, ⟨fun j hj => by have := hr j (by omega); omega, fun j hj => hu j (by omega)⟩⟩
    | succ m ih => intro k i p hm hk hi hr hu hp0 hp1; cases k with
      | zero => omega
      | succ k =>
        unfold colophonref03_Right.l1
        have hil : i < l.length := by omega
        rw [if_pos (by simp; omega), at_g hil, Option.bind_some]
        by_cases h3 : l.getD i 0 ≤ p
        · rw [if_pos (by simpa using h3)]
          refine .inl ⟨rfl, fun hG => ?_⟩
          by_cases e : i = 0
          · subst e; have := hp0 rfl; have := (hG.rng 0 hil).1; omega
          · have := hp1 (by omega); have := hG.lt (i := i - 1) (j := i) (by omega) hil; omega
        rw [if_neg (by simpa using h3)]
        by_cases h4 : l.getD i 0 ≥ u
        · rw [if_pos (by simpa using h4)]
          exact .inl ⟨rfl, fun hG => by have := (hG.rng i hil).2; omega⟩
        rw [if_neg (by simpa using h4), wi_eq (n := (i : Int) + 1) (by omega) (by omega), show ((i : Int) + 1) = ((i + 1 : Nat) : Int) by omega]
        have hnn : 0 ≤ l.getD i 0 := by
          by_cases e : i = 0
          · subst e; have := hp0 rfl; omega
          · have := hp1 (by omega); have := (hr (i - 1) (by omega)).1; omega
        exact ih k (i + 1) _ (by omega) (by omega) (by omega) (fun j hj => by
          by_cases e : j = i
          · subst e; omega
          · exact hr j (by omega)) (fun j hj => by
          by_cases e : j + 1 = i
          · subst e; have := hp1 (by omega); rw [Nat.add_sub_cancel] at this; omega
          · exact hu j (by omega)) (fun h => by omega) (fun _ => by rw [Nat.add_sub_cancel])
  have := key l.length FU 0 (-1) (by omega) (by show l.length < 4611686018427387904; omega) (by omega) (fun j h => by omega) (fun j h => by omega) (fun _ => rfl) (fun h => by omega)
  rw [show ((0 : Nat) : Int) = 0 from rfl] at this
  rcases this with ⟨e, h⟩ | ⟨e, h⟩
  · rw [e]; exact ⟨false, rfl, ⟨fun h => (by cases h), fun h' => absurd h'.2.2 h⟩⟩
  · rw [e]; exact ⟨true, rfl, ⟨fun _ => ⟨by omega, by omega, h⟩, fun _ => rfl⟩⟩
end Sparse
theorem pure_SparseOrder (a0 : Int) (F0 : Fits (.int .i64) a0) (l1 : List Int) (F1 : Fits (.slice 3 (.int .i64)) l1) (a2 : Int) (F2 : Fits (.int .i64) a2) : colophonlaw03_SparseOrder.f a0 l1 a2 = some true := by
  unfold colophonlaw03_SparseOrder.f
  rw [first_f, Option.bind_some, if_neg (by simp)]
  by_cases h1 : l1.length > 1000
  · rw [if_pos (by simp; omega)]
  rw [if_neg (by simp; omega)]
  by_cases h2 : a0 > 50000
  · rw [if_pos (by simpa using h2)]
  rw [if_neg (by simpa using h2)]
  by_cases hg : 0 ≤ a0 ∧ a0 ≤ 4194304 ∧ Sparse.Good a0.toNat l1
  · obtain ⟨h0, _, hG⟩ := hg
    obtain ⟨u, rfl⟩ : ∃ u : Nat, a0 = (u : Int) := ⟨a0.toNat, by omega⟩
    rw [Int.toNat_natCast] at hG
    obtain ⟨S, eS, hS⟩ := new_ok (u := u) (by omega) (.inl (by omega)) hG
    have hu : u ≤ 4194304 := by omega
    obtain ⟨r, er, hr⟩ := rank_ok hS hG hu a2
    rw [eS, Option.bind_some]
    simp only []
    rw [if_neg (by simp), er, Option.bind_some, Option.bind_some]
    have key : ∀ (m k i : Nat), l1.length - i = m → m < k → colophonlaw03_SparseOrder.l1 l1 a2 (r : Int) S k (i : Int) = some (.inr ()) := by
      intro m
      induction m with
      | zero => intro k i hm hk; cases k with
        | zero => omega
        | succ k => unfold colophonlaw03_SparseOrder.l1; rw [if_neg (by simp; omega)]
      | succ m ih => intro k i hm hk; cases k with
        | zero => omega
        | succ k =>
          unfold colophonlaw03_SparseOrder.l1
          have hil : i < l1.length := by omega
          obtain ⟨r', er', hr'⟩ := rank_ok hS hG hu (l1.getD i 0)
          have hri : r' = i := rank_uniq hr' ⟨by omega, fun j hj => hG.lt hj hil, fun j hj hjl => by
            by_cases e : j = i
            · subst e; omega
            · have := hG.lt (i := i) (j := j) (by omega) hjl; omega⟩
          obtain ⟨b, eb, hb⟩ := has_ok hS hG hu (l1.getD i 0)
          have hbt : b = true := hb.2 ⟨i, hil, rfl⟩
          rw [if_pos (by simp; omega), at_ok hS hG hu hil, Option.bind_some, er', Option.bind_some, if_neg (by rw [bne_iff_ne]; omega), at_g hil, Option.bind_some, eb, Option.bind_some, hbt, if_neg (by simp), Option.bind_some]
          have hbd : decide (l1.getD i 0 < a2) = decide ((i : Int) < (r : Int)) := by
            rw [decide_eq_decide]
            constructor
            · intro h
              rcases Nat.lt_or_ge i r with h' | h'
              · omega
              · have := hr.2.2 i h' hil; omega
            · intro h; exact hr.2.1 i (by omega)
          rw [hbd, if_neg (by simp), wi_eq (by omega) (by omega), show ((i : Int) + 1) = ((i + 1 : Nat) : Int) by omega]
          clear hb
          exact ih k (i + 1) (by omega) (by omega)
    have e := key l1.length FU 0 (by omega) (by show l1.length < 4611686018427387904; omega)
    rw [show ((0 : Nat) : Int) = 0 from rfl] at e
    rw [e, Option.bind_some]
    simp only []
    obtain ⟨r1, er1, hr1⟩ := rank_ok hS hG hu (u : Int)
    have h1' : r1 = l1.length := rank_uniq hr1 ⟨by omega, fun j hj => (hG.rng j hj).2, fun j hj hjl => by omega⟩
    obtain ⟨r2, er2, hr2⟩ := rank_ok hS hG hu 0
    have h2' : r2 = 0 := rank_uniq hr2 ⟨by omega, fun j hj => by omega, fun j hj hjl => (hG.rng j hjl).1⟩
    obtain ⟨b1, eb1, hb1⟩ := has_ok hS hG hu (-1)
    have h3' : b1 = false := by
      cases b1 with
      | false => rfl
      | true => obtain ⟨j, hj, e⟩ := hb1.1 rfl; have := hG.rng j hj; omega
    obtain ⟨b2, eb2, hb2⟩ := has_ok hS hG hu (u : Int)
    have h4' : b2 = false := by
      cases b2 with
      | false => rfl
      | true => obtain ⟨j, hj, e⟩ := hb2.1 rfl; have := hG.rng j hj; omega
    rw [er1, Option.bind_some, if_pos (by rw [beq_iff_eq]; omega), er2, Option.bind_some, if_pos (by rw [beq_iff_eq]; omega), eb1, Option.bind_some, h3', if_pos (by simp), eb2, Option.bind_some, h4']; rfl
  · have n1 : sparse_Set_Len.f none = some 0 := rfl
    have n2 : sparse_Set_Bound.f none = some 0 := rfl
    have n3 : sparse_Set_At.f none 0 = some (-1) := rfl
    have n4 : sparse_Set_Rank.f none 5 = some 0 := rfl
    have n5 : sparse_Set_Has.f none 0 = some false := rfl
    rw [new_bad (by omega) hg, Option.bind_some, if_pos (by simp)]
    simp only []
    rw [n1, Option.bind_some, if_pos (by simp), n2, Option.bind_some, if_pos (by simp), n3, Option.bind_some, if_pos (by simp), n4, Option.bind_some, if_pos (by simp), n5]; rfl
theorem pure_SparseMoves (a0 : Int) (F0 : Fits (.int .i64) a0) (l1 : List Int) (F1 : Fits (.slice 3 (.int .i64)) l1) (a2 : Int) (F2 : Fits (.int .u16) a2) : colophonlaw03_SparseMoves.f a0 l1 a2 = some true := by
  have hF2 : 0 ≤ a2 ∧ a2 ≤ 65535 := F2
  unfold colophonlaw03_SparseMoves.f
  rw [first_f, Option.bind_some, if_neg (by simp)]
  by_cases h1 : l1.length > 500
  · rw [if_pos (by simp; omega)]
  rw [if_neg (by simp; omega)]
  by_cases h2 : a0 > 20000
  · rw [if_pos (by simpa using h2)]
  rw [if_neg (by simpa using h2)]
  obtain ⟨b, eb, hb⟩ := right_ok (u := a0) (l := l1) (by omega)
  rw [eb, Option.bind_some]
  cases b with
  | false => rfl
  | true =>
    obtain ⟨h0, _, hG⟩ := hb.1 rfl
    obtain ⟨u, rfl⟩ : ∃ u : Nat, a0 = (u : Int) := ⟨a0.toNat, by omega⟩
    rw [Int.toNat_natCast] at hG
    obtain ⟨c, hc⟩ : ∃ c : Nat, Int.tmod (wi a2) 5000 = (c : Int) := ⟨a2.toNat % 5000, by rw [wi_eq (by omega) (by omega), Int.tmod_eq_emod_of_nonneg (by omega)]; omega⟩
    have hc5 : c < 5000 := by
      have : Int.tmod (wi a2) 5000 < 5000 := Int.tmod_lt_of_pos _ (by omega)
      omega
    rw [if_neg (by simp)]
    have k1 : ∀ (m k i : Nat) (x : List Int), l1.length - i = m → m < k → i ≤ l1.length → x.length = i → (∀ j, j < i → x.getD j 0 = l1.getD j 0 + (c : Int)) → ∃ x', colophonlaw03_SparseMoves.l1 l1 a2 k x (i : Int) = some x' ∧ x'.length = l1.length ∧ ∀ j, j < l1.length → x'.getD j 0 = l1.getD j 0 + (c : Int) := by
      intro m
      induction m with
      | zero => intro k i x hm hk hi hx hj; cases k with
        | zero => omega
        | succ k => unfold colophonlaw03_SparseMoves.l1; rw [if_neg (by simp; omega)]; exact ⟨x, rfl, by omega, fun j h => hj j (by omega)⟩
      | succ m ih => intro k i x hm hk hi hx hj; cases k with
        | zero => omega
        | succ k =>
          unfold colophonlaw03_SparseMoves.l1
          have hil : i < l1.length := by omega
          have hr := hG.rng i hil
          rw [if_pos (by simp; omega), at_g hil, Option.bind_some, hc, wi_eq (n := l1.getD i 0 + (c : Int)) (by omega) (by omega), app?_eq (by simp; omega), Option.bind_some, wi_eq (by omega) (by omega), show ((i : Int) + 1) = ((i + 1 : Nat) : Int) by omega]
          refine ih k (i + 1) _ (by omega) (by omega) (by omega) (by simp [hx]) (fun j hji => ?_)
          rw [List.getD_eq_getElem?_getD]
          rcases Nat.lt_or_ge j i with h | h
          · rw [List.getElem?_append_left (by omega), ← List.getD_eq_getElem?_getD]; exact hj j h
          · have : j = i := by omega
            subst this
            rw [List.getElem?_append_right (by omega), hx, Nat.sub_self]; rfl
    obtain ⟨x, ex, lx, hx⟩ := k1 l1.length FU 0 [] (by omega) (by show l1.length < 4611686018427387904; omega) (by omega) rfl (fun j h => by omega)
    rw [show ((0 : Nat) : Int) = 0 from rfl] at ex
    have hG' : Sparse.Good (u + c) x := ⟨fun i hi => by have := hG.rng i (by omega); rw [hx i (by omega)]; omega, fun i hi => by have := hG.up i (by omega); rw [hx i (by omega), hx (i + 1) (by omega)]; omega⟩
    have hu : u ≤ 4194304 := by omega
    have hu' : u + c ≤ 4194304 := by omega
    obtain ⟨S, eS, hS⟩ := new_ok hu (.inl (by omega)) hG
    obtain ⟨S', eS', hS'⟩ := new_ok hu' (.inl (by omega)) hG'
    rw [ex, Option.bind_some, eS, Option.bind_some, hc, wi_eq (n := (u : Int) + (c : Int)) (by omega) (by omega), show ((u : Int) + (c : Int)) = ((u + c : Nat) : Int) by omega, eS', Option.bind_some]
    simp only []
    rw [if_neg (by simp), if_neg (by simp), bound_ok hS', Option.bind_some, bound_ok hS, Option.bind_some, wi_eq (n := (u : Int) + (c : Int)) (by omega) (by omega), if_neg (by rw [bne_iff_ne]; omega), Option.bind_some, Option.bind_some]
    have key : ∀ (m k i : Nat), l1.length - i = m → m < k → colophonlaw03_SparseMoves.l2 l1 a2 S S' k (i : Int) = some (.inr ()) := by
      intro m
      induction m with
      | zero => intro k i hm hk; cases k with
        | zero => omega
        | succ k => unfold colophonlaw03_SparseMoves.l2; rw [if_neg (by simp; omega)]
      | succ m ih => intro k i hm hk; cases k with
        | zero => omega
        | succ k =>
          unfold colophonlaw03_SparseMoves.l2
          have hil : i < l1.length := by omega
          have hr := hG.rng i hil
          have hxi := hx i hil
          obtain ⟨r, er, hr1⟩ := rank_ok hS hG hu (l1.getD i 0)
          obtain ⟨r', er', hr1'⟩ := rank_ok hS' hG' hu' (l1.getD i 0 + (c : Int))
          have hrr : r' = r := rank_uniq hr1' ⟨by omega, fun j hj => by rw [hx j (by omega)]; have := hr1.2.1 j hj; omega, fun j hj hjl => by rw [hx j (by omega)]; have := hr1.2.2 j hj (by omega); omega⟩
          obtain ⟨b, eb, hb⟩ := has_ok hS' hG' hu' (l1.getD i 0 + (c : Int))
          have hbt : b = true := hb.2 ⟨i, by omega, hxi⟩
          rw [if_pos (by simp; omega), at_ok hS' hG' hu' (by omega), Option.bind_some, at_ok hS hG hu hil, Option.bind_some, hc, wi_eq (n := l1.getD i 0 + (c : Int)) (by omega) (by omega), hxi, if_neg (by simp), at_g hil, Option.bind_some, wi_eq (n := l1.getD i 0 + (c : Int)) (by omega) (by omega), er', Option.bind_some, er, Option.bind_some, hrr, if_neg (by simp), eb, Option.bind_some, hbt, if_neg (by simp), wi_eq (by omega) (by omega), show ((i : Int) + 1) = ((i + 1 : Nat) : Int) by omega]
          clear hb
          exact ih k (i + 1) (by omega) (by omega)
    have e := key l1.length FU 0 (by omega) (by show l1.length < 4611686018427387904; omega)
    rw [show ((0 : Nat) : Int) = 0 from rfl] at e
    rw [e, Option.bind_some]
    simp only []
    obtain ⟨r2, er2, hr2⟩ := rank_ok hS' hG' hu' (c : Int)
    have h2' : r2 = 0 := rank_uniq hr2 ⟨by omega, fun j hj => by omega, fun j hj hjl => by rw [hx j (by omega)]; have := (hG.rng j (by omega)).1; omega⟩
    rw [er2, Option.bind_some, h2']; rfl
end Go.Proofs.Ytomeiphaohjeoaa
