/-
  Suffixes in order, what they share, and the range of a pattern: what the references of tally answer. No condition.
-/
import Derived.Test.YtmdemfbkdbilpaaPuTallyA
namespace Go.Proofs.Ytmdemfbkdbilpaa
open Go Go.Gol
set_option linter.unusedVariables false
set_option linter.unusedSimpArgs false
set_option linter.unnecessarySimpa false
set_option maxRecDepth 100000
namespace Suf
open Docs (at_g getD_set ext_get)
def lx : List Int → List Int → Bool
  | [], [] => false
  | [], _ :: _ => true
  | _ :: _, [] => false
  | x :: xs, y :: ys => if x = y then lx xs ys else decide (x < y)
theorem lx_nil (c : List Int) : lx c [] = false := by cases c <;> rfl
theorem lx_asymm : ∀ (a b : List Int), lx a b = true → lx b a = false
  | [], b, h => lx_nil b
  | x :: xs, [], h => by simp [lx] at h
  | x :: xs, y :: ys, h => by
    simp only [lx] at h ⊢
    by_cases e : x = y
    · rw [if_pos e] at h; rw [if_pos e.symm]; exact lx_asymm xs ys h
    · rw [if_neg e, decide_eq_true_eq] at h; rw [if_neg (Ne.symm e), decide_eq_false (by omega)]
theorem le_trans : ∀ (a b c : List Int), lx b a = false → lx c b = false → lx c a = false
  | [], b, c, _, _ => lx_nil c
  | x :: xs, [], c, h, _ => by simp [lx] at h
  | x :: xs, y :: ys, [], _, h => by simp [lx] at h
  | x :: xs, y :: ys, z :: zs, h1, h2 => by
    simp only [lx] at h1 h2 ⊢
    by_cases e1 : y = x
    · rw [if_pos e1] at h1
      by_cases e2 : z = y
      · rw [if_pos e2] at h2; rw [if_pos (by omega)]; exact le_trans xs ys zs h1 h2
      · rw [if_neg e2] at h2
        have : ¬ z < y := of_decide_eq_false h2
        rw [if_neg (by omega), decide_eq_false (by omega)]
    · rw [if_neg e1] at h1
      have h1' : ¬ y < x := of_decide_eq_false h1
      by_cases e2 : z = y
      · rw [if_neg (by omega), decide_eq_false (by omega)]
      · rw [if_neg e2] at h2
        have : ¬ z < y := of_decide_eq_false h2
        rw [if_neg (by omega), decide_eq_false (by omega)]
def pre : List Int → List Int → Bool
  | [], _ => true
  | _ :: _, [] => false
  | x :: xs, y :: ys => decide (x = y) && pre xs ys
theorem pre_between : ∀ (p a b c : List Int), pre p a = true → pre p c = true → lx b a = false → lx c b = false → pre p b = true
  | [], _, _, _, _, _, _, _ => by simp [pre]
  | x :: xs, [], _, _, h, _, _, _ => by simp [pre] at h
  | x :: xs, _ :: _, _, [], _, h, _, _ => by simp [pre] at h
  | x :: xs, y :: ys, [], z :: zs, _, _, h, _ => by simp [lx] at h
  | x :: xs, y :: ys, w :: ws, z :: zs, h1, h2, h3, h4 => by
    simp only [pre, Bool.and_eq_true, decide_eq_true_eq] at h1 h2 ⊢
    simp only [lx] at h3 h4
    have hw : w = y := by
      by_cases e1 : w = y
      · exact e1
      · rw [if_neg e1] at h3
        have a1 : ¬ w < y := of_decide_eq_false h3
        rw [if_neg (by omega)] at h4
        have a2 : ¬ z < w := of_decide_eq_false h4
        omega
    rw [if_pos hw] at h3
    rw [if_pos (by omega)] at h4
    exact ⟨by omega, pre_between xs ys ws zs h1.2 h2.2 h3 h4⟩
def cp : List Int → List Int → Nat
  | x :: xs, y :: ys => if x = y then cp xs ys + 1 else 0
  | _, _ => 0
theorem cp_pre : ∀ (p a b : List Int), pre p a = true → pre p b = true → p.length ≤ cp a b
  | [], _, _, _, _ => Nat.zero_le _
  | x :: xs, [], _, h, _ => by simp [pre] at h
  | x :: xs, _ :: _, [], _, h => by simp [pre] at h
  | x :: xs, y :: ys, z :: zs, h1, h2 => by
    simp only [pre, Bool.and_eq_true, decide_eq_true_eq] at h1 h2
    simp only [cp]
    rw [if_pos (by omega)]
    have := cp_pre xs ys zs h1.2 h2.2
    simp only [List.length_cons]; omega
theorem pre_cp : ∀ (p a b : List Int), pre p a = true → p.length ≤ cp a b → pre p b = true
  | [], _, _, _, _ => by simp [pre]
  | x :: xs, [], _, h, _ => by simp [pre] at h
  | x :: xs, y :: ys, [], _, h => by simp [cp] at h
  | x :: xs, y :: ys, z :: zs, h1, h2 => by
    simp only [pre, Bool.and_eq_true, decide_eq_true_eq] at h1 ⊢
    simp only [cp, List.length_cons] at h2
    by_cases e : y = z
    · rw [if_pos e] at h2
      exact ⟨by omega, pre_cp xs ys zs h1.2 (by omega)⟩
    · rw [if_neg e] at h2; omega
theorem cp_comm : ∀ (a b : List Int), cp a b = cp b a
  | [], [] => rfl
  | [], _ :: _ => rfl
  | _ :: _, [] => rfl
  | x :: xs, y :: ys => by
    simp only [cp]
    by_cases e : x = y
    · rw [if_pos e, if_pos e.symm, cp_comm xs ys]
    · rw [if_neg e, if_neg (Ne.symm e)]
theorem drop_at {s : List Int} {a : Nat} (h : a < s.length) : s.drop a = s.getD a 0 :: s.drop (a + 1) := by
  rw [List.drop_eq_getElem_cons h, List.getD_eq_getElem?_getD, List.getElem?_eq_getElem h]; rfl
theorem drop_end {s : List Int} {a : Nat} (h : s.length ≤ a) : s.drop a = [] := List.drop_eq_nil_of_le h
theorem less_ok (s : List Int) (hs : s.length ≤ 1000000) (a b : Nat) (ha : a ≤ s.length) (hb : b ≤ s.length) : colophonref09_Less.f s (a : Int) (b : Int) = some (lx (s.drop a) (s.drop b)) := by
  have key : ∀ (m k a b : Nat), s.length - a = m → m < k → a ≤ s.length → b ≤ s.length → ∃ o, colophonref09_Less.l1 s k (a : Int) (b : Int) = some o ∧ (match o with | .inl o14 => some o14 | .inr o18 => (if (o18.1 == (s.length : Int)) then some (decide (o18.2 < (s.length : Int))) else some false)) = some (lx (s.drop a) (s.drop b)) := by
    intro m
    induction m with
    | zero => intro k a b hm hk ha hb; cases k with
      | zero => omega
      | succ k =>
        unfold colophonref09_Less.l1; rw [if_neg (by rw [decide_eq_true_eq]; omega)]
        refine ⟨_, rfl, ?_⟩
        simp only []
        rw [if_pos (by rw [beq_iff_eq]; omega), drop_end (show s.length ≤ a by omega)]
        by_cases h : b < s.length
        · rw [drop_at h, decide_eq_true (by omega)]; rfl
        · rw [drop_end (show s.length ≤ b by omega), decide_eq_false (by omega)]; rfl
    | succ m ih => intro k a b hm hk ha hb; cases k with
      | zero => omega
      | succ k =>
        unfold colophonref09_Less.l1
        rw [if_pos (by rw [decide_eq_true_eq]; omega)]
        by_cases h : b < s.length
        · rw [if_pos (by rw [decide_eq_true_eq]; omega), at_g (show a < s.length by omega), Option.bind_some, at_g h, Option.bind_some, drop_at (show a < s.length by omega), drop_at h]
          simp only [lx]
          by_cases e : s.getD a 0 = s.getD b 0
          · rw [if_neg (by rw [bne_iff_ne]; exact fun h => h e), if_pos e, wi_eq (by omega) (by omega), wi_eq (by omega) (by omega), show ((a : Int) + 1) = ((a + 1 : Nat) : Int) by omega, show ((b : Int) + 1) = ((b + 1 : Nat) : Int) by omega]
            exact ih k (a + 1) (b + 1) (by omega) (by omega) (by omega) (by omega)
          · rw [if_pos (by rw [bne_iff_ne]; exact e), if_neg e]; exact ⟨_, rfl, rfl⟩
        · rw [if_neg (by rw [decide_eq_true_eq]; omega)]
          refine ⟨_, rfl, ?_⟩
          simp only []
          rw [if_neg (by rw [beq_iff_eq]; omega), drop_end (show s.length ≤ b by omega), lx_nil]
  obtain ⟨o, e1, e2⟩ := key (s.length - a) FU a b rfl (by show s.length - a < 4611686018427387904; omega) ha hb
  unfold colophonref09_Less.f
  rw [e1, Option.bind_some]; exact e2
/-- a place of the row, from the array -/
abbrev pl (x : List Int) (j : Nat) : Nat := (x.getD j 0).toNat
abbrev sx (s x : List Int) (j : Nat) : List Int := s.drop (pl x j)
/-- suffixes in order -/
structure Ord (s x : List Int) : Prop where
  rng : ∀ j, j < x.length → 0 ≤ x.getD j 0 ∧ x.getD j 0 < (s.length : Int)
  ord : ∀ i j, i < j → j < x.length → lx (sx s x j) (sx s x i) = false
theorem shift_ok (x : List Int) (hx : x.length ≤ 1000000) (o : Nat) (ho : o < x.length) : ∃ y, colophonref09_Array.l3 (o : Int) FU x (wi ((x.length : Int) - 1)) = some y ∧ y.length = x.length ∧ ∀ j, j < x.length → y.getD j 0 = if j ≤ o then x.getD j 0 else x.getD (j - 1) 0 := by
  have key : ∀ (t k : Nat) (y : List Int), t < k → o + t < x.length → y.length = x.length → (∀ j, j ≤ o + t → y.getD j 0 = x.getD j 0) → (∀ j, o + t < j → j < x.length → y.getD j 0 = x.getD (j - 1) 0) → ∃ y', colophonref09_Array.l3 (o : Int) k y ((o + t : Nat) : Int) = some y' ∧ y'.length = x.length ∧ ∀ j, j < x.length → y'.getD j 0 = if j ≤ o then x.getD j 0 else x.getD (j - 1) 0 := by
    intro t
    induction t with
    | zero => intro k y hk ht hy h1 h2; cases k with
      | zero => omega
      | succ k =>
        unfold colophonref09_Array.l3; rw [if_neg (by rw [decide_eq_true_eq]; omega)]
        refine ⟨y, rfl, hy, fun j hj => ?_⟩
        by_cases e : j ≤ o
        · rw [if_pos e]; exact h1 j (by omega)
        · rw [if_neg e]; exact h2 j (by omega) hj
    | succ t ih => intro k y hk ht hy h1 h2; cases k with
      | zero => omega
      | succ k =>
        unfold colophonref09_Array.l3
        rw [if_pos (by rw [decide_eq_true_eq]; omega), wi_eq (by omega) (by omega), show ((o + (t + 1) : Nat) : Int) - 1 = ((o + t : Nat) : Int) by omega, at_g (show o + t < y.length by omega), Option.bind_some, at_g (show o + (t + 1) < y.length by omega), Option.bind_some, set?_nat _ (show o + (t + 1) < y.length by omega), Option.bind_some]
        refine ih k _ (by omega) (by omega) (by simpa using hy) (fun j hj => ?_) (fun j hj hjl => ?_)
        · rw [getD_set (by omega), if_neg (by omega)]; exact h1 j (by omega)
        · rw [getD_set (by omega)]
          by_cases e : j = o + (t + 1)
          · rw [if_pos e, h1 (o + t) (by omega), show j - 1 = o + t by omega]
          · rw [if_neg e]; exact h2 j (by omega) hjl
  rw [wi_eq (by omega) (by omega), show ((x.length : Int) - 1) = ((o + (x.length - 1 - o) : Nat) : Int) by omega]
  exact key (x.length - 1 - o) FU x (by show x.length - 1 - o < 4611686018427387904; omega) (by omega) rfl (fun j _ => rfl) (fun j h1 h2 => by omega)
theorem array_ok (s : List Int) (hs : s.length ≤ 1000000) : ∃ x, colophonref09_Array.f s = some x ∧ x.length = s.length ∧ Ord s x := by
  have k2 : ∀ (x : List Int) (i : Nat), i < s.length → x.length ≤ s.length → Ord s x → ∀ (m k j : Nat), x.length - j = m → m < k → j ≤ x.length → (∀ t, t < j → lx (sx s x t) (s.drop i) = true) →
      ∃ o : Nat, colophonref09_Array.l2 s x (i : Int) k (j : Int) = some (o : Int) ∧ o ≤ x.length ∧ (∀ t, t < o → lx (sx s x t) (s.drop i) = true) ∧ (o < x.length → lx (sx s x o) (s.drop i) = false) := by
    intro x i hi hx hO m
    induction m with
    | zero => intro k j hm hk hj h; cases k with
      | zero => omega
      | succ k => unfold colophonref09_Array.l2; rw [if_neg (by rw [decide_eq_true_eq]; omega)]; exact ⟨j, rfl, hj, h, fun h => by omega⟩
    | succ m ih => intro k j hm hk hj h; cases k with
      | zero => omega
      | succ k =>
        unfold colophonref09_Array.l2
        have hr := hO.rng j (by omega)
        have hp : x.getD j 0 = ((pl x j : Nat) : Int) := by unfold pl; omega
        rw [if_pos (by rw [decide_eq_true_eq]; omega), at_g (show j < x.length by omega), Option.bind_some, hp, less_ok s hs _ _ (by omega) (by omega), Option.bind_some]
        cases e : lx (sx s x j) (s.drop i) with
        | true =>
          rw [if_pos rfl, wi_eq (by omega) (by omega), show ((j : Int) + 1) = ((j + 1 : Nat) : Int) by omega]
          exact ih k (j + 1) (by omega) (by omega) (by omega) (fun t ht => by
            by_cases e' : t = j
            · rw [e']; exact e
            · exact h t (by omega))
        | false => rw [if_neg (by simp)]; exact ⟨j, rfl, hj, h, fun _ => e⟩
  have key : ∀ (m k i : Nat) (x : List Int), s.length - i = m → m < k → i ≤ s.length → x.length = i → Ord s x → ∃ x', colophonref09_Array.l1 s k x (i : Int) = some x' ∧ x'.length = s.length ∧ Ord s x' := by
    intro m
    induction m with
    | zero => intro k i x hm hk hi hx hO; cases k with
      | zero => omega
      | succ k => unfold colophonref09_Array.l1; rw [if_neg (by rw [decide_eq_true_eq]; omega)]; exact ⟨x, rfl, by omega, hO⟩
    | succ m ih => intro k i x hm hk hi hx hO; cases k with
      | zero => omega
      | succ k =>
        unfold colophonref09_Array.l1
        have hil : i < s.length := by omega
        obtain ⟨o, e, ho, h1, h2⟩ := k2 x i hil (by omega) hO x.length FU 0 (by omega) (by show x.length < 4611686018427387904; omega) (by omega) (fun t h => by omega)
        rw [show ((0 : Nat) : Int) = 0 from rfl] at e
        obtain ⟨y, ey, ly, hy⟩ := shift_ok (x ++ [0]) (by simp; omega) o (by simp; omega)
        have ly' : y.length = i + 1 := by rw [ly]; simp [hx]
        rw [if_pos (by rw [decide_eq_true_eq]; omega), e, Option.bind_some, app?_eq (by simp; omega), Option.bind_some, ey, Option.bind_some, at_g (show o < y.length by omega), Option.bind_some, set?_nat _ (show o < y.length by omega), Option.bind_some, wi_eq (by omega) (by omega), show ((i : Int) + 1) = ((i + 1 : Nat) : Int) by omega]
        have hg : ∀ j, j < i + 1 → (y.set o (i : Int)).getD j 0 = if j < o then x.getD j 0 else if j = o then (i : Int) else x.getD (j - 1) 0 := fun j hj => by
          have happ : ∀ t, t < i → (x ++ [0]).getD t 0 = x.getD t 0 := fun t ht => by rw [List.getD_eq_getElem?_getD, List.getElem?_append_left (by omega), ← List.getD_eq_getElem?_getD]
          rw [getD_set (by omega)]
          by_cases e1 : j = o
          · rw [if_pos e1, if_neg (by omega), if_pos e1]
          · rw [if_neg e1, hy j (by simp; omega)]
            by_cases e2 : j < o
            · rw [if_pos (by omega), if_pos e2, happ j (by omega)]
            · rw [if_neg (by omega), if_neg e2, if_neg e1, happ (j - 1) (by omega)]
        have hl' : (y.set o (i : Int)).length = i + 1 := by simpa using ly'
        refine ih k (i + 1) _ (by omega) (by omega) (by omega) hl' ⟨fun j hj => ?_, fun a b hab hb => ?_⟩
        · rw [hl'] at hj
          rw [hg j hj]
          split
          · exact hO.rng j (by omega)
          · split
            · omega
            · exact hO.rng (j - 1) (by omega)
        · rw [hl'] at hb
          show lx (s.drop ((y.set o (i : Int)).getD b 0).toNat) (s.drop ((y.set o (i : Int)).getD a 0).toNat) = false
          rw [hg a (by omega), hg b hb]
          by_cases b1 : b < o
          · rw [if_pos b1, if_pos (show a < o by omega)]; exact hO.ord a b hab (by omega)
          · rw [if_neg b1]
            by_cases b2 : b = o
            · rw [if_pos b2, if_pos (show a < o by omega), Int.toNat_natCast]; exact lx_asymm _ _ (h1 a (by omega))
            · rw [if_neg b2]
              have hob : o < x.length := by omega
              by_cases a1 : a < o
              · rw [if_pos a1]; exact hO.ord a (b - 1) (by omega) (by omega)
              · rw [if_neg a1]
                by_cases a2 : a = o
                · rw [if_pos a2, Int.toNat_natCast]
                  by_cases e3 : b - 1 = o
                  · rw [e3]; exact h2 hob
                  · exact le_trans _ _ _ (h2 hob) (hO.ord o (b - 1) (by omega) (by omega))
                · rw [if_neg a2]; exact hO.ord (a - 1) (b - 1) (by omega) (by omega)
  obtain ⟨x, e, h1, h2⟩ := key s.length FU 0 [] (by omega) (by show s.length < 4611686018427387904; omega) (by omega) rfl ⟨fun j h => by simp at h, fun i j _ h => by simp at h⟩
  rw [show ((0 : Nat) : Int) = 0 from rfl] at e
  unfold colophonref09_Array.f
  rw [e]; exact ⟨x, rfl, h1, h2⟩
theorem stands_ok (s p : List Int) (hs : s.length ≤ 1000000) (hp : p.length ≤ 1000000) (a : Nat) (ha : a ≤ s.length) : colophonref15_Stands.f s p (a : Int) = some (pre p (s.drop a)) := by
  unfold colophonref15_Stands.f
  have short : ∀ (p q : List Int), q.length < p.length → pre p q = false := by
    intro p
    induction p with
    | nil => intro q h; simp at h
    | cons x xs ih => intro q h; cases q with
      | nil => rfl
      | cons y ys =>
        simp only [pre]; rw [ih ys (by simp at h; omega)]; simp
  rw [wi_eq (n := (s.length : Int) - (a : Int)) (by omega) (by omega)]
  by_cases h : (s.length : Int) - (a : Int) < (p.length : Int)
  · rw [if_pos (by simpa using h), short p (s.drop a) (by rw [List.length_drop]; omega)]
  rw [if_neg (by simpa using h)]
  have key : ∀ (m k j : Nat), p.length - j = m → m < k → j ≤ p.length → ∃ o, colophonref15_Stands.l1 s p (a : Int) k (j : Int) = some o ∧ (match o with | .inl o12 => some o12 | .inr o16 => some true) = some (pre (p.drop j) (s.drop (a + j))) := by
    intro m
    induction m with
    | zero => intro k j hm hk hj; cases k with
      | zero => omega
      | succ k => unfold colophonref15_Stands.l1; rw [if_neg (by rw [decide_eq_true_eq]; omega), drop_end (s := p) (show p.length ≤ j by omega)]; exact ⟨_, rfl, rfl⟩
    | succ m ih => intro k j hm hk hj; cases k with
      | zero => omega
      | succ k =>
        unfold colophonref15_Stands.l1
        have hjp : j < p.length := by omega
        rw [if_pos (by rw [decide_eq_true_eq]; omega), wi_eq (n := (a : Int) + (j : Int)) (by omega) (by omega), show ((a : Int) + (j : Int)) = ((a + j : Nat) : Int) by omega, at_g (show a + j < s.length by omega), Option.bind_some, at_g hjp, Option.bind_some, drop_at hjp, drop_at (show a + j < s.length by omega)]
        simp only [pre]
        by_cases e : s.getD (a + j) 0 = p.getD j 0
        · rw [if_neg (by rw [bne_iff_ne]; exact fun h => h e), decide_eq_true e.symm, Bool.true_and, wi_eq (by omega) (by omega), show ((j : Int) + 1) = ((j + 1 : Nat) : Int) by omega]
          exact ih k (j + 1) (by omega) (by omega) (by omega)
        · rw [if_pos (by rw [bne_iff_ne]; exact e), decide_eq_false (fun h => e h.symm)]; exact ⟨_, rfl, rfl⟩
  obtain ⟨o, e1, e2⟩ := key p.length FU 0 (by omega) (by show p.length < 4611686018427387904; omega) (by omega)
  rw [show ((0 : Nat) : Int) = 0 from rfl] at e1
  rw [e1, Option.bind_some]; exact e2
theorem common_ok (s : List Int) (hs : s.length ≤ 1000000) (a b : Nat) (ha : a < s.length) (hb : b < s.length) : colophonref10_Common.f s (a : Int) (b : Int) = some ((cp (s.drop a) (s.drop b) : Nat) : Int) := by
  unfold colophonref10_Common.f
  rw [if_neg (by simp), if_neg (by simp), if_neg (by rw [decide_eq_true_eq]; omega), if_neg (by rw [decide_eq_true_eq]; omega), at_g ha, Option.bind_some, at_g hb, Option.bind_some, drop_at ha, drop_at hb]
  simp only [cp]
  by_cases e : s.getD a 0 = s.getD b 0
  · rw [if_neg (by rw [bne_iff_ne]; exact fun h => h e), if_pos e]
    have key : ∀ (m k c t : Nat), s.length - t = m → m < k → t ≤ s.length → b + c ≤ s.length → c ≤ s.length → colophonref10_Common.l1 s (b : Int) k (c : Int) (t : Int) = some ((c + cp (s.drop t) (s.drop (b + c)) : Nat) : Int) := by
      intro m
      induction m with
      | zero => intro k c t hm hk ht hc hc2; cases k with
        | zero => omega
        | succ k => unfold colophonref10_Common.l1; rw [if_neg (by rw [decide_eq_true_eq]; omega), drop_end (show s.length ≤ t by omega)]; rfl
      | succ m ih => intro k c t hm hk ht hc hc2; cases k with
        | zero => omega
        | succ k =>
          unfold colophonref10_Common.l1
          rw [if_pos (by rw [decide_eq_true_eq]; omega), wi_eq (n := (b : Int) + (c : Int)) (by omega) (by omega), show ((b : Int) + (c : Int)) = ((b + c : Nat) : Int) by omega]
          by_cases h : b + c < s.length
          · rw [if_pos (by rw [decide_eq_true_eq]; omega), at_g (show t < s.length by omega), Option.bind_some, at_g h, Option.bind_some, drop_at (show t < s.length by omega), drop_at h]
            simp only [cp]
            by_cases e : s.getD t 0 = s.getD (b + c) 0
            · rw [if_neg (by rw [bne_iff_ne]; exact fun h => h e), if_pos e, wi_eq (by omega) (by omega), wi_eq (by omega) (by omega), show ((c : Int) + 1) = ((c + 1 : Nat) : Int) by omega, show ((t : Int) + 1) = ((t + 1 : Nat) : Int) by omega, ih k (c + 1) (t + 1) (by omega) (by omega) (by omega) (by omega) (by omega), show b + (c + 1) = b + c + 1 by omega]
              congr 2; omega
            · rw [if_pos (by rw [bne_iff_ne]; exact e), if_neg e]; rfl
          · rw [if_neg (by rw [decide_eq_true_eq]; omega), drop_end (s := s) (a := b + c) (by omega)]
            have : cp (s.drop t) [] = 0 := by cases s.drop t <;> rfl
            rw [this]; rfl
    have := key (s.length - (a + 1)) FU 1 (a + 1) rfl (by show s.length - (a + 1) < 4611686018427387904; omega) (by omega) (by omega) (by omega)
    rw [show ((1 : Nat) : Int) = 1 from rfl] at this
    rw [wi_eq (by omega) (by omega), show ((a : Int) + 1) = ((a + 1 : Nat) : Int) by omega, this, Option.bind_some]
    congr 2; omega
  · rw [if_pos (by rw [bne_iff_ne]; exact e), if_neg e]; rfl
/-- what neighbours share -/
theorem lcp_ok (s x : List Int) (hs : s.length ≤ 1000000) (hx : x.length = s.length) (hO : Ord s x) : ∃ h, colophonref10_Array.f s x = some h ∧ h.length = x.length ∧ ∀ i, 0 < i → i < x.length → h.getD i 0 = ((cp (sx s x (i - 1)) (sx s x i) : Nat) : Int) := by
  have key : ∀ (m k i : Nat) (h : List Int), x.length - i = m → m < k → i ≤ x.length → h.length = i → (∀ j, 0 < j → j < i → h.getD j 0 = ((cp (sx s x (j - 1)) (sx s x j) : Nat) : Int)) → ∃ h', colophonref10_Array.l1 s x k h (i : Int) = some h' ∧ h'.length = x.length ∧ ∀ j, 0 < j → j < x.length → h'.getD j 0 = ((cp (sx s x (j - 1)) (sx s x j) : Nat) : Int) := by
    intro m
    induction m with
    | zero => intro k i h hm hk hi hh hj; cases k with
      | zero => omega
      | succ k => unfold colophonref10_Array.l1; rw [if_neg (by rw [decide_eq_true_eq]; omega)]; exact ⟨h, rfl, by omega, fun j a b => hj j a (by omega)⟩
    | succ m ih => intro k i h hm hk hi hh hj; cases k with
      | zero => omega
      | succ k =>
        unfold colophonref10_Array.l1
        have hil : i < x.length := by omega
        have tail : ∀ v : Int, (0 < i → v = ((cp (sx s x (i - 1)) (sx s x i) : Nat) : Int)) → ∀ j, 0 < j → j < i + 1 → (h ++ [v]).getD j 0 = ((cp (sx s x (j - 1)) (sx s x j) : Nat) : Int) := fun v hv j h0 h1 => by
          rw [List.getD_eq_getElem?_getD]
          rcases Nat.lt_or_ge j i with h' | h'
          · rw [List.getElem?_append_left (by omega), ← List.getD_eq_getElem?_getD]; exact hj j h0 h'
          · have : j = i := by omega
            subst this
            rw [List.getElem?_append_right (by omega), hh, Nat.sub_self]; exact hv h0
        rw [if_pos (by rw [decide_eq_true_eq]; omega), at_g hil, Option.bind_some, wi_eq (n := (i : Int) + 1) (by omega) (by omega), show ((i : Int) + 1) = ((i + 1 : Nat) : Int) by omega]
        by_cases h0 : i = 0
        · rw [if_pos (by rw [beq_iff_eq]; omega), app?_eq (by simp; omega), Option.bind_some]
          exact ih k (i + 1) _ (by omega) (by omega) (by omega) (by simp [hh]) (tail 0 (fun h => by omega))
        · have r1 := hO.rng i hil
          have r2 := hO.rng (i - 1) (by omega)
          rw [if_neg (by rw [beq_iff_eq]; omega), wi_eq (by omega) (by omega), show ((i : Int) - 1) = ((i - 1 : Nat) : Int) by omega, at_g (show i - 1 < x.length by omega), Option.bind_some, show x.getD (i - 1) 0 = ((pl x (i - 1) : Nat) : Int) by unfold pl; omega, show x.getD i 0 = ((pl x i : Nat) : Int) by unfold pl; omega, common_ok s hs _ _ (by unfold pl; omega) (by unfold pl; omega), Option.bind_some, app?_eq (by simp; omega), Option.bind_some]
          exact ih k (i + 1) _ (by omega) (by omega) (by omega) (by simp [hh]) (tail _ (fun _ => rfl))
  obtain ⟨h, e, h1, h2⟩ := key x.length FU 0 [] (by omega) (by show x.length < 4611686018427387904; omega) (by omega) rfl (fun j a b => by omega)
  rw [show ((0 : Nat) : Int) = 0 from rfl] at e
  unfold colophonref10_Array.f
  rw [e]; exact ⟨h, rfl, h1, h2⟩
/-- the range of a pattern -/
def Rng (s x p : List Int) (a b : Nat) : Prop := (a = 0 ∧ b = 0) ∨ (a < b ∧ b ≤ x.length ∧ pre p (sx s x a) = true ∧ pre p (sx s x (b - 1)) = true ∧ (∀ j, j < a → pre p (sx s x j) = false) ∧ ∀ j, b ≤ j → j < x.length → pre p (sx s x j) = false)
theorem range_ok (s x p : List Int) (hs : s.length ≤ 1000000) (hp : p.length ≤ 1000000) (hx : x.length = s.length) (hO : Ord s x) : ∃ a b : Nat, colophonref15_Range.f s x p = some ((a : Int), (b : Int)) ∧ Rng s x p a b := by
  have key : ∀ (m k i a b : Nat), x.length - i = m → m < k → i ≤ x.length → ((a = 0 ∧ b = 0 ∧ ∀ j, j < i → pre p (sx s x j) = false) ∨ (a < b ∧ b ≤ i ∧ pre p (sx s x a) = true ∧ pre p (sx s x (b - 1)) = true ∧ (∀ j, j < a → pre p (sx s x j) = false) ∧ ∀ j, b ≤ j → j < i → pre p (sx s x j) = false)) →
      ∃ a' b' : Nat, colophonref15_Range.l1 s x p k (a : Int) (b : Int) (i : Int) = some ((a' : Int), (b' : Int)) ∧ Rng s x p a' b' := by
    intro m
    induction m with
    | zero => intro k i a b hm hk hi h; cases k with
      | zero => omega
      | succ k =>
        unfold colophonref15_Range.l1; rw [if_neg (by rw [decide_eq_true_eq]; omega)]
        have : i = x.length := by omega
        subst this
        refine ⟨a, b, rfl, ?_⟩
        rcases h with ⟨h1, h2, _⟩ | h
        · exact .inl ⟨h1, h2⟩
        · exact .inr h
    | succ m ih => intro k i a b hm hk hi h; cases k with
      | zero => omega
      | succ k =>
        unfold colophonref15_Range.l1
        have hil : i < x.length := by omega
        have r1 := hO.rng i hil
        rw [if_pos (by rw [decide_eq_true_eq]; omega), at_g hil, Option.bind_some, show x.getD i 0 = ((pl x i : Nat) : Int) by unfold pl; omega, stands_ok s p hs hp _ (by unfold pl; omega), Option.bind_some, wi_eq (n := (i : Int) + 1) (by omega) (by omega), show ((i : Int) + 1) = ((i + 1 : Nat) : Int) by omega]
        cases e : pre p (sx s x i) with
        | true =>
          rw [if_pos rfl]
          rcases h with ⟨h1, h2, h3⟩ | ⟨h1, h2, h3, h4, h5, h6⟩
          · rw [if_pos (by rw [beq_iff_eq]; omega)]
            exact ih k (i + 1) i (i + 1) (by omega) (by omega) (by omega) (.inr ⟨by omega, by omega, e, by rw [Nat.add_sub_cancel]; exact e, h3, fun j a b => by omega⟩)
          · rw [if_neg (by rw [beq_iff_eq]; omega)]
            exact ih k (i + 1) a (i + 1) (by omega) (by omega) (by omega) (.inr ⟨by omega, by omega, h3, by rw [Nat.add_sub_cancel]; exact e, h5, fun j a b => by omega⟩)
        | false =>
          rw [if_neg (by simp)]
          refine ih k (i + 1) a b (by omega) (by omega) (by omega) ?_
          have ext : ∀ c, (∀ j, c ≤ j → j < i → pre p (sx s x j) = false) → ∀ j, c ≤ j → j < i + 1 → pre p (sx s x j) = false := fun c hc j a b => by
            by_cases e' : j = i
            · rw [e']; exact e
            · exact hc j a (by omega)
          rcases h with ⟨h1, h2, h3⟩ | ⟨h1, h2, h3, h4, h5, h6⟩
          · exact .inl ⟨h1, h2, fun j hj => ext 0 (fun j _ b => h3 j b) j (by omega) hj⟩
          · exact .inr ⟨h1, by omega, h3, h4, h5, ext b h6⟩
  obtain ⟨a, b, e, h⟩ := key x.length FU 0 0 0 (by omega) (by show x.length < 4611686018427387904; omega) (by omega) (.inl ⟨rfl, rfl, fun j h => by omega⟩)
  rw [show ((0 : Nat) : Int) = 0 from rfl] at e
  unfold colophonref15_Range.f
  rw [e]; exact ⟨a, b, rfl, h⟩
theorem Rng.all {s x p : List Int} {a b : Nat} (h : Rng s x p a b) (hO : Ord s x) : ∀ j, a ≤ j → j < b → pre p (sx s x j) = true := by
  intro j hj1 hj2
  rcases h with ⟨h1, h2⟩ | ⟨h1, h2, h3, h4, h5, h6⟩
  · omega
  · by_cases e1 : j = a
    · rw [e1]; exact h3
    · by_cases e2 : j = b - 1
      · rw [e2]; exact h4
      · exact pre_between p _ _ _ h3 h4 (hO.ord a j (by omega) (by omega)) (hO.ord j (b - 1) (by omega) (by omega))
end Suf
end Go.Proofs.Ytmdemfbkdbilpaa
