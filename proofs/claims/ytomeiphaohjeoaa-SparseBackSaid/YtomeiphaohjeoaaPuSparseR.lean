/-
  What the reference of layer sparse writes down. No condition.
-/
import Derived.Test.YtomeiphaohjeoaaPuSparseB
import Derived.Test.YtomeiphaohjeoaaPuRefw
namespace Go.Proofs.Ytomeiphaohjeoaa
open Go Go.Gol
set_option linter.unusedVariables false
set_option linter.unusedSimpArgs false
set_option maxRecDepth 100000
namespace Sparse
open Pack Cnt Rank
theorem refWidth_ok {u n w m : Nat} (hs : Shape u n w m) (hn : 0 < n) (hu : u ≤ 4194304) : colophonref03_Width.f (u : Int) (n : Int) = some (w : Int) := by
  obtain ⟨_, h1, h2⟩ := hs.pos hn
  have hw := hs.hw
  obtain ⟨q, hq⟩ : ∃ q, q = u / n := ⟨_, rfl⟩
  rw [← hq] at h1 h2
  have hqu : q ≤ u := by rw [hq]; exact Nat.div_le_self _ _
  have key : ∀ (k t : Nat), t ≤ 24 → 30 - t < k → (t = 0 ∨ 2 ^ (t - 1) ≤ q) → ∃ c : Int, colophonref03_Width.l1 k ((t : Int) - 1) ((q / 2 ^ t : Nat) : Int) = some c ∧ imax c 0 = (w : Int) := by
    intro k
    induction k with
    | zero => intro t ht hk; omega
    | succ k ih =>
      intro t ht hk hp
      unfold colophonref03_Width.l1
      by_cases h0 : q / 2 ^ t = 0
      · rw [h0, if_neg (by simp)]
        refine ⟨_, rfl, ?_⟩
        have hlt : q < 2 ^ t := by
          rcases Nat.div_eq_zero_iff.1 h0 with h | h
          · have : 0 < 2 ^ t := Nat.pow_pos (by decide)
            omega
          · exact h
        have lt_of : ∀ a b : Nat, 2 ^ a < 2 ^ b → a < b := fun a b h => (Nat.pow_lt_pow_iff_right (a := 2) (by decide)).1 h
        rcases hp with h | h
        · subst h
          rcases h2 with h3 | h3
          · subst h3; rfl
          · have := lt_of w 0 (by omega); omega
        · have a1 := lt_of (t - 1) (w + 1) (by omega)
          rcases h2 with h3 | h3
          · subst h3; unfold imax; split <;> omega
          · have a2 := lt_of w t (by omega)
            unfold imax; split <;> omega
      · have hge : 2 ^ t ≤ q := by
          rcases Nat.lt_or_ge q (2 ^ t) with h | h
          · exact absurd (Nat.div_eq_of_lt h) h0
          · exact h
        have ht' : t < 23 := by
          have : 2 ^ t < 2 ^ 23 := by rw [show (2 : Nat) ^ 23 = 8388608 from rfl]; omega
          exact (Nat.pow_lt_pow_iff_right (a := 2) (by decide)).1 this
        have e : wi (Int.tdiv ((q / 2 ^ t : Nat) : Int) 2) = ((q / 2 ^ (t + 1) : Nat) : Int) := by
          have : q / 2 ^ (t + 1) = q / 2 ^ t / 2 := by rw [Nat.pow_succ, Nat.div_div_eq_div_mul]
          have hle : q / 2 ^ t ≤ q := Nat.div_le_self _ _
          rw [this]
          generalize q / 2 ^ t = z at *
          rw [Int.tdiv_eq_ediv_of_nonneg (by omega), wi_eq (by omega) (by omega)]; omega
        have hz : (0 : Int) < ((q / 2 ^ t : Nat) : Int) := Int.natCast_pos.2 (Nat.pos_of_ne_zero h0)
        rw [if_pos (decide_eq_true hz), e, wi_eq (by omega) (by omega), show ((t : Int) - 1 + 1) = ((t + 1 : Nat) : Int) - 1 by omega]
        exact ih (t + 1) (by omega) (by omega) (.inr (by rw [Nat.add_sub_cancel]; exact hge))
  unfold colophonref03_Width.f
  have e : wi (Int.tdiv (u : Int) (n : Int)) = (q : Int) := by
    have : Int.tdiv (u : Int) (n : Int) = ((u / n : Nat) : Int) := by rw [Int.tdiv_eq_ediv_of_nonneg (by omega)]; norm_cast
    rw [this, ← hq, wi_eq (by omega) (by omega)]
  obtain ⟨c, ec, hc⟩ := key FU 0 (by omega) (by show 30 - 0 < 4611686018427387904; omega) (.inl rfl)
  rw [show (((0 : Nat) : Int) - 1) = -1 from rfl, show q / 2 ^ 0 = q by simp] at ec
  rw [chk?_eq (decide_eq_true (by omega)), Option.bind_some, e, ec, Option.bind_some, hc]
theorem refPow_ok (l : List Int) (w : Nat) (hw : w ≤ 22) : colophonref03_Words.l1 l (w : Int) FU 1 0 = some ((2 ^ w : Nat) : Int) := by
  have key : ∀ (m k t : Nat), w - t = m → m < k → t ≤ w → colophonref03_Words.l1 l (w : Int) k ((2 ^ t : Nat) : Int) (t : Int) = some ((2 ^ w : Nat) : Int) := by
    intro m
    induction m with
    | zero => intro k t hm hk ht; cases k with
      | zero => omega
      | succ k => unfold colophonref03_Words.l1; rw [if_neg (by simp; omega), show t = w by omega]
    | succ m ih => intro k t hm hk ht; cases k with
      | zero => omega
      | succ k =>
        unfold colophonref03_Words.l1
        have h2 : 2 ^ t ≤ 2 ^ 22 := Nat.pow_le_pow_right (by decide) (by omega)
        rw [show (2 : Nat) ^ 22 = 4194304 from rfl] at h2
        have e : wi (2 * ((2 ^ t : Nat) : Int)) = ((2 ^ (t + 1) : Nat) : Int) := by
          rw [Nat.pow_succ]; generalize 2 ^ t = z at *
          rw [wi_eq (by omega) (by omega)]; omega
        rw [if_pos (by simp; omega), e, wi_eq (by omega) (by omega), show ((t : Int) + 1) = ((t + 1 : Nat) : Int) by omega]
        exact ih k (t + 1) (by omega) (by omega) (by omega)
  have := key w FU 0 (by omega) (by show w < 4611686018427387904; omega) (by omega)
  rw [show ((2 ^ 0 : Nat) : Int) = 1 from rfl, show ((0 : Nat) : Int) = 0 from rfl] at this
  exact this
theorem getD_set {l : List Int} {i j : Nat} {v : Int} (h : i < l.length) : (l.set i v).getD j 0 = if j = i then v else l.getD j 0 := by
  rw [List.getD_eq_getElem?_getD, List.getElem?_set]
  by_cases e : i = j
  · subst e; rw [if_pos rfl, if_pos h, if_pos rfl]; rfl
  · rw [if_neg e, if_neg (Ne.symm e), ← List.getD_eq_getElem?_getD]
/-- the words of the set -/
theorem words_ok {S : Int × Int × Int × (Option (Int × (List Int) × (List Int) × Int)) × (Option (Int × Int × (List Int))) × (Option (Int × Int × (List Int)))} {u : Nat} {l : List Int} (h : SetOk S u l) (hG : Good u l) (hu : u ≤ 100000) :
    ∃ W1 W2 : List Int, sparse_Set_Words.f (some S) = some (W1, W2) ∧ colophonref03_Words.f (u : Int) l = some (W1, W2) ∧ W1.length ≤ 1000000 ∧ W2.length ≤ 10000000 := by
  obtain ⟨w, m, V, U1, U2, xs, rfl, hsh, hB, hV, hP, hx⟩ := h
  have hlen := hG.len
  have hw := hsh.hw
  have hU1 := hB.len
  have hU2 := hP.len
  have hmm := hsh.hm
  have hwn : max 1 w * l.length ≤ 22 * l.length := Nat.mul_le_mul_right _ (by omega)
  have hU2' : U2.length ≤ 10000000 := by rw [hU2]; unfold need; generalize max 1 w * l.length = z at *; omega
  refine ⟨U1.map uw, U2.map uw, ?_, ?_, by rw [List.length_map]; omega, by rw [List.length_map]; omega⟩
  · unfold sparse_Set_Words.f
    simp only []
    rw [words_f _ _ U1 (by omega), Option.bind_some, words_f _ _ U2 (by omega)]; rfl
  · unfold colophonref03_Words.f
    by_cases h0 : l.length = 0
    · rw [if_pos (by simp [h0])]
      have e1 : U1 = [] := List.eq_nil_of_length_eq_zero (by have := (hsh.zero h0).1; omega)
      have e2 : U2 = [] := List.eq_nil_of_length_eq_zero (by rw [hU2, h0]; unfold need; omega)
      rw [e1, e2]; rfl
    rw [if_neg (by rw [beq_iff_eq]; omega), refWidth_ok hsh (by omega) (by omega), Option.bind_some, refPow_ok l w hw, Option.bind_some]
    obtain ⟨em, _, _⟩ := hsh.pos (by omega)
    have hp0 : 0 < 2 ^ w := Nat.pow_pos (by decide)
    have hp22 : 2 ^ w ≤ 2 ^ 22 := Nat.pow_le_pow_right (by decide) hw
    rw [show (2 : Nat) ^ 22 = 4194304 from rfl] at hp22
    have hd1 : (u - 1) / 2 ^ w ≤ u - 1 := Nat.div_le_self _ _
    have emk : wi (wi ((l.length : Int) + wi (Int.tdiv (wi ((u : Int) - 1)) ((2 ^ w : Nat) : Int))) + 1) = (m : Int) := by
      have : Int.tdiv (((u - 1 : Nat) : Int)) ((2 ^ w : Nat) : Int) = (((u - 1) / 2 ^ w : Nat) : Int) := by rw [Int.tdiv_eq_ediv_of_nonneg (by omega)]; norm_cast
      rw [wi_eq (n := (u : Int) - 1) (by omega) (by omega), show ((u : Int) - 1) = ((u - 1 : Nat) : Int) by omega, this, em]
      clear this
      generalize (u - 1) / 2 ^ w = d at *
      rw [wi_eq (n := (d : Int)) (by omega) (by omega), wi_eq (n := (l.length : Int) + (d : Int)) (by omega) (by omega), wi_eq (by omega) (by omega)]; omega
    rw [chk?_eq (decide_eq_true (by omega)), Option.bind_some, emk, make?_nat _ (by omega), Option.bind_some]
    have key : ∀ (x k i : Nat) (H L : List Int), l.length - i = x → x < k → i ≤ l.length → H.length = m → (∀ t, H.getD t 0 = if hb l w i t then 1 else 0) → L.length = i → (∀ t, t < i → L.getD t 0 = ((vn l t % 2 ^ w : Nat) : Int)) →
        ∃ H' L' : List Int, colophonref03_Words.l2 l ((2 ^ w : Nat) : Int) k H L (i : Int) = some (H', L') ∧ H'.length = m ∧ (∀ t, H'.getD t 0 = if hb l w l.length t then 1 else 0) ∧ L'.length = l.length ∧ ∀ t, t < l.length → L'.getD t 0 = ((vn l t % 2 ^ w : Nat) : Int) := by
      intro x
      induction x with
      | zero => intro k i H L hx hk hi h1 h2 h3 h4; cases k with
        | zero => omega
        | succ k => unfold colophonref03_Words.l2; rw [if_neg (by simp; omega)]
                    have : i = l.length := by omega
                    subst this; exact ⟨H, L, rfl, h1, h2, h3, h4⟩
      | succ x ih => intro k i H L hx hk hi h1 h2 h3 h4; cases k with
        | zero => omega
        | succ k =>
          unfold colophonref03_Words.l2
          have hil : i < l.length := by omega
          obtain ⟨hv, hvu⟩ := hG.vn hil
          have hpm : hp l w i < m := by
            have : vn l i / 2 ^ w ≤ (u - 1) / 2 ^ w := Nat.div_le_div_right (by omega)
            unfold hp; omega
          have ed : Int.tdiv ((vn l i : Nat) : Int) ((2 ^ w : Nat) : Int) = ((vn l i / 2 ^ w : Nat) : Int) := by rw [Int.tdiv_eq_ediv_of_nonneg (by omega)]; norm_cast
          have emo : Int.tmod ((vn l i : Nat) : Int) ((2 ^ w : Nat) : Int) = ((vn l i % 2 ^ w : Nat) : Int) := by rw [Int.tmod_eq_emod_of_nonneg (by omega)]; norm_cast
          have hdu : vn l i / 2 ^ w ≤ vn l i := Nat.div_le_self _ _
          have hmu : vn l i % 2 ^ w < 2 ^ w := Nat.mod_lt _ hp0
          have ehp : wi (wi (Int.tdiv ((vn l i : Nat) : Int) ((2 ^ w : Nat) : Int)) + (i : Int)) = ((hp l w i : Nat) : Int) := by
            rw [ed]; unfold hp at *; clear ed emo
            generalize vn l i / 2 ^ w = d at *
            rw [wi_eq (n := (d : Int)) (by omega) (by omega), wi_eq (by omega) (by omega)]; omega
          rw [if_pos (by simp; omega), at_g hil, Option.bind_some, hv, chk?_eq (decide_eq_true (by omega)), Option.bind_some, ehp, at_g (by omega), Option.bind_some, set?_nat _ (by omega), Option.bind_some, Option.bind_some, emo, wrapu (by omega) (by omega), app?_eq (by simp; omega), Option.bind_some, wi_eq (by omega) (by omega), show ((i : Int) + 1) = ((i + 1 : Nat) : Int) by omega]
          refine ih k (i + 1) _ _ (by omega) (by omega) (by omega) (by simpa using h1) (fun t => ?_) (by simp [h3]) (fun t ht => ?_)
          · rw [getD_set (by omega), show hb l w (i + 1) t = (if t = hp l w i then true else hb l w i t) from rfl]
            by_cases e : t = hp l w i
            · rw [if_pos e]; simp [e]
            · rw [if_neg e, h2 t]; simp [e]
          · rw [List.getD_eq_getElem?_getD]
            rcases Nat.lt_or_ge t i with h | h
            · rw [List.getElem?_append_left (by omega), ← List.getD_eq_getElem?_getD]; exact h4 t h
            · have : t = i := by omega
              subst this
              rw [List.getElem?_append_right (by omega), h3, Nat.sub_self]; rfl
    obtain ⟨H, L, e2, hH, hHb, hL, hLv⟩ := key l.length FU 0 (List.replicate m 0) [] (by omega) (by show l.length < 4611686018427387904; omega) (by omega) (by simp) (fun t => by
      rw [List.getD_eq_getElem?_getD, List.getElem?_replicate]
      simp only [hb]
      split <;> simp) rfl (fun t h => by omega)
    rw [show ((0 : Nat) : Int) = 0 from rfl] at e2
    rw [e2, Option.bind_some]
    simp only []
    obtain ⟨A1, ea1, la1, ba1⟩ := Refw.words_ok H (fun k hk => by rw [hHb k]; split <;> simp) (by omega)
    have emax : imax (w : Int) 1 = ((max 1 w : Nat) : Int) := by unfold imax; split <;> omega
    obtain ⟨R, er, lr, hr⟩ := Refw.bits_ok (max 1 w) (by omega) L (fun t ht => by
      have hmu : vn l t % 2 ^ w < 2 ^ w := Nat.mod_lt _ hp0
      rw [hLv t (by omega)]; omega) (by omega)
    have hcov : ∀ k, k < R.length → ∃ i j, i < l.length ∧ j < max 1 w ∧ k = i * max 1 w + j := fun k hk => by
      rw [lr, hL] at hk
      refine ⟨k / max 1 w, k % max 1 w, Nat.div_lt_of_lt_mul (by rw [Nat.mul_comm]; exact hk), Nat.mod_lt _ (by omega), ?_⟩
      rw [Nat.mul_comm]; exact (Nat.div_add_mod k (max 1 w)).symm
    obtain ⟨A2, ea2, la2, ba2⟩ := Refw.words_ok R (fun k hk => by
      obtain ⟨i, j, hi, hj, e⟩ := hcov k hk
      rw [e, hr i (by omega) j hj]; split <;> simp) (by rw [lr, hL, Nat.mul_comm]; omega)
    have hA1 : A1 = U1 := Refw.bits_ext (by rw [la1, hH, hU1]) (fun k => by
      rw [ba1, hB.bit, hHb k]
      cases e : hb l w l.length k with
      | true => rw [decide_eq_true (by
          rw [hH]
          rcases Nat.lt_or_ge k m with h | h
          · exact h
          · have := hB.past k h; rw [e] at this; cases this)]; rfl
      | false => simp)
    have hA2 : A2 = U2 := Refw.bits_ext (by rw [la2, lr, hL, hU2]; unfold need; rw [Nat.mul_comm l.length]) (fun k => by
      rw [ba2]
      rcases Nat.lt_or_ge k R.length with hk | hk
      · obtain ⟨i, j, hi, hj, e⟩ := hcov k hk
        rw [decide_eq_true hk, Bool.true_and, e, hr i (by omega) j hj, hP.pk.bit i hi j hj, hx i hi, ← BitVec.testBit_toNat, lo_nat l w i hw, hLv i hi, Int.toNat_natCast]
        cases (vn l i % 2 ^ w).testBit j <;> rfl
      · rw [decide_eq_false (by omega), hP.past k (by rw [lr, hL] at hk; exact hk)]; rfl)
    rw [ea1, Option.bind_some, emax, er, Option.bind_some, ea2, Option.bind_some, hA1, hA2]
end Sparse
end Go.Proofs.Ytomeiphaohjeoaa
