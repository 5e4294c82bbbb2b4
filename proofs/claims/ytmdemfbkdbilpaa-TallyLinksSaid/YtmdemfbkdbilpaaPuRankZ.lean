/-
  The plain laws of layer rank: how many ones stand ahead of a place. No condition.
-/
import Derived.Test.YtmdemfbkdbilpaaPuPack2
import Derived.Test.YtmdemfbkdbilpaaPuCnt
namespace Go.Proofs.Ytmdemfbkdbilpaa
open Go Go.Gol
set_option linter.unusedVariables false
set_option linter.unusedSimpArgs false
set_option maxRecDepth 100000
namespace Rank
open Pack Cnt
/-- a packed list of bits -/
structure Bits (n : Nat) (U : List W64) (B : Nat → Bool) : Prop where
  hn : n ≤ 4194304
  len : U.length = (n + 63) / 64
  bit : ∀ k, bitAt U k = B k
  past : ∀ k, n ≤ k → B k = false
theorem bitAt_past (U : List W64) (k : Nat) (h : 64 * U.length ≤ k) : bitAt U k = false := by
  unfold bitAt
  rw [List.getD_eq_getElem?_getD, List.getElem?_eq_none (by omega)]; simp
theorem Bits.hU {n : Nat} {U : List W64} {B : Nat → Bool} (h : Bits n U B) : n * 1 ≤ 64 * U.length := by have := h.len; omega
theorem new1 (n : Nat) (hn : n ≤ 4194304) : ∃ U, pack_New.f 1 (n : Int) = some (some ((1 : Int), (n : Int), U.map uw), 0) ∧ Bits n U (fun _ => false) := by
  have := new_f 1 n (by omega) (by omega) hn
  rw [show ((1 : Nat) : Int) = 1 from rfl] at this
  exact ⟨_, this, hn, by simp [need], fun k => bit_new _ k, fun k _ => rfl⟩
def w1 (b : Bool) : Int := if b then 1 else 0
theorem set1 {n i : Nat} {U : List W64} {B : Nat → Bool} (h : Bits n U B) (hi : i < n) (b : Bool) :
    ∃ U', pack_Ints_Set.f ((1 : Int), (n : Int), U.map uw) (i : Int) (w1 b) = some (true, ((1 : Int), (n : Int), U'.map uw)) ∧ Bits n U' (fun k => if k = i then b else B k) := by
  let v : W64 := if b then 1#64 else 0#64
  have hv : uw v = w1 b := by cases b <;> rfl
  have hf : Fit 1 v := by
    intro j hj
    cases b with
    | false => simp [v]
    | true =>
      show (1#64 : W64).getLsbD j = false
      rw [BitVec.getLsbD_one]; simp; omega
  obtain ⟨U', e, hl⟩ := set_f 1 n i U v (by omega) (by omega) h.hn h.hU hi hf
  rw [hv, show ((1 : Nat) : Int) = 1 from rfl] at e
  refine ⟨U', e, h.hn, by rw [hl.len]; exact h.len, fun k => ?_, fun k hk => by show (if k = i then b else B k) = false; rw [if_neg (by omega)]; exact h.past k hk⟩
  show bitAt U' k = if k = i then b else B k
  have hlen := h.len
  rcases Nat.lt_or_ge k (64 * U.length) with hk | hk
  · rw [hl.bit k hk]
    by_cases hki : k = i
    · rw [if_pos (by omega), if_pos hki, show k - i * 1 = 0 by omega]
      show (if b = true then 1#64 else 0#64 : W64).getLsbD 0 = b
      cases b <;> simp
    · rw [if_neg (by omega), if_neg hki]; exact h.bit k
  · rw [bitAt_past U' k (by rw [hl.len]; exact hk), if_neg (by omega), h.past k (by omega)]
/-- the list of bits with what stands ahead -/
def VecOk (V : Int × List Int × List Int × Int) (n : Nat) (B : Nat → Bool) : Prop :=
  ∃ (U : List W64) (A : List Int), V = ((n : Int), U.map uw, A, (cnt B n : Int)) ∧ Bits n U B ∧ A.length = (U.length + 7) / 8 ∧ ∀ b, b < A.length → A[b]? = some (cnt B (512 * b) : Int)
theorem bits_word {n : Nat} {U : List W64} {B : Nat → Bool} (h : Bits n U B) {i : Nat} (hi : i < U.length) (j : Nat) (hj : j < 64) : U[i].toNat.testBit j = B (64 * i + j) := by
  have := h.bit (64 * i + j)
  unfold bitAt at this
  rw [show (64 * i + j) / 64 = i by omega, show (64 * i + j) % 64 = j by omega, List.getD_eq_getElem?_getD, List.getElem?_eq_getElem hi] at this
  exact this
theorem ones_word {n : Nat} {U : List W64} {B : Nat → Bool} (h : Bits n U B) {i : Nat} (hi : i < U.length) : bits_OnesCount64.f (uw U[i]) = some (cnt (fun j => B (64 * i + j)) 64 : Int) := by
  show bits_OnesCount64.f (U[i].toNat : Int) = _
  rw [Pop.ones_f _ (by have := U[i].isLt; omega), pop_cnt]
  rw [cnt_congr (fun j hj => bits_word h hi j hj)]
theorem ones_low {n : Nat} {U : List W64} {B : Nat → Bool} (h : Bits n U B) {i s : Nat} (hi : i < U.length) (hs : s < 64) :
    bits_OnesCount64.f (iand .u64 (uw U[i]) (IntKind.wrap .u64 ((ishl .u64 1 (s : Int)) - 1))) = some (cnt (fun j => B (64 * i + j)) s : Int) := by
  have hp : 0 < 2 ^ s := Nat.pow_pos (by decide)
  have hp2 : 2 ^ s < 2 ^ 64 := Nat.pow_lt_pow_right (by decide) hs
  have e1 : ishl .u64 1 (s : Int) = ((2 ^ s : Nat) : Int) := by
    unfold ishl
    rw [Int.toNat_natCast, show IntKind.bits .u64 = 64 from rfl, Nat.min_eq_left (by omega), Int.one_mul, wrap_u64_eq]
    have e : ((2 : Int) ^ s) = ((2 ^ s : Nat) : Int) := by rw [Int.natCast_pow]; rfl
    rw [e]; generalize 2 ^ s = m at *; omega
  have e2 : IntKind.wrap .u64 (((2 ^ s : Nat) : Int) - 1) = ((2 ^ s - 1 : Nat) : Int) := by rw [wrap_u64_eq]; generalize 2 ^ s = m at *; omega
  have hlt := U[i].isLt
  rw [e1, e2, show uw U[i] = ((U[i].toNat : Nat) : Int) from rfl, Pop.nand _ _ (by omega) (by omega), Nat.and_two_pow_sub_one_eq_mod]
  rw [Pop.ones_f _ (Nat.lt_of_le_of_lt (Nat.mod_le _ _) (by omega)), pop_low _ _ (by omega)]
  rw [cnt_congr (fun j hj => bits_word h hi j (by omega))]
theorem at_words {U : List W64} {i : Nat} (hi : i < U.length) : at? (U.map uw) (i : Int) = some (uw U[i]) := by
  rw [at?_nat, List.getElem?_map, List.getElem?_eq_getElem hi]; rfl
theorem newV {n : Nat} {U : List W64} {B : Nat → Bool} (h : Bits n U B) : ∃ V, rank_New.f (some ((1 : Int), (n : Int), U.map uw)) = some (some V, 0) ∧ VecOk V n B := by
  have hlen := h.len
  have hn := h.hn
  unfold rank_New.f
  simp only []
  rw [show pack_Ints_Width.f (some ((1 : Int), (n : Int), U.map uw)) = some 1 from rfl, show pack_Ints_Len.f (some ((1 : Int), (n : Int), U.map uw)) = some (n : Int) from rfl, words_f _ _ _ (by omega)]
  simp only [Option.bind_some]
  rw [if_neg (by simp)]
  have key : ∀ (m k i : Nat) (A : List Int), U.length - i = m → m < k → i ≤ U.length → A.length = (i + 7) / 8 → (∀ b, b < A.length → A[b]? = some (cnt B (512 * b) : Int)) →
      ∃ A', rank_New.l1 (U.map uw) k (i : Int) A (cnt B (64 * i) : Int) = some (A', (cnt B (64 * U.length) : Int)) ∧ A'.length = (U.length + 7) / 8 ∧ ∀ b, b < A'.length → A'[b]? = some (cnt B (512 * b) : Int) := by
    intro m
    induction m with
    | zero => intro k i A hm hk hi hA hb; cases k with
      | zero => omega
      | succ k =>
        have : i = U.length := by omega
        subst this
        unfold rank_New.l1
        rw [if_neg (by simp)]
        exact ⟨A, rfl, hA, hb⟩
    | succ m ih => intro k i A hm hk hi hA hb; cases k with
      | zero => omega
      | succ k =>
        unfold rank_New.l1
        have hil : i < U.length := by omega
        have e8 : Int.tmod (i : Int) 8 = ((i % 8 : Nat) : Int) := by rw [Int.tmod_eq_emod_of_nonneg (by omega)]; omega
        have hc1 := cnt_le B (64 * i)
        have hc2 := cnt_le (fun j => B (64 * i + j)) 64
        have hw : wi ((cnt B (64 * i) : Int) + (cnt (fun j => B (64 * i + j)) 64 : Int)) = (cnt B (64 * (i + 1)) : Int) := by
          rw [wi_eq (by omega) (by omega), show 64 * (i + 1) = 64 * i + 64 by omega, cnt_add]; omega
        rw [if_pos (by simp; omega), at_words hil, Option.bind_some, e8, wi_eq (n := (i : Int) + 1) (by omega) (by omega), show ((i : Int) + 1) = ((i + 1 : Nat) : Int) by omega, ones_word h hil]
        simp only [Option.bind_some]
        rw [hw]
        by_cases h8 : i % 8 = 0
        · rw [if_pos (by simp; omega), app?_eq (by simp; omega), Option.bind_some]
          refine ih k (i + 1) _ (by omega) (by omega) (by omega) (by simp; omega) (fun b hb' => ?_)
          rcases Nat.lt_or_ge b A.length with hbA | hbA
          · rw [List.getElem?_append_left hbA]; exact hb b hbA
          · have : b = A.length := by simp at hb'; omega
            subst this
            rw [List.getElem?_append_right (Nat.le_refl _), Nat.sub_self, show 512 * A.length = 64 * i by omega]; rfl
        · rw [if_neg (by simp; omega)]
          exact ih k (i + 1) A (by omega) (by omega) (by omega) (by omega) hb
  obtain ⟨A', e, hA, hb⟩ := key U.length FU 0 [] (by omega) (by show U.length < 4611686018427387904; omega) (by omega) rfl (fun b hb => by simp at hb)
  rw [show ((0 : Nat) : Int) = 0 from rfl, show (cnt B (64 * 0) : Int) = 0 from rfl] at e
  rw [e, Option.bind_some]
  refine ⟨_, rfl, U, A', ?_, h, hA, hb⟩
  rw [cnt_past h.past (m := 64 * U.length) (by omega)]
theorem rank_ok {V : Int × List Int × List Int × Int} {n : Nat} {B : Nat → Bool} (h : VecOk V n B) (i : Int) : rank_Vec_Rank.f (some V) i = some (cnt B i.toNat : Int) := by
  obtain ⟨U, A, rfl, hB, hA, hb⟩ := h
  have hlen := hB.len
  have hn := hB.hn
  unfold rank_Vec_Rank.f
  simp only []
  by_cases h0 : i ≤ 0
  · rw [if_pos (by simpa using h0), show i.toNat = 0 by omega]; rfl
  rw [if_neg (by simpa using h0)]
  by_cases h1 : i ≥ (n : Int)
  · rw [if_pos (by simpa using h1), cnt_past hB.past (m := i.toNat) (by omega)]
  rw [if_neg (by simpa using h1)]
  obtain ⟨p, rfl⟩ : ∃ p : Nat, i = (p : Int) := ⟨i.toNat, by omega⟩
  have e1 : wi (Int.tdiv (p : Int) 64) = ((p / 64 : Nat) : Int) := by rw [Int.tdiv_eq_ediv_of_nonneg (by omega), wi_eq (by omega) (by omega)]; omega
  have e2 : wi (Int.tdiv ((p / 64 : Nat) : Int) 8) = ((p / 512 : Nat) : Int) := by rw [Int.tdiv_eq_ediv_of_nonneg (by omega), wi_eq (by omega) (by omega)]; omega
  have e3 : wi (((p / 512 : Nat) : Int) * 8) = ((8 * (p / 512) : Nat) : Int) := by rw [wi_eq (by omega) (by omega)]; omega
  have e4 : Int.tmod (p : Int) 64 = ((p % 64 : Nat) : Int) := by rw [Int.tmod_eq_emod_of_nonneg (by omega)]; omega
  rw [e1, e2, e3, e4, at?_nat, hb (p / 512) (by omega), Option.bind_some]
  have key : ∀ (m k j : Nat), p / 64 - j = m → m < k → j ≤ p / 64 → rank_Vec_Rank.l1 (p : Int) ((n : Int), U.map uw, A, (cnt B n : Int)) k (cnt B (64 * j) : Int) (j : Int) = some (cnt B (64 * (p / 64)) : Int) := by
    intro m
    induction m with
    | zero => intro k j hm hk hj; cases k with
      | zero => omega
      | succ k =>
        unfold rank_Vec_Rank.l1
        rw [e1, if_neg (by simp; omega), show j = p / 64 by omega]
    | succ m ih => intro k j hm hk hj; cases k with
      | zero => omega
      | succ k =>
        unfold rank_Vec_Rank.l1
        have hc1 := cnt_le B (64 * j)
        have hc2 := cnt_le (fun t => B (64 * j + t)) 64
        have hjl : j < U.length := by omega
        rw [e1, if_pos (by simp; omega), at_words hjl, Option.bind_some, ones_word hB hjl, Option.bind_some, wi_eq (by omega) (by omega), wi_eq (by omega) (by omega),
          show ((cnt B (64 * j) : Int) + (cnt (fun t => B (64 * j + t)) 64 : Int)) = (cnt B (64 * (j + 1)) : Int) by rw [show 64 * (j + 1) = 64 * j + 64 by omega, cnt_add]; omega, show ((j : Int) + 1) = ((j + 1 : Nat) : Int) by omega]
        exact ih k (j + 1) (by omega) (by omega) (by omega)
  have e5 := key (p / 64 - 8 * (p / 512)) FU (8 * (p / 512)) rfl (by show p / 64 - 8 * (p / 512) < 4611686018427387904; omega) (by omega)
  rw [show 64 * (8 * (p / 512)) = 512 * (p / 512) by omega] at e5
  rw [e5, Option.bind_some]
  have hpl : p / 64 < U.length := by omega
  have hc1 := cnt_le B (64 * (p / 64))
  have hc2 := cnt_le (fun t => B (64 * (p / 64) + t)) (p % 64)
  rw [at_words hpl, Option.bind_some, chk?_eq (decide_eq_true (by omega)), Option.bind_some, ones_low hB hpl (Nat.mod_lt _ (by decide)), Option.bind_some, wi_eq (by omega) (by omega), Int.toNat_natCast]
  have : cnt B p = cnt B (64 * (p / 64)) + cnt (fun t => B (64 * (p / 64) + t)) (p % 64) := by
    rw [← cnt_add]; congr 1; omega
  rw [this]; congr 1
theorem len_ok {V : Int × List Int × List Int × Int} {n : Nat} {B : Nat → Bool} (h : VecOk V n B) : rank_Vec_Len.f (some V) = some (n : Int) := by
  obtain ⟨U, A, rfl, hB, hA, hb⟩ := h; rfl
theorem ones_ok {V : Int × List Int × List Int × Int} {n : Nat} {B : Nat → Bool} (h : VecOk V n B) : rank_Vec_Ones.f (some V) = some (cnt B n : Int) := by
  obtain ⟨U, A, rfl, hB, hA, hb⟩ := h; rfl
theorem VecOk.hn {V : Int × List Int × List Int × Int} {n : Nat} {B : Nat → Bool} (h : VecOk V n B) : n ≤ 4194304 := by
  obtain ⟨U, A, rfl, hB, hA, hb⟩ := h; exact hB.hn
theorem VecOk.past {V : Int × List Int × List Int × Int} {n : Nat} {B : Nat → Bool} (h : VecOk V n B) : ∀ k, n ≤ k → B k = false := by
  obtain ⟨U, A, rfl, hB, hA, hb⟩ := h; exact hB.past
theorem zeros_ok {V : Int × List Int × List Int × Int} {n : Nat} {B : Nat → Bool} (h : VecOk V n B) (i : Int) : rank_Vec_Zeros.f (some V) i = some (cnt (oth B n) i.toNat : Int) := by
  unfold rank_Vec_Zeros.f
  have hn := h.hn
  rw [len_ok h, Option.bind_some, rank_ok h, Option.bind_some]
  have hc := cnt_le B n
  rcases Int.lt_or_le i (n : Int) with hi | hi
  · rcases Int.lt_or_le i 0 with h0 | h0
    · rw [show imax 0 (imin i (n : Int)) = 0 by unfold imax imin; split <;> split <;> omega, show i.toNat = 0 by omega]; rfl
    · have e : imax 0 (imin i (n : Int)) = (i.toNat : Int) := by unfold imax imin; split <;> split <;> omega
      have h2 := cnt_oth B n i.toNat (by omega)
      rw [e, wi_eq (by omega) (by omega)]; congr 1; omega
  · have e : imax 0 (imin i (n : Int)) = (n : Int) := by unfold imax imin; split <;> split <;> omega
    have h2 := cnt_oth B n n (Nat.le_refl _)
    rw [e, cnt_past h.past (m := i.toNat) (by omega), cnt_past (oth_past B n) (m := i.toNat) (by omega), wi_eq (by omega) (by omega)]; congr 1; omega
theorem mid_ok (a b : Nat) (h : a < b) (hb : b ≤ 4194304) : ∃ m : Nat, wi (ishr .u64 (IntKind.wrap .u64 (wi ((a : Int) + (b : Int)))) 1) = (m : Int) ∧ a ≤ m ∧ m < b := by
  refine ⟨(a + b) / 2, ?_, by omega, by omega⟩
  have e : IntKind.wrap .u64 (wi ((a : Int) + (b : Int))) = ((a + b : Nat) : Int) := by rw [wi_eq (by omega) (by omega), wrap_u64_eq]; omega
  rw [e, show (1 : Int) = ((1 : Nat) : Int) from rfl, Pop.shr64 _ 1 (by decide), show (2 : Nat) ^ 1 = 2 from rfl, wi_eq (by omega) (by omega)]
theorem selectZ_ok {V : Int × List Int × List Int × Int} {n : Nat} {B : Nat → Bool} (h : VecOk V n B) (k : Int) : ∃ p, rank_Vec_SelectZero.f (some V) k = some p ∧ Sel (oth B n) n k p := by
  unfold rank_Vec_SelectZero.f
  rw [len_ok h, Option.bind_some, ones_ok h, Option.bind_some]
  have hn := h.hn
  have ho := cnt_oth B n n (Nat.le_refl _)
  have ew : wi ((n : Int) - (cnt B n : Int)) = (cnt (oth B n) n : Int) := by rw [wi_eq (by omega) (by omega)]; omega
  rw [ew]
  by_cases h0 : k < 0
  · rw [if_pos (by simpa using h0)]; exact ⟨_, rfl, .inl ⟨.inl h0, rfl⟩⟩
  rw [if_neg (by simpa using h0)]
  by_cases h1 : k ≥ (cnt (oth B n) n : Int)
  · rw [if_pos (by simpa using h1)]; exact ⟨_, rfl, .inl ⟨.inr h1, rfl⟩⟩
  rw [if_neg (by simpa using h1)]
  simp only [Option.bind_some]
  have key : ∀ (m f a b : Nat), b - a = m → m < f → a ≤ b → b ≤ n → (∀ j, j < a → (cnt (oth B n) (j + 1) : Int) ≤ k) → (b < n → k < (cnt (oth B n) (b + 1) : Int)) → ∃ p, rank_Vec_SelectZero.l1 k V f (a : Int) (b : Int) = some p ∧ Sel (oth B n) n k p := by
    intro m
    induction m using Nat.strongRecOn with
    | _ m ih =>
      intro f a b hm hf hab hb ha hbb; cases f with
      | zero => omega
      | succ f =>
        unfold rank_Vec_SelectZero.l1
        by_cases hlt : a < b
        · obtain ⟨q, hq, hq1, hq2⟩ := mid_ok a b hlt (by omega)
          rw [if_pos (by simp; omega), hq, wi_eq (n := (q : Int) + 1) (by omega) (by omega), show ((q : Int) + 1) = ((q + 1 : Nat) : Int) by omega, zeros_ok h, Option.bind_some, Int.toNat_natCast]
          by_cases hc : (cnt (oth B n) (q + 1) : Int) > k
          · rw [if_neg (by simp; omega)]
            exact ih (q - a) (by omega) f a q rfl (by omega) (by omega) (by omega) ha (fun _ => hc)
          · rw [if_pos (by simp; omega)]
            exact ih (b - (q + 1)) (by omega) f (q + 1) b rfl (by omega) (by omega) hb (fun j hj => by
              have := cnt_mono (oth B n) (a := j + 1) (b := q + 1) (by omega); omega) hbb
        · rw [if_neg (by simp; omega)]
          have : a = b := by omega
          subst this
          exact ⟨_, rfl, Sel.found (by omega) (by omega) hb ha hbb⟩
  obtain ⟨p, e, hp⟩ := key n FU 0 n (by omega) (by show n < 4611686018427387904; omega) (by omega) (Nat.le_refl _) (fun j hj => by omega) (fun h => by omega)
  have hV1 : V.1 = (n : Int) := by obtain ⟨U, A, rfl, _⟩ := h; rfl
  rw [hV1]
  rw [show ((0 : Nat) : Int) = 0 from rfl] at e
  rw [e]; exact ⟨p, rfl, hp⟩
end Rank
end Go.Proofs.Ytmdemfbkdbilpaa
