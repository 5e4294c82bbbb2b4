/-
  The plain laws of layer pack: numbers of a width as bits of words. No condition.
-/
import Derived.Test.YtmdemfbkdbilpaaGP1b
import Derived.Test.YtmdemfbkdbilpaaGI
namespace Go.Proofs.Ytmdemfbkdbilpaa
open Go Go.Gol
set_option linter.unusedVariables false
set_option linter.unusedSimpArgs false
namespace Pack
abbrev W64 := BitVec 64
abbrev uw (b : W64) : Int := (b.toNat : Int)
theorem un_andn64 (a b : W64) : iandn .u64 (a.toNat : Int) (b.toNat : Int) = ((a &&& ~~~ b).toNat : Int) := by
  show IntKind.wrap .u64 ((BitVec.ofInt 64 _ &&& ~~~ BitVec.ofInt 64 _ : BitVec 64).toNat : Int) = _
  rw [ofInt_toNat, ofInt_toNat, wrap_u64_eq]; have := (a &&& ~~~ b).isLt; omega
theorem un_shl64 (a : W64) (n : Nat) (h : n ≤ 64) : ishl .u64 (a.toNat : Int) (n : Int) = ((a <<< n).toNat : Int) := by
  unfold ishl
  rw [Int.toNat_natCast, show IntKind.bits .u64 = 64 from rfl, Nat.min_eq_left h, wrap_u64_eq, BitVec.toNat_shiftLeft, Nat.shiftLeft_eq]
  rw [show ((a.toNat : Int) * 2 ^ n) = ((a.toNat * 2 ^ n : Nat) : Int) by rw [Int.natCast_mul, Int.natCast_pow]; rfl]
  exact (Int.natCast_emod (a.toNat * 2 ^ n) 18446744073709551616).symm
def mask (w : Nat) : W64 := BitVec.allOnes 64 >>> (64 - w)
theorem mask_bit (w j : Nat) (h : w ≤ 64) : (mask w).getLsbD j = decide (j < w) := by
  unfold mask
  rw [BitVec.getLsbD_ushiftRight, BitVec.getLsbD_allOnes]
  rw [decide_eq_decide]; omega
theorem mask_f (w : Nat) (h : w ≤ 64) : pack_mask.f (w : Int) = some (uw (mask w)) := by
  unfold pack_mask.f
  have e : wi (64 - (w : Int)) = ((64 - w : Nat) : Int) := by rw [wi_eq (by omega) (by omega)]; omega
  rw [e, chk?_eq (by simp), Option.bind_some, show (18446744073709551615 : Int) = ((BitVec.allOnes 64).toNat : Int) from rfl, un_shr (w := 64) .u64 rfl _ (64 - w) (by omega)]; rfl
def bitAt (U : List W64) (k : Nat) : Bool := (U.getD (k / 64) 0#64).getLsbD (k % 64)
/-- a number fits so many bits -/
def Fit (w : Nat) (v : W64) : Prop := ∀ j, w ≤ j → v.getLsbD j = false
theorem fit_iff (w : Nat) (v : W64) (h : w ≤ 64) : Fit w v ↔ ¬ (v.toNat > (mask w).toNat) := by
  have e : (mask w).toNat = 2 ^ w - 1 := by
    unfold mask
    rw [BitVec.toNat_ushiftRight, BitVec.toNat_allOnes, Nat.shiftRight_eq_div_pow]
    have h2 : (2 : Nat) ^ 64 = 2 ^ w * 2 ^ (64 - w) := by rw [← Nat.pow_add]; congr 1; omega
    have p1 : 0 < (2 : Nat) ^ (64 - w) := Nat.pow_pos (by decide)
    have p2 : 0 < (2 : Nat) ^ w := Nat.pow_pos (by decide)
    rw [Nat.div_eq_iff p1, h2]
    generalize 2 ^ w = x at *
    generalize 2 ^ (64 - w) = y at *
    constructor
    · rw [Nat.sub_mul]; have := Nat.le_mul_of_pos_left y p2; omega
    · rw [Nat.sub_mul]; have := Nat.le_mul_of_pos_left y p2; omega
  rw [e]
  have p2 : 0 < (2 : Nat) ^ w := Nat.pow_pos (by decide)
  constructor
  · intro hf
    have : v.toNat < 2 ^ w := Nat.lt_pow_two_of_testBit _ (fun i hi => hf i hi)
    omega
  · intro hv j hj
    have : v.toNat < 2 ^ w := by omega
    exact Nat.testBit_lt_two_pow (Nat.lt_of_lt_of_le this (Nat.pow_le_pow_right (by decide) hj))
/-- what Set lays -/
structure Laid (w i : Nat) (v : W64) (U U' : List W64) : Prop where
  len : U'.length = U.length
  bit : ∀ k, k < 64 * U.length → bitAt U' k = if i * w ≤ k ∧ k < i * w + w then v.getLsbD (k - i * w) else bitAt U k
theorem getD_set (U : List W64) (q j : Nat) (x : W64) (h : q < U.length) : (U.set q x).getD j 0#64 = if q = j then x else U.getD j 0#64 := by
  simp only [List.getD_eq_getElem?_getD, List.getElem?_set]
  split
  · rename_i hq; subst hq; simp [h]
  · rfl
theorem set_f (w n i : Nat) (U : List W64) (v : W64) (hw : 1 ≤ w) (hw2 : w ≤ 64) (hn : n ≤ 4194304) (hU : n * w ≤ 64 * U.length) (hi : i < n) (hv : Fit w v) :
    ∃ U', pack_Ints_Set.f ((w : Int), (n : Int), U.map uw) (i : Int) (uw v) = some (true, ((w : Int), (n : Int), U'.map uw)) ∧ Laid w i v U U' := by
  have hb : i * w + w ≤ n * w := by have := Nat.mul_le_mul_right w (show i + 1 ≤ n by omega); rw [Nat.add_mul, Nat.one_mul] at this; exact this
  have hnw : n * w ≤ 4194304 * 64 := Nat.mul_le_mul hn hw2
  generalize hbb : i * w = b at *
  have hcast : (i : Int) * (w : Int) = (b : Int) := by rw [← hbb]; exact (Int.natCast_mul i w).symm
  have hbi : wi ((i : Int) * (w : Int)) = (b : Int) := by rw [hcast, wi_eq (by omega) (by omega)]
  have hq : wi (Int.tdiv (b : Int) 64) = ((b / 64 : Nat) : Int) := by rw [Int.tdiv_eq_ediv_of_nonneg (by omega), wi_eq (by omega) (by omega)]; omega
  have hs : Int.tmod (b : Int) 64 = ((b % 64 : Nat) : Int) := by rw [Int.tmod_eq_emod_of_nonneg (by omega)]; omega
  have hql : b / 64 < U.length := by omega
  have hsw : wi (((b % 64 : Nat) : Int) + (w : Int)) = ((b % 64 + w : Nat) : Int) := by rw [wi_eq (by omega) (by omega)]; omega
  unfold pack_Ints_Set.f
  simp only []
  rw [if_neg (by simp), if_neg (by simp; omega), mask_f w hw2, Option.bind_some, if_neg (by have := (fit_iff w v hw2).1 hv; simp; omega), Option.bind_some, hbi, hq, hs, hsw]
  rw [at?_nat, List.getElem?_map, List.getElem?_eq_getElem hql]
  simp only [Option.map_some, Option.bind_some]
  have hs64 : b % 64 < 64 := Nat.mod_lt _ (by decide)
  have hc : chk? (decide ((0 : Int) ≤ ((b % 64 : Nat) : Int))) = some () := chk?_eq (decide_eq_true (by omega))
  rw [hc, Option.bind_some, Option.bind_some]
  rw [un_shl64 (mask w) (b % 64) (by omega), un_shl64 v (b % 64) (by omega), show uw U[b / 64] = ((U[b / 64]).toNat : Int) from rfl, un_andn64, un_or64]
  rw [set?_nat _ (by simpa using hql), Option.bind_some]
  generalize hx : (U[b / 64] &&& ~~~ (mask w <<< (b % 64))) ||| (v <<< (b % 64)) = x
  have e1 : (U.map uw).set (b / 64) ((x.toNat : Nat) : Int) = (U.set (b / 64) x).map uw := by rw [List.map_set]
  rw [e1]
  have hxb : ∀ t, t < 64 → x.getLsbD t = if b % 64 ≤ t ∧ t < b % 64 + w then v.getLsbD (t - b % 64) else (U.getD (b / 64) 0#64).getLsbD t := by
    intro t ht
    rw [← hx]
    simp only [BitVec.getLsbD_or, BitVec.getLsbD_and, BitVec.getLsbD_not, BitVec.getLsbD_shiftLeft, mask_bit _ _ hw2, List.getD_eq_getElem?_getD, List.getElem?_eq_getElem hql, Option.getD_some, ht, decide_true, Bool.true_and]
    by_cases h1 : t < b % 64
    · rw [if_neg (by omega)]; simp [h1]
    · simp only [h1, decide_false, Bool.not_false, Bool.true_and]
      by_cases h2 : t - b % 64 < w
      · rw [if_pos (by omega)]; simp [h2]
      · rw [if_neg (by omega), hv _ (by omega)]; simp [h2]
  by_cases hov : b % 64 + w > 64
  · rw [if_pos (by simp; omega)]
    have hq1 : wi (((b / 64 : Nat) : Int) + 1) = ((b / 64 + 1 : Nat) : Int) := by rw [wi_eq (by omega) (by omega)]; omega
    have hr : wi (64 - ((b % 64 : Nat) : Int)) = ((64 - b % 64 : Nat) : Int) := by rw [wi_eq (by omega) (by omega)]; omega
    have hql2 : b / 64 + 1 < U.length := by omega
    rw [hq1, hr, at?_nat, List.getElem?_map, List.getElem?_set_ne (by omega), List.getElem?_eq_getElem hql2]
    simp only [Option.map_some, Option.bind_some]
    have hc2 : chk? (decide ((0 : Int) ≤ ((64 - b % 64 : Nat) : Int))) = some () := chk?_eq (decide_eq_true (by omega))
    rw [hc2, Option.bind_some, Option.bind_some]
    rw [un_shr (w := 64) .u64 rfl (mask w) (64 - b % 64) (by omega), un_shr (w := 64) .u64 rfl v (64 - b % 64) (by omega), show uw U[b / 64 + 1] = ((U[b / 64 + 1]).toNat : Int) from rfl, un_andn64, un_or64]
    rw [set?_nat _ (by simp; omega), Option.bind_some]
    generalize hy : (U[b / 64 + 1] &&& ~~~ (mask w >>> (64 - b % 64))) ||| (v >>> (64 - b % 64)) = y
    refine ⟨(U.set (b / 64) x).set (b / 64 + 1) y, ?_, by simp, ?_⟩
    · rw [List.map_set (l := U.set (b / 64) x)]
    · intro k hk
      rw [hbb]
      unfold bitAt
      rw [getD_set _ _ _ _ (by simpa using hql2), getD_set _ _ _ _ hql]
      have hyb : ∀ t, t < 64 → y.getLsbD t = if 64 - b % 64 + t < w then v.getLsbD (64 - b % 64 + t) else (U.getD (b / 64 + 1) 0#64).getLsbD t := by
        intro t ht
        rw [← hy]
        simp only [BitVec.getLsbD_or, BitVec.getLsbD_and, BitVec.getLsbD_not, BitVec.getLsbD_ushiftRight, mask_bit _ _ hw2, List.getD_eq_getElem?_getD, List.getElem?_eq_getElem hql2, Option.getD_some, ht, decide_true, Bool.true_and]
        by_cases h2 : 64 - b % 64 + t < w
        · rw [if_pos h2]; simp [h2]
        · rw [if_neg h2, hv _ (by omega)]; simp [h2]
      by_cases k1 : b / 64 + 1 = k / 64
      · rw [if_pos k1, hyb _ (Nat.mod_lt _ (by decide))]
        by_cases h3 : 64 - b % 64 + k % 64 < w
        · rw [if_pos h3, if_pos (by omega)]; congr 1; omega
        · rw [if_neg h3, if_neg (by omega), k1]
      · rw [if_neg k1]
        by_cases k2 : b / 64 = k / 64
        · rw [if_pos k2, hxb _ (Nat.mod_lt _ (by decide))]
          by_cases h3 : b % 64 ≤ k % 64 ∧ k % 64 < b % 64 + w
          · rw [if_pos h3, if_pos (by omega)]; congr 1; omega
          · rw [if_neg h3, if_neg (by omega), k2]
        · rw [if_neg k2, if_neg (by omega)]
  · rw [if_neg (by simp; omega)]
    refine ⟨U.set (b / 64) x, rfl, by simp, ?_⟩
    intro k hk
    rw [hbb]
    unfold bitAt
    rw [getD_set _ _ _ _ hql]
    by_cases k2 : b / 64 = k / 64
    · rw [if_pos k2, hxb _ (Nat.mod_lt _ (by decide))]
      by_cases h3 : b % 64 ≤ k % 64 ∧ k % 64 < b % 64 + w
      · rw [if_pos h3, if_pos (by omega)]; congr 1; omega
      · rw [if_neg h3, if_neg (by omega), k2]
    · rw [if_neg k2, if_neg (by omega)]
theorem set_bad (w n i : Nat) (U : List W64) (v : W64) (hw2 : w ≤ 64) (hi : i < n) (hv : ¬ Fit w v) :
    pack_Ints_Set.f ((w : Int), (n : Int), U.map uw) (i : Int) (uw v) = some (false, ((w : Int), (n : Int), U.map uw)) := by
  have h2 : v.toNat > (mask w).toNat := Decidable.byContradiction (fun h => hv ((fit_iff w v hw2).2 h))
  unfold pack_Ints_Set.f
  simp only []
  rw [if_neg (by simp), if_neg (by simp; omega), mask_f w hw2, Option.bind_some, if_pos (by simp; omega)]
theorem set_out (w n : Nat) (i : Int) (U : List W64) (v : Int) (hi : i < 0 ∨ (n : Int) ≤ i) :
    pack_Ints_Set.f ((w : Int), (n : Int), U.map uw) i v = some (false, ((w : Int), (n : Int), U.map uw)) := by
  unfold pack_Ints_Set.f
  simp only []
  by_cases h : i < 0
  · rw [if_pos (by simpa using h)]
  · rw [if_neg (by simpa using h), if_pos (by simp; omega)]
def need (w n : Nat) : Nat := (w * n + 63) / 64
theorem need_ok (w n : Nat) : n * w ≤ 64 * need w n := by unfold need; rw [Nat.mul_comm n w]; omega
theorem new_f (w n : Nat) (hw : 1 ≤ w) (hw2 : w ≤ 64) (hn : n ≤ 4194304) : pack_New.f (w : Int) (n : Int) = some (some ((w : Int), (n : Int), (List.replicate (need w n) 0#64).map uw), 0) := by
  unfold pack_New.f pack_need.f
  have hnw : w * n ≤ 64 * 4194304 := Nat.mul_le_mul hw2 hn
  have hcast : (w : Int) * (n : Int) = ((w * n : Nat) : Int) := (Int.natCast_mul w n).symm
  have e : wi (Int.tdiv (wi ((wi ((w : Int) * (n : Int))) + 63)) 64) = ((need w n : Nat) : Int) := by
    unfold need
    generalize w * n = m at *
    rw [hcast, wi_eq (n := (m : Int)) (by omega) (by omega), wi_eq (n := (m : Int) + 63) (by omega) (by omega), Int.tdiv_eq_ediv_of_nonneg (by omega), wi_eq (by omega) (by omega)]; omega
  rw [if_neg (by simp; omega), if_neg (by simp; omega), if_neg (by simp), if_neg (by simp; omega), Option.bind_some, e, make?_nat _ (by unfold need; omega), Option.bind_some]
  rw [List.map_replicate]; rfl
theorem bit_new (m k : Nat) : bitAt (List.replicate m 0#64) k = false := by
  unfold bitAt
  simp only [List.getD_eq_getElem?_getD, List.getElem?_replicate]
  split <;> simp
theorem words_f (w n : Int) (U : List W64) (h : U.length ≤ 17592186044416) : pack_Ints_Words.f (some (w, n, U.map uw)) = some (U.map uw) := by
  unfold pack_Ints_Words.f slices_Clone_44.f
  simp only []
  rw [app?_eq (by simpa using h)]; rfl
/-- a packed list of these numbers -/
structure Pk (w n : Nat) (U : List W64) (xs : Nat → W64) : Prop where
  hU : n * w ≤ 64 * U.length
  bit : ∀ i, i < n → ∀ j, j < w → bitAt U (i * w + j) = (xs i).getLsbD j
  fit : ∀ i, i < n → Fit w (xs i)
theorem pk_new (w n : Nat) : Pk w n (List.replicate (need w n) 0#64) (fun _ => 0#64) := ⟨by simpa using need_ok w n, fun i _ j _ => by rw [bit_new]; simp, fun i _ j _ => by simp⟩
theorem pk_set {w n : Nat} {U : List W64} {xs : Nat → W64} (h : Pk w n U xs) (hw : 1 ≤ w) (hw2 : w ≤ 64) (hn : n ≤ 4194304) {i : Nat} (hi : i < n) {v : W64} (hv : Fit w v) :
    ∃ U', pack_Ints_Set.f ((w : Int), (n : Int), U.map uw) (i : Int) (uw v) = some (true, ((w : Int), (n : Int), U'.map uw)) ∧ U'.length = U.length ∧ Pk w n U' (fun k => if k = i then v else xs k) := by
  obtain ⟨U', e, hl⟩ := set_f w n i U v hw hw2 hn h.hU hi hv
  have mul : ∀ a b : Nat, a < b → a * w + w ≤ b * w := fun a b hab => by have := Nat.mul_le_mul_right w (show a + 1 ≤ b by omega); rw [Nat.add_mul, Nat.one_mul] at this; exact this
  refine ⟨U', e, hl.len, by rw [hl.len]; exact h.hU, fun k hk j hj => ?_, fun k hk j hj => ?_⟩
  · have hU := h.hU
    have hkn := mul k n hk
    rw [hl.bit _ (by omega)]
    by_cases hki : k = i
    · subst hki; rw [if_pos (by omega), if_pos rfl]; congr 1; omega
    · rw [if_neg hki, if_neg ?_, h.bit k hk j hj]
      rcases Nat.lt_or_gt_of_ne hki with hlt | hlt
      · have := mul k i hlt; omega
      · have := mul i k hlt; omega
  · split
    · exact hv j hj
    · exact h.fit k hk j hj
end Pack
end Go.Proofs.Ytmdemfbkdbilpaa
