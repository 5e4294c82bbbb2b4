/-
  Packed lists with words that end in zeros, and lists from words. No condition.
-/
import Derived.Test.YtamlfkfdpgchiaaPuRefw
namespace Go.Proofs.Ytamlfkfdpgchiaa
open Go Go.Gol
set_option linter.unusedVariables false
set_option linter.unusedSimpArgs false
set_option maxRecDepth 100000
namespace Packed
open Pack
theorem at_w {U : List W64} {q : Nat} (h : q < U.length) : at? (U.map uw) (q : Int) = some (uw U[q]) := Refw.at_w h
theorem at_g {l : List Int} {q : Nat} (h : q < l.length) : at? l (q : Int) = some (l.getD q 0) := Refw.at_g h
theorem bitAt_past (U : List W64) (k : Nat) (h : 64 * U.length ≤ k) : bitAt U k = false := by
  unfold bitAt
  rw [List.getD_eq_getElem?_getD, List.getElem?_eq_none (by omega)]; simp
theorem getD_seti {l : List Int} {i j : Nat} {v : Int} (h : i < l.length) : (l.set i v).getD j 0 = if j = i then v else l.getD j 0 := by
  rw [List.getD_eq_getElem?_getD, List.getElem?_set]
  by_cases e : i = j
  · subst e; rw [if_pos rfl, if_pos h, if_pos rfl]; rfl
  · rw [if_neg e, if_neg (Ne.symm e), ← List.getD_eq_getElem?_getD]
structure PkZ (w n : Nat) (U : List W64) (xs : Nat → W64) : Prop where
  pk : Pk w n U xs
  len : U.length = need w n
  past : ∀ k, n * w ≤ k → bitAt U k = false
theorem pkz_new (w n : Nat) : PkZ w n (List.replicate (need w n) 0#64) (fun _ => 0#64) := ⟨pk_new w n, by simp, fun k _ => bit_new _ k⟩
theorem pkz_set {w n : Nat} {U : List W64} {xs : Nat → W64} (h : PkZ w n U xs) (hw : 1 ≤ w) (hw2 : w ≤ 64) (hn : n ≤ 4194304) {i : Nat} (hi : i < n) {v : W64} (hv : Fit w v) :
    ∃ U', pack_Ints_Set.f ((w : Int), (n : Int), U.map uw) (i : Int) (uw v) = some (true, ((w : Int), (n : Int), U'.map uw)) ∧ PkZ w n U' (fun k => if k = i then v else xs k) := by
  obtain ⟨U', e, hl, hp⟩ := pk_set h.pk hw hw2 hn hi hv
  obtain ⟨U2, e2, hl2⟩ := set_f w n i U v hw hw2 hn h.pk.hU hi hv
  rw [e] at e2
  have : U'.map uw = U2.map uw := by simpa using e2
  have hU : U' = U2 := by
    refine (List.map_inj_right (fun a b hab => ?_)).1 this
    have : (a.toNat : Int) = (b.toNat : Int) := hab
    exact BitVec.eq_of_toNat_eq (by omega)
  subst hU
  have hin : i * w + w ≤ n * w := by have := Nat.mul_le_mul_right w (show i + 1 ≤ n by omega); rw [Nat.add_mul, Nat.one_mul] at this; exact this
  refine ⟨U', e, hp, by rw [hl]; exact h.len, fun k hk => ?_⟩
  rcases Nat.lt_or_ge k (64 * U.length) with hk' | hk'
  · rw [hl2.bit k hk', if_neg (by omega)]; exact h.past k hk
  · exact bitAt_past U' k (by rw [hl]; exact hk')
theorem u64_ex {e : TypeId} {l : List Int} (h : Fits (.slice e (.int .u64)) l) : ∃ U : List W64, l = U.map uw := by
  obtain ⟨_, h⟩ := h
  refine ⟨l.map (fun n => BitVec.ofInt 64 n), ?_⟩
  rw [List.map_map]
  conv => lhs; rw [← List.map_id l]
  apply List.map_congr_left
  intro v hv
  have : 0 ≤ v ∧ v ≤ 18446744073709551615 := h v hv
  show v = ((BitVec.ofInt 64 v).toNat : Int)
  rw [BitVec.toNat_ofInt]; omega
theorem cpy_same {α : Type} {xs ys : List α} (h : ys.length = xs.length) : cpy xs ys = ys := by
  unfold cpy
  rw [h, Nat.min_self, List.drop_length, ← h, List.take_length, List.append_nil]
def Fine (w n : Nat) (U : List W64) : Prop := U.length = need w n ∧ ∀ k, n * w ≤ k → bitAt U k = false
theorem packFrom_ok (w n : Nat) (U : List W64) (hw : 1 ≤ w) (hw2 : w ≤ 64) (hn : n ≤ 4194304) :
    (Fine w n U → pack_From.f (w : Int) (n : Int) (U.map uw) = some (some ((w : Int), (n : Int), U.map uw), 0)) ∧ (¬ Fine w n U → pack_From.f (w : Int) (n : Int) (U.map uw) = some (none, 10)) := by
  have hnw : w * n ≤ 64 * 4194304 := Nat.mul_le_mul hw2 hn
  unfold pack_From.f
  rw [new_f w n hw hw2 hn, Option.bind_some]
  simp only []
  rw [if_neg (by simp), Option.bind_some]
  simp only [List.length_map, List.length_replicate]
  by_cases hl : U.length = need w n
  · rw [if_neg (by rw [bne_iff_ne]; omega), cpy_same (by simpa using hl)]
    have ewn : wi ((w : Int) * (n : Int)) = ((w * n : Nat) : Int) := by rw [← Int.natCast_mul]; exact wi_eq (by omega) (by omega)
    have ew2 : Int.tmod (wi ((w : Int) * (n : Int))) 64 = ((w * n % 64 : Nat) : Int) := by rw [ewn, Int.tmod_eq_emod_of_nonneg (by omega)]; omega
    rw [ew2]
    have hneed : need w n = (w * n + 63) / 64 := rfl
    by_cases h0 : w * n % 64 > 0
    · have hlast : U.length - 1 < U.length := by omega
      have hq : U.length - 1 = w * n / 64 := by omega
      rw [if_pos (by simp; omega), wi_eq (n := (U.length : Int) - 1) (by omega) (by omega), show ((U.length : Int) - 1) = ((U.length - 1 : Nat) : Int) by omega, at_w hlast, Option.bind_some, chk?_eq (decide_eq_true (by omega)), Option.bind_some, ishr_nat .u64 _ _ (by show w * n % 64 ≤ 64; omega)]
      obtain ⟨x, hx⟩ : ∃ x, x = U[U.length - 1] := ⟨_, rfl⟩
      have hxk : ∀ j, j < 64 → bitAt U (64 * (w * n / 64) + j) = x.getLsbD j := fun j hj => by
        unfold bitAt
        rw [show (64 * (w * n / 64) + j) / 64 = U.length - 1 by omega, show (64 * (w * n / 64) + j) % 64 = j by omega, List.getD_eq_getElem?_getD, List.getElem?_eq_getElem hlast, hx]; rfl
      rw [← hx]
      have hp : 0 < 2 ^ (w * n % 64) := Nat.pow_pos (by decide)
      by_cases hz : x.toNat / 2 ^ (w * n % 64) = 0
      · have hlt : x.toNat < 2 ^ (w * n % 64) := by
          rcases Nat.div_eq_zero_iff.1 hz with h | h
          · omega
          · exact h
        rw [hz, if_neg (by simp)]
        have fine : Fine w n U := ⟨hl, fun k hk => by
          rw [Nat.mul_comm] at hk
          rcases Nat.lt_or_ge k (64 * U.length) with h | h
          · have := hxk (k - 64 * (w * n / 64)) (by omega)
            rw [show 64 * (w * n / 64) + (k - 64 * (w * n / 64)) = k by omega] at this
            rw [this, ← BitVec.testBit_toNat]
            exact Nat.testBit_lt_two_pow (Nat.lt_of_lt_of_le hlt (Nat.pow_le_pow_right (by decide) (by omega)))
          · exact bitAt_past U k h⟩
        exact ⟨fun _ => rfl, fun h => absurd fine h⟩
      · have hz' : (((x.toNat / 2 ^ (w * n % 64) : Nat) : Int) != 0) = true := by
          rw [bne_iff_ne]; intro h; exact hz (by omega)
        rw [if_pos hz']
        refine ⟨fun hf => absurd ?_ hz, fun _ => rfl⟩
        apply Nat.div_eq_of_lt
        refine Nat.lt_pow_two_of_testBit _ (fun j hj => ?_)
        rw [BitVec.testBit_toNat]
        rcases Nat.lt_or_ge j 64 with hj' | hj'
        · rw [← hxk j hj']; exact hf.2 _ (by rw [Nat.mul_comm]; omega)
        · exact BitVec.getLsbD_of_ge _ _ hj'
    · rw [if_neg (by simp; omega)]
      have fine : Fine w n U := ⟨hl, fun k hk => bitAt_past U k (by rw [Nat.mul_comm] at hk; omega)⟩
      exact ⟨fun _ => rfl, fun h => absurd fine h⟩
  · rw [if_pos (by rw [bne_iff_ne]; omega)]
    exact ⟨fun h => absurd h.1 hl, fun _ => rfl⟩
end Packed
end Go.Proofs.Ytamlfkfdpgchiaa
