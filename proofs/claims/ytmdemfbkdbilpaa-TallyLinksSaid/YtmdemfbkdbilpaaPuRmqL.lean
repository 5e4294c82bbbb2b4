/-
  The plain laws of layer rmq: the least of a range, and what the document says of it. No condition.
-/
import Derived.Test.YtmdemfbkdbilpaaPuRmqA
import Derived.Test.YtmdemfbkdbilpaaPuLen
namespace Go.Proofs.Ytmdemfbkdbilpaa
open Go Go.Gol
set_option linter.unusedVariables false
set_option linter.unusedSimpArgs false
set_option maxRecDepth 100000
namespace Rmq
theorem shl_one (k : Nat) (h : k ≤ 60) : ishl .i64 1 (k : Int) = ((2 ^ k : Nat) : Int) := by
  unfold ishl
  have hb : 2 ^ k ≤ 2 ^ 60 := Nat.pow_le_pow_right (by decide) h
  rw [Int.toNat_natCast, show IntKind.bits .i64 = 64 from rfl, Nat.min_eq_left (by omega), Int.one_mul]
  have e : ((2 : Int) ^ k) = ((2 ^ k : Nat) : Int) := by rw [Int.natCast_pow]; rfl
  rw [e]
  generalize 2 ^ k = m at *
  exact wi_eq (by omega) (by omega)
/-- the places of a range -/
def In (n : Nat) (a b : Int) (j : Nat) : Prop := a ≤ (j : Int) ∧ (j : Int) < b ∧ j < n
theorem len_f (l : List Int) (rows : List (List Int)) : rmq_Table_Len.f (some (l, rows)) = some (l.length : Int) := rfl
theorem least_ok {l : List Int} {rows : List (List Int)} (hl : l.length ≤ 4194304) (hT : Tab l rows) (a b : Int) : ∃ r, rmq_Table_Least.f (some (l, rows)) a b = some r ∧ Best l (In l.length a b) r := by
  unfold rmq_Table_Least.f
  rw [len_f, Option.bind_some]
  by_cases hab : imax a 0 ≥ imin b (l.length : Int)
  · rw [if_pos (by simpa using hab)]
    refine ⟨_, rfl, .inl ⟨fun j hj => ?_, rfl⟩⟩
    obtain ⟨h1, h2, h3⟩ := hj
    unfold imax imin at hab
    split at hab <;> split at hab <;> omega
  rw [if_neg (by simpa using hab)]
  obtain ⟨p, hp⟩ : ∃ p : Nat, imax a 0 = (p : Int) := ⟨(imax a 0).toNat, by unfold imax; split <;> omega⟩
  obtain ⟨q, hq⟩ : ∃ q : Nat, imin b (l.length : Int) = (q : Int) := ⟨(imin b (l.length : Int)).toNat, by unfold imax imin at *; split <;> split at hab <;> omega⟩
  have hql : q ≤ l.length := by unfold imin at hq; split at hq <;> omega
  have hin : ∀ j : Nat, (p ≤ j ∧ j < q) ↔ In l.length a b j := fun j => by
    unfold In; unfold imax at hp; unfold imin at hq
    split at hp <;> split at hq <;> omega
  rw [hp, hq] at hab ⊢
  obtain ⟨x, hx, hx0⟩ : ∃ x : Nat, wi (Int.tdiv (wi ((wi ((p : Int) + 32)) - 1)) 32) = (x : Int) ∧ x = (p + 31) / 32 := by
    refine ⟨(p + 31) / 32, ?_, rfl⟩
    rw [wi_eq (n := (p : Int) + 32) (by omega) (by omega), wi_eq (n := (p : Int) + 32 - 1) (by omega) (by omega), Int.tdiv_eq_ediv_of_nonneg (by omega), wi_eq (by omega) (by omega)]; omega
  obtain ⟨y, hy, hy0⟩ : ∃ y : Nat, wi (Int.tdiv (q : Int) 32) = (y : Int) ∧ y = q / 32 := by
    refine ⟨q / 32, ?_, rfl⟩
    rw [Int.tdiv_eq_ediv_of_nonneg (by omega), wi_eq (by omega) (by omega)]; omega
  rw [hx, hy]
  by_cases hxy : y ≤ x
  · rw [if_pos (by simpa using hxy)]
    obtain ⟨r, h1, h2⟩ := scan_ok (rows := rows) hl p q hql
    rw [h1]; exact ⟨r, rfl, h2.congr hin⟩
  rw [if_neg (by simpa using hxy)]
  have hx32 : wi ((x : Int) * 32) = ((32 * x : Nat) : Int) := by rw [wi_eq (by omega) (by omega)]; omega
  have hy32 : wi ((y : Int) * 32) = ((32 * y : Nat) : Int) := by rw [wi_eq (by omega) (by omega)]; omega
  obtain ⟨r1, e1, b1⟩ := scan_ok (rows := rows) hl p (32 * x) (by omega)
  rw [hx32, hy32, e1, Option.bind_some]
  have hd : IntKind.wrap .u64 (wi ((y : Int) - (x : Int))) = ((y - x : Nat) : Int) := by rw [wi_eq (by omega) (by omega), wrap_u64_eq]; omega
  rw [hd]
  obtain ⟨L, hL, hL64, hlt, hge⟩ := Len.len_nat (y - x) (by omega)
  have hlen : bits_Len.f ((y - x : Nat) : Int) = some (L : Int) := by unfold bits_Len.f; rw [hL]; rfl
  rw [hlen, Option.bind_some]
  have hL1 : 1 ≤ L := by
    rcases Nat.eq_zero_or_pos L with h | h
    · rw [h] at hlt; simp at hlt; omega
    · exact h
  replace hge : 2 ^ (L - 1) ≤ y - x := hge.resolve_left (by omega)
  have hL60 : L - 1 ≤ 60 := by
    rcases Nat.lt_or_ge 60 (L - 1) with h | h
    · have : 2 ^ 61 ≤ 2 ^ (L - 1) := Nat.pow_le_pow_right (by decide) h
      omega
    · exact h
  have hw : wi ((L : Int) - 1) = ((L - 1 : Nat) : Int) := by rw [wi_eq (by omega) (by omega)]; omega
  rw [hw]
  simp only [Option.bind_some]
  have h2 : y - x < 2 * 2 ^ (L - 1) := by
    have : 2 ^ L = 2 * 2 ^ (L - 1) := by
      conv => lhs; rw [show L = (L - 1) + 1 by omega, Nat.pow_succ]
      omega
    omega
  generalize hk : L - 1 = k at *
  have hnb : nb l.length = (l.length + 31) / 32 := rfl
  obtain ⟨row, g1, g2, g3⟩ := hT.ok k x (by omega)
  have g4 : y - 2 ^ k < row.length := by have := g3.1; omega
  rw [at?_nat, g1, Option.bind_some, at_get g2, Option.bind_some]
  obtain ⟨r2, e2, b2⟩ := better_ok (rows := rows) b1 (g3.2 x g2) (fun j h => by omega) (fun j h => by omega)
  rw [e2, Option.bind_some, chk?_eq (by simp), Option.bind_some, shl_one k hL60, wi_eq (n := (y : Int) - ((2 ^ k : Nat) : Int)) (by omega) (by omega), show ((y : Int) - ((2 ^ k : Nat) : Int)) = ((y - 2 ^ k : Nat) : Int) by omega, at_get g4, Option.bind_some]
  obtain ⟨r3, e3, b3⟩ := better_ok (rows := rows) b2 (g3.2 (y - 2 ^ k) g4) (fun j h => by omega) (fun j h => by omega)
  obtain ⟨r4, e4, b4⟩ := scan_ok (rows := rows) hl (32 * y) q hql
  obtain ⟨r5, e5, b5⟩ := better_ok (rows := rows) b3 b4 (fun j h => by omega) (fun j h => by omega)
  rw [e3, Option.bind_some, e4, Option.bind_some, e5, Option.bind_some]
  refine ⟨r5, rfl, b5.congr fun j => ?_⟩
  rw [← hin]
  omega
end Rmq
end Go.Proofs.Ytmdemfbkdbilpaa
