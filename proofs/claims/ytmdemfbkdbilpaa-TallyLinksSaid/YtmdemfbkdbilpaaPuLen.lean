/-
  How many bits a number has: what the library's table answers. No condition.
-/
import Derived.Test.YtmdemfbkdbilpaaGP1
import Derived.Test.YtmdemfbkdbilpaaGI
namespace Go.Proofs.Ytmdemfbkdbilpaa
open Go Go.Gol
set_option linter.unusedVariables false
set_option linter.unusedSimpArgs false
set_option maxRecDepth 100000
namespace Len
abbrev W64 := BitVec 64
abbrev uw (b : W64) : Int := (b.toNat : Int)
def bl (n : Nat) : Nat := if n = 0 then 0 else Nat.log2 n + 1
theorem tab_ok : ∀ b : Fin 256, chr? (⟨#[0, 1, 2, 2, 3, 3, 3, 3, 4, 4, 4, 4, 4, 4, 4, 4, 5, 5, 5, 5, 5, 5, 5, 5, 5, 5, 5, 5, 5, 5, 5, 5, 6, 6, 6, 6, 6, 6, 6, 6, 6, 6, 6, 6, 6, 6, 6, 6, 6, 6, 6, 6, 6, 6, 6, 6, 6, 6, 6, 6, 6, 6, 6, 6, 7, 7, 7, 7, 7, 7, 7, 7, 7, 7, 7, 7, 7, 7, 7, 7, 7, 7, 7, 7, 7, 7, 7, 7, 7, 7, 7, 7, 7, 7, 7, 7, 7, 7, 7, 7, 7, 7, 7, 7, 7, 7, 7, 7, 7, 7, 7, 7, 7, 7, 7, 7, 7, 7, 7, 7, 7, 7, 7, 7, 7, 7, 7, 7, 8, 8, 8, 8, 8, 8, 8, 8, 8, 8, 8, 8, 8, 8, 8, 8, 8, 8, 8, 8, 8, 8, 8, 8, 8, 8, 8, 8, 8, 8, 8, 8, 8, 8, 8, 8, 8, 8, 8, 8, 8, 8, 8, 8, 8, 8, 8, 8, 8, 8, 8, 8, 8, 8, 8, 8, 8, 8, 8, 8, 8, 8, 8, 8, 8, 8, 8, 8, 8, 8, 8, 8, 8, 8, 8, 8, 8, 8, 8, 8, 8, 8, 8, 8, 8, 8, 8, 8, 8, 8, 8, 8, 8, 8, 8, 8, 8, 8, 8, 8, 8, 8, 8, 8, 8, 8, 8, 8, 8, 8, 8, 8, 8, 8, 8, 8, 8, 8, 8, 8, 8, 8, 8, 8, 8, 8, 8, 8]⟩ : ByteArray) ((b.val : Nat) : Int) = some ((bl b.val : Nat) : Int) ∧ bl b.val ≤ 8 ∧ b.val < 2 ^ bl b.val ∧ (bl b.val = 0 ∨ 2 ^ (bl b.val - 1) ≤ b.val) := by decide +kernel
theorem bl_ok (v s : Nat) (h : v / 2 ^ s < 256) (hs : s = 0 ∨ 2 ^ s ≤ v) : v < 2 ^ (s + bl (v / 2 ^ s)) ∧ (s + bl (v / 2 ^ s) = 0 ∨ 2 ^ (s + bl (v / 2 ^ s) - 1) ≤ v) ∧ s + bl (v / 2 ^ s) ≤ s + 8 := by
  obtain ⟨_, h2, h3, h4⟩ := tab_ok ⟨v / 2 ^ s, h⟩
  simp only at h2 h3 h4
  have hp : 0 < 2 ^ s := Nat.pow_pos (by decide)
  refine ⟨?_, ?_, by omega⟩
  · rw [Nat.pow_add, Nat.mul_comm]; exact (Nat.div_lt_iff_lt_mul hp).1 h3
  · rcases h4 with h4 | h4
    · rcases hs with rfl | hs
      · left; omega
      · have : 1 ≤ v / 2 ^ s := (Nat.le_div_iff_mul_le hp).2 (by omega)
        rw [h4] at h3; simp at h3; omega
    · by_cases h0 : bl (v / 2 ^ s) = 0
      · rw [h0] at h3; simp at h3
        rcases hs with rfl | hs
        · left; omega
        · have : 1 ≤ v / 2 ^ s := (Nat.le_div_iff_mul_le hp).2 (by omega)
          omega
      · right
        rw [show s + bl (v / 2 ^ s) - 1 = (bl (v / 2 ^ s) - 1) + s by omega, Nat.pow_add]
        exact (Nat.le_div_iff_mul_le hp).1 h4
theorem len64 (v : W64) : ∃ l : Nat, bits_Len64.f (uw v) = some (l : Int) ∧ l ≤ 64 ∧ v.toNat < 2 ^ l ∧ (l = 0 ∨ 2 ^ (l - 1) ≤ v.toNat) := by
  have hv := v.isLt
  have s8 : ∀ a : Nat, ishr .u64 (a : Int) 8 = ((a / 256 : Nat) : Int) := fun a => ishr_nat .u64 a 8 (by decide)
  have s16 : ∀ a : Nat, ishr .u64 (a : Int) 16 = ((a / 65536 : Nat) : Int) := fun a => ishr_nat .u64 a 16 (by decide)
  have s32 : ∀ a : Nat, ishr .u64 (a : Int) 32 = ((a / 4294967296 : Nat) : Int) := fun a => ishr_nat .u64 a 32 (by decide)
  have wr : ∀ a : Nat, a < 256 → IntKind.wrap .u8 (a : Int) = (a : Int) := fun a h => by rw [wrap_u8_eq]; omega
  have go : ∀ (s : Nat) (c : Int), s ≤ 56 → v.toNat / 2 ^ s < 256 → (s = 0 ∨ 2 ^ s ≤ v.toNat) → c = (s : Int) →
      ∃ l : Nat, ((chr? (⟨#[0, 1, 2, 2, 3, 3, 3, 3, 4, 4, 4, 4, 4, 4, 4, 4, 5, 5, 5, 5, 5, 5, 5, 5, 5, 5, 5, 5, 5, 5, 5, 5, 6, 6, 6, 6, 6, 6, 6, 6, 6, 6, 6, 6, 6, 6, 6, 6, 6, 6, 6, 6, 6, 6, 6, 6, 6, 6, 6, 6, 6, 6, 6, 6, 7, 7, 7, 7, 7, 7, 7, 7, 7, 7, 7, 7, 7, 7, 7, 7, 7, 7, 7, 7, 7, 7, 7, 7, 7, 7, 7, 7, 7, 7, 7, 7, 7, 7, 7, 7, 7, 7, 7, 7, 7, 7, 7, 7, 7, 7, 7, 7, 7, 7, 7, 7, 7, 7, 7, 7, 7, 7, 7, 7, 7, 7, 7, 7, 8, 8, 8, 8, 8, 8, 8, 8, 8, 8, 8, 8, 8, 8, 8, 8, 8, 8, 8, 8, 8, 8, 8, 8, 8, 8, 8, 8, 8, 8, 8, 8, 8, 8, 8, 8, 8, 8, 8, 8, 8, 8, 8, 8, 8, 8, 8, 8, 8, 8, 8, 8, 8, 8, 8, 8, 8, 8, 8, 8, 8, 8, 8, 8, 8, 8, 8, 8, 8, 8, 8, 8, 8, 8, 8, 8, 8, 8, 8, 8, 8, 8, 8, 8, 8, 8, 8, 8, 8, 8, 8, 8, 8, 8, 8, 8, 8, 8, 8, 8, 8, 8, 8, 8, 8, 8, 8, 8, 8, 8, 8, 8, 8, 8, 8, 8, 8, 8, 8, 8, 8, 8, 8, 8, 8, 8, 8, 8]⟩ : ByteArray) ((v.toNat / 2 ^ s : Nat) : Int)).bind fun x => some (wi (c + wi x))) = some (l : Int) ∧ l ≤ 64 ∧ v.toNat < 2 ^ l ∧ (l = 0 ∨ 2 ^ (l - 1) ≤ v.toNat) := by
    intro s c hs h h1 hc
    obtain ⟨e1, e2, e3⟩ := bl_ok _ _ h h1
    obtain ⟨f1, f2, _⟩ := tab_ok ⟨_, h⟩
    simp only at f1 f2
    refine ⟨s + bl (v.toNat / 2 ^ s), ?_, by omega, e1, e2⟩
    rw [f1, Option.bind_some, hc, wi_eq (n := ((bl (v.toNat / 2 ^ s) : Nat) : Int)) (by omega) (by omega), wi_eq (by omega) (by omega)]; congr 1
  unfold bits_Len64.f
  show ∃ l : Nat, (if decide ((v.toNat : Int) ≥ 4294967296) = true then _ else _) = some (l : Int) ∧ _
  simp only [uw, s8, s16, s32, Nat.div_div_eq_div_mul]
  by_cases h1 : 4294967296 ≤ v.toNat
  · rw [if_pos (by simp; omega)]
    by_cases h2 : 65536 ≤ v.toNat / 4294967296
    · rw [if_pos (by simp; omega)]
      by_cases h3 : 256 ≤ v.toNat / (4294967296 * 65536)
      · rw [if_pos (by simp; omega), wr _ (by omega)]; exact go 56 (wi (wi (32 + 16) + 8)) (by omega) (by omega) (by omega) (by decide)
      · rw [if_neg (by simp; omega), wr _ (by omega)]; exact go 48 (wi (32 + 16)) (by omega) (by omega) (by omega) (by decide)
    · rw [if_neg (by simp; omega)]
      by_cases h3 : 256 ≤ v.toNat / 4294967296
      · rw [if_pos (by simp; omega), wr _ (by omega)]; exact go 40 (wi (32 + 8)) (by omega) (by omega) (by omega) (by decide)
      · rw [if_neg (by simp; omega), wr _ (by omega)]; exact go 32 32 (by omega) (by omega) (by omega) (by decide)
  · rw [if_neg (by simp; omega)]
    by_cases h2 : 65536 ≤ v.toNat
    · rw [if_pos (by simp; omega)]
      by_cases h3 : 256 ≤ v.toNat / 65536
      · rw [if_pos (by simp; omega), wr _ (by omega)]; exact go 24 (wi (wi (0 + 16) + 8)) (by omega) (by omega) (by omega) (by decide)
      · rw [if_neg (by simp; omega), wr _ (by omega)]; exact go 16 (wi (0 + 16)) (by omega) (by omega) (by omega) (by decide)
    · rw [if_neg (by simp; omega)]
      by_cases h3 : 256 ≤ v.toNat
      · rw [if_pos (by simp; omega), wr _ (by omega)]; exact go 8 (wi (0 + 8)) (by omega) (by omega) (by omega) (by decide)
      · rw [if_neg (by simp; omega), wr _ (by omega)]
        have := go 0 0 (by omega) (by simpa using by omega) (by omega) (by decide)
        simpa using this

theorem len_nat (n : Nat) (h : n < 18446744073709551616) : ∃ l : Nat, bits_Len64.f (n : Int) = some (l : Int) ∧ l ≤ 64 ∧ n < 2 ^ l ∧ (l = 0 ∨ 2 ^ (l - 1) ≤ n) := by
  have := len64 (BitVec.ofNat 64 n)
  rw [show uw (BitVec.ofNat 64 n) = (n : Int) by simp [uw, BitVec.toNat_ofNat, Nat.mod_eq_of_lt h], BitVec.toNat_ofNat, Nat.mod_eq_of_lt h] at this
  exact this
end Len
end Go.Proofs.Ytmdemfbkdbilpaa
