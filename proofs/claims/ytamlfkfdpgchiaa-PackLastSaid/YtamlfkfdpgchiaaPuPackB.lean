/-
  The plain laws of layer pack: what a number needs, and the laws themselves. No condition.
-/
import Derived.Test.YtamlfkfdpgchiaaPuPackA
import Derived.Test.YtamlfkfdpgchiaaGPackWidths
namespace Go.Proofs.Ytamlfkfdpgchiaa
open Go Go.Gol
set_option linter.unusedVariables false
set_option linter.unusedSimpArgs false
set_option maxRecDepth 100000
namespace Pack
def bl (n : Nat) : Nat := if n = 0 then 0 else Nat.log2 n + 1
theorem tab_ok : ∀ b : Fin 256, chr? (⟨#[0, 1, 2, 2, 3, 3, 3, 3, 4, 4, 4, 4, 4, 4, 4, 4, 5, 5, 5, 5, 5, 5, 5, 5, 5, 5, 5, 5, 5, 5, 5, 5, 6, 6, 6, 6, 6, 6, 6, 6, 6, 6, 6, 6, 6, 6, 6, 6, 6, 6, 6, 6, 6, 6, 6, 6, 6, 6, 6, 6, 6, 6, 6, 6, 7, 7, 7, 7, 7, 7, 7, 7, 7, 7, 7, 7, 7, 7, 7, 7, 7, 7, 7, 7, 7, 7, 7, 7, 7, 7, 7, 7, 7, 7, 7, 7, 7, 7, 7, 7, 7, 7, 7, 7, 7, 7, 7, 7, 7, 7, 7, 7, 7, 7, 7, 7, 7, 7, 7, 7, 7, 7, 7, 7, 7, 7, 7, 7, 8, 8, 8, 8, 8, 8, 8, 8, 8, 8, 8, 8, 8, 8, 8, 8, 8, 8, 8, 8, 8, 8, 8, 8, 8, 8, 8, 8, 8, 8, 8, 8, 8, 8, 8, 8, 8, 8, 8, 8, 8, 8, 8, 8, 8, 8, 8, 8, 8, 8, 8, 8, 8, 8, 8, 8, 8, 8, 8, 8, 8, 8, 8, 8, 8, 8, 8, 8, 8, 8, 8, 8, 8, 8, 8, 8, 8, 8, 8, 8, 8, 8, 8, 8, 8, 8, 8, 8, 8, 8, 8, 8, 8, 8, 8, 8, 8, 8, 8, 8, 8, 8, 8, 8, 8, 8, 8, 8, 8, 8, 8, 8, 8, 8, 8, 8, 8, 8, 8, 8, 8, 8, 8, 8, 8, 8, 8, 8]⟩ : ByteArray) ((b.val : Nat) : Int) = some ((bl b.val : Nat) : Int) ∧ bl b.val ≤ 8 ∧ b.val < 2 ^ bl b.val ∧ (bl b.val = 0 ∨ 2 ^ (bl b.val - 1) ≤ b.val) := by decide +kernel
theorem bl_ok (v s : Nat) (h : v / 2 ^ s < 256) (hs : s = 0 ∨ 2 ^ s ≤ v) : v < 2 ^ (s + bl (v / 2 ^ s)) ∧ (s + bl (v / 2 ^ s) = 0 ∨ 2 ^ (s + bl (v / 2 ^ s) - 1) ≤ v) ∧ s + bl (v / 2 ^ s) ≤ s + 8 := by
  obtain ⟨_, h2, h3, h4⟩ := tab_ok ⟨v / 2 ^ s, h⟩
  simp only at h2 h3 h4
  have hp : 0 < 2 ^ s := Nat.pow_pos (by decide)
  refine ⟨?_, ?_, by omega⟩
  · rw [Nat.pow_add, Nat.mul_comm]; exact (Nat.div_lt_iff_lt_mul hp).1 h3
  · rcases h4 with h4 | h4
    · rcases hs with rfl | hs
      · left; omega
      · have : 1 ≤ v / 2 ^ s := (Nat.le_div_iff_mul_le hp).2 (by omega)
        rw [h4] at h3; simp at h3; omega
    · by_cases h0 : bl (v / 2 ^ s) = 0
      · rw [h0] at h3; simp at h3
        rcases hs with rfl | hs
        · left; omega
        · have : 1 ≤ v / 2 ^ s := (Nat.le_div_iff_mul_le hp).2 (by omega)
          omega
      · right
        rw [show s + bl (v / 2 ^ s) - 1 = (bl (v / 2 ^ s) - 1) + s by omega, Nat.pow_add]
        exact (Nat.le_div_iff_mul_le hp).1 h4
theorem len64 (v : W64) : ∃ l : Nat, bits_Len64.f (uw v) = some (l : Int) ∧ l ≤ 64 ∧ v.toNat < 2 ^ l ∧ (l = 0 ∨ 2 ^ (l - 1) ≤ v.toNat) := by
  have hv := v.isLt
  have s8 : ∀ a : Nat, ishr .u64 (a : Int) 8 = ((a / 256 : Nat) : Int) := fun a => ishr_nat .u64 a 8 (by decide)
  have s16 : ∀ a : Nat, ishr .u64 (a : Int) 16 = ((a / 65536 : Nat) : Int) := fun a => ishr_nat .u64 a 16 (by decide)
  have s32 : ∀ a : Nat, ishr .u64 (a : Int) 32 = ((a / 4294967296 : Nat) : Int) := fun a => ishr_nat .u64 a 32 (by decide)
  have wr : ∀ a : Nat, a < 256 → IntKind.wrap .u8 (a : Int) = (a : Int) := fun a h => by rw [wrap_u8_eq]; omega
  have go : ∀ (s : Nat) (c : Int), s ≤ 56 → v.toNat / 2 ^ s < 256 → (s = 0 ∨ 2 ^ s ≤ v.toNat) → c = (s : Int) →
      ∃ l : Nat, ((chr? (⟨#[0, 1, 2, 2, 3, 3, 3, 3, 4, 4, 4, 4, 4, 4, 4, 4, 5, 5, 5, 5, 5, 5, 5, 5, 5, 5, 5, 5, 5, 5, 5, 5, 6, 6, 6, 6, 6, 6, 6, 6, 6, 6, 6, 6, 6, 6, 6, 6, 6, 6, 6, 6, 6, 6, 6, 6, 6, 6, 6, 6, 6, 6, 6, 6, 7, 7, 7, 7, 7, 7, 7, 7, 7, 7, 7, 7, 7, 7, 7, 7, 7, 7, 7, 7, 7, 7, 7, 7, 7, 7, 7, 7, 7, 7, 7, 7, 7, 7, 7, 7, 7, 7, 7, 7, 7, 7, 7, 7, 7, 7, 7, 7, 7, 7, 7, 7, 7, 7, 7, 7, 7, 7, 7, 7, 7, 7, 7, 7, 8, 8, 8, 8, 8, 8, 8, 8, 8, 8, 8, 8, 8, 8, 8, 8, 8, 8, 8, 8, 8, 8, 8, 8, 8, 8, 8, 8, 8, 8, 8, 8, 8, 8, 8, 8, 8, 8, 8, 8, 8, 8, 8, 8, 8, 8, 8, 8, 8, 8, 8, 8, 8, 8, 8, 8, 8, 8, 8, 8, 8, 8, 8, 8, 8, 8, 8, 8, 8, 8, 8, 8, 8, 8, 8, 8, 8, 8, 8, 8, 8, 8, 8, 8, 8, 8, 8, 8, 8, 8, 8, 8, 8, 8, 8, 8, 8, 8, 8, 8, 8, 8, 8, 8, 8, 8, 8, 8, 8, 8, 8, 8, 8, 8, 8, 8, 8, 8, 8, 8, 8, 8, 8, 8, 8, 8, 8, 8]⟩ : ByteArray) ((v.toNat / 2 ^ s : Nat) : Int)).bind fun x => some (wi (c + wi x))) = some (l : Int) ∧ l ≤ 64 ∧ v.toNat < 2 ^ l ∧ (l = 0 ∨ 2 ^ (l - 1) ≤ v.toNat) := by
    intro s c hs h h1 hc
    obtain ⟨e1, e2, e3⟩ := bl_ok _ _ h h1
    obtain ⟨f1, f2, _⟩ := tab_ok ⟨_, h⟩
    simp only at f1 f2
    refine ⟨s + bl (v.toNat / 2 ^ s), ?_, by omega, e1, e2⟩
    rw [f1, Option.bind_some, hc, wi_eq (n := ((bl (v.toNat / 2 ^ s) : Nat) : Int)) (by omega) (by omega), wi_eq (by omega) (by omega)]; congr 1
  unfold bits_Len64.f
  show ∃ l : Nat, (if decide ((v.toNat : Int) ≥ 4294967296) = true then _ else _) = some (l : Int) ∧ _
  simp only [uw, s8, s16, s32, Nat.div_div_eq_div_mul]
  by_cases h1 : 4294967296 ≤ v.toNat
  · rw [if_pos (by simp; omega)]
    by_cases h2 : 65536 ≤ v.toNat / 4294967296
    · rw [if_pos (by simp; omega)]
      by_cases h3 : 256 ≤ v.toNat / (4294967296 * 65536)
      · rw [if_pos (by simp; omega), wr _ (by omega)]; exact go 56 (wi (wi (32 + 16) + 8)) (by omega) (by omega) (by omega) (by decide)
      · rw [if_neg (by simp; omega), wr _ (by omega)]; exact go 48 (wi (32 + 16)) (by omega) (by omega) (by omega) (by decide)
    · rw [if_neg (by simp; omega)]
      by_cases h3 : 256 ≤ v.toNat / 4294967296
      · rw [if_pos (by simp; omega), wr _ (by omega)]; exact go 40 (wi (32 + 8)) (by omega) (by omega) (by omega) (by decide)
      · rw [if_neg (by simp; omega), wr _ (by omega)]; exact go 32 32 (by omega) (by omega) (by omega) (by decide)
  · rw [if_neg (by simp; omega)]
    by_cases h2 : 65536 ≤ v.toNat
    · rw [if_pos (by simp; omega)]
      by_cases h3 : 256 ≤ v.toNat / 65536
      · rw [if_pos (by simp; omega), wr _ (by omega)]; exact go 24 (wi (wi (0 + 16) + 8)) (by omega) (by omega) (by omega) (by decide)
      · rw [if_neg (by simp; omega), wr _ (by omega)]; exact go 16 (wi (0 + 16)) (by omega) (by omega) (by omega) (by decide)
    · rw [if_neg (by simp; omega)]
      by_cases h3 : 256 ≤ v.toNat
      · rw [if_pos (by simp; omega), wr _ (by omega)]; exact go 8 (wi (0 + 8)) (by omega) (by omega) (by omega) (by decide)
      · rw [if_neg (by simp; omega), wr _ (by omega)]
        have := go 0 0 (by omega) (by simpa using by omega) (by omega) (by decide)
        simpa using this
/-- a packed list of these numbers -/
structure Pk (w n : Nat) (U : List W64) (xs : Nat → W64) : Prop where
  hU : n * w ≤ 64 * U.length
  bit : ∀ i, i < n → ∀ j, j < w → bitAt U (i * w + j) = (xs i).getLsbD j
  fit : ∀ i, i < n → Fit w (xs i)
theorem pk_new (w n : Nat) : Pk w n (List.replicate (need w n) 0#64) (fun _ => 0#64) := ⟨by simpa using need_ok w n, fun i _ j _ => by rw [bit_new]; simp, fun i _ j _ => by simp⟩
theorem pk_get {w n : Nat} {U : List W64} {xs : Nat → W64} (h : Pk w n U xs) (hw : 1 ≤ w) (hw2 : w ≤ 64) (hn : n ≤ 4194304) {i : Nat} (hi : i < n) : pack_Ints_Get.f ((w : Int), (n : Int), U.map uw) (i : Int) = some (uw (xs i)) := by
  obtain ⟨x, hx, hb⟩ := get_f w n i U hw hw2 hn h.hU hi
  have : x = xs i := by
    apply BitVec.eq_of_getLsbD_eq
    intro j hj
    rw [hb j hj]
    by_cases hjw : j < w
    · rw [h.bit i hi j hjw]; simp [hjw]
    · rw [h.fit i hi j (by omega)]; simp [hjw]
  rw [hx, this]
theorem pk_set {w n : Nat} {U : List W64} {xs : Nat → W64} (h : Pk w n U xs) (hw : 1 ≤ w) (hw2 : w ≤ 64) (hn : n ≤ 4194304) {i : Nat} (hi : i < n) {v : W64} (hv : Fit w v) :
    ∃ U', pack_Ints_Set.f ((w : Int), (n : Int), U.map uw) (i : Int) (uw v) = some (true, ((w : Int), (n : Int), U'.map uw)) ∧ U'.length = U.length ∧ Pk w n U' (fun k => if k = i then v else xs k) := by
  obtain ⟨U', e, hl⟩ := set_f w n i U v hw hw2 hn h.hU hi hv
  have mul : ∀ a b : Nat, a < b → a * w + w ≤ b * w := fun a b hab => by have := Nat.mul_le_mul_right w (show a + 1 ≤ b by omega); rw [Nat.add_mul, Nat.one_mul] at this; exact this
  refine ⟨U', e, hl.len, by rw [hl.len]; exact h.hU, fun k hk j hj => ?_, fun k hk j hj => ?_⟩
  · have hU := h.hU
    have hkn := mul k n hk
    rw [hl.bit _ (by omega)]
    by_cases hki : k = i
    · subst hki; rw [if_pos (by omega), if_pos rfl]; congr 1; omega
    · rw [if_neg hki, if_neg ?_, h.bit k hk j hj]
      rcases Nat.lt_or_gt_of_ne hki with hlt | hlt
      · have := mul k i hlt; omega
      · have := mul i k hlt; omega
  · split
    · exact hv j hj
    · exact h.fit k hk j hj
end Pack
open Pack
theorem pure_PackWidths (a0 : Int) (F0 : Fits (.int .u64) a0) : colophonlaw01_PackWidths.f a0 = some true := by
  obtain ⟨v, rfl⟩ : ∃ v : W64, a0 = uw v := ⟨BitVec.ofInt 64 a0, by have := fits_u64 F0; simp [uw]; omega⟩
  obtain ⟨l, hl, hl64, hlt, hge⟩ := len64 v
  have hwd : pack_Width.f (uw v) = some ((max 1 l : Nat) : Int) := by
    unfold pack_Width.f; rw [hl, Option.bind_some]; congr 1; unfold imax; split <;> omega
  unfold colophonlaw01_PackWidths.f
  rw [first_f, Option.bind_some, if_neg (by simp), hwd, Option.bind_some]
  generalize hm : max 1 l = m
  have hm1 : 1 ≤ m := by omega
  have hm2 : m ≤ 64 := by omega
  have fit_of : ∀ w : Nat, v.toNat < 2 ^ w → Fit w v := fun w h j hj => Nat.testBit_lt_two_pow (Nat.lt_of_lt_of_le h (Nat.pow_le_pow_right (by decide) hj))
  have hfit : Fit m v := fit_of m (Nat.lt_of_lt_of_le hlt (Nat.pow_le_pow_right (by decide) (by omega)))
  rw [if_neg (by simp; omega), if_neg (by simp; omega)]
  have e1 : imax 1 (wi ((m : Int) - 1)) = ((max 1 (m - 1) : Nat) : Int) := by rw [wi_eq (by omega) (by omega)]; unfold imax; split <;> omega
  have n1 := new_f m 2 hm1 hm2 (by omega)
  have n2 := new_f (max 1 (m - 1)) 2 (by omega) (by omega) (by omega)
  rw [show ((2 : Nat) : Int) = 2 from rfl] at n1 n2
  rw [e1, n1, Option.bind_some, n2, Option.bind_some]
  simp only [Option.bind_some]
  obtain ⟨U', hs, _, hp⟩ := pk_set (pk_new m 2) hm1 hm2 (by omega) (i := 1) (by omega) hfit
  have g1 := pk_get hp hm1 hm2 (by omega) (i := 1) (by omega)
  have g0 := pk_get hp hm1 hm2 (by omega) (i := 0) (by omega)
  rw [show ((1 : Nat) : Int) = 1 from rfl, show ((2 : Nat) : Int) = 2 from rfl] at hs g1
  rw [show ((0 : Nat) : Int) = 0 from rfl, show ((2 : Nat) : Int) = 2 from rfl] at g0
  rw [hs, Option.bind_some]
  simp only [g1, g0, Option.bind_some]
  simp only [Bool.not_true, Bool.false_eq_true, if_false, if_true]
  simp only [bne_self_eq_false, Bool.false_eq_true, if_false]
  rw [if_neg (by simp [uw])]
  by_cases h1 : m = 1
  · rw [if_pos (by simp [h1])]
  · rw [if_neg (by simp; omega)]
    have hnf : ¬ Fit (max 1 (m - 1)) v := by
      intro hf
      have : v.toNat < 2 ^ (max 1 (m - 1)) := Nat.lt_pow_two_of_testBit _ (fun i hi => hf i hi)
      have hl2 : l = m := by omega
      rcases hge with h | h
      · omega
      · rw [hl2] at h; rw [show max 1 (m - 1) = m - 1 by omega] at this; omega
    have sb := set_bad (max 1 (m - 1)) 2 1 (List.replicate (need (max 1 (m - 1)) 2) 0#64) v (by omega) (by omega) hnf
    have gq := pk_get (pk_new (max 1 (m - 1)) 2) (by omega) (by omega) (by omega) (i := 1) (by omega)
    rw [show ((1 : Nat) : Int) = 1 from rfl, show ((2 : Nat) : Int) = 2 from rfl] at sb gq
    rw [sb, Option.bind_some]
    simp only [Bool.not_false, if_true, gq, Option.bind_some]
    simp [uw]
end Go.Proofs.Ytamlfkfdpgchiaa
