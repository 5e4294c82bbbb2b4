/-
  The plain laws of layer crc: the reference's sum, bit by bit, is the same. No condition.
-/
import Derived.Test.YtejjdfnelalnoaaPuCrcA
namespace Go.Proofs.Ytejjdfnelalnoaa
open Go Go.Gol
set_option linter.unusedVariables false
set_option linter.unusedSimpArgs false
namespace Crc
def bitsOf : List (BitVec 8) → List Bool
  | [] => []
  | b :: t => [b.getLsbD 0, b.getLsbD 1, b.getLsbD 2, b.getLsbD 3, b.getLsbD 4, b.getLsbD 5, b.getLsbD 6, b.getLsbD 7] ++ bitsOf t
theorem bitsOf_length (L : List (BitVec 8)) : (bitsOf L).length = 8 * L.length := by
  induction L with
  | nil => rfl
  | cons b t ih => simp [bitsOf, ih]; omega
theorem bitsOf_get (L : List (BitVec 8)) (i : Nat) (h : i < 8 * L.length) : (bitsOf L)[i]? = some ((L[i / 8]'(by omega)).getLsbD (i % 8)) := by
  induction L generalizing i with
  | nil => simp at h
  | cons b t ih =>
    simp only [List.length_cons] at h
    by_cases h8 : i < 8
    · have : i = 0 ∨ i = 1 ∨ i = 2 ∨ i = 3 ∨ i = 4 ∨ i = 5 ∨ i = 6 ∨ i = 7 := by omega
      rcases this with rfl | rfl | rfl | rfl | rfl | rfl | rfl | rfl <;> simp [bitsOf]
    · have e : (bitsOf (b :: t))[i]? = (bitsOf t)[i - 8]? := by
        show ([_, _, _, _, _, _, _, _] ++ bitsOf t)[i]? = _
        rw [List.getElem?_append_right (by simp; omega)]; rfl
      rw [e, ih (i - 8) (by omega)]
      have e1 : i / 8 = (i - 8) / 8 + 1 := by omega
      have e2 : (i - 8) % 8 = i % 8 := by omega
      simp only [e1, e2, List.getElem_cons_succ]
def sbit (r : B32) (b : Bool) : B32 := step (r ^^^ (if b then 1#32 else 0#32))
def regb (r : B32) (l : List Bool) : B32 := l.foldl sbit r
theorem nxt_bits (r : B32) (b : BitVec 8) : nxt r b = regb r [b.getLsbD 0, b.getLsbD 1, b.getLsbD 2, b.getLsbD 3, b.getLsbD 4, b.getLsbD 5, b.getLsbD 6, b.getLsbD 7] := by
  have lin : ∀ (l : List Bool) (x y : B32), regb (x ^^^ y) l = steps l.length x ^^^ regb y l := by
    intro l
    induction l with
    | nil => intro x y; rfl
    | cons c t ih =>
      intro x y
      show regb (sbit (x ^^^ y) c) t = _
      have : sbit (x ^^^ y) c = step x ^^^ sbit y c := by unfold sbit; rw [← step_xor, BitVec.xor_assoc]
      rw [this, ih]; rfl
  have h0 : ∀ b : BitVec 8, steps 8 (b.setWidth 32) = regb 0#32 [b.getLsbD 0, b.getLsbD 1, b.getLsbD 2, b.getLsbD 3, b.getLsbD 4, b.getLsbD 5, b.getLsbD 6, b.getLsbD 7] := by
    have : ∀ n : Fin 256, steps 8 ((BitVec.ofFin (w := 8) n).setWidth 32) = regb 0#32 [(BitVec.ofFin (w := 8) n).getLsbD 0, (BitVec.ofFin (w := 8) n).getLsbD 1, (BitVec.ofFin (w := 8) n).getLsbD 2, (BitVec.ofFin (w := 8) n).getLsbD 3, (BitVec.ofFin (w := 8) n).getLsbD 4, (BitVec.ofFin (w := 8) n).getLsbD 5, (BitVec.ofFin (w := 8) n).getLsbD 6, (BitVec.ofFin (w := 8) n).getLsbD 7] := by decide +kernel
    intro b; exact this b.toFin
  unfold nxt
  rw [steps_xor, h0]
  have := lin [b.getLsbD 0, b.getLsbD 1, b.getLsbD 2, b.getLsbD 3, b.getLsbD 4, b.getLsbD 5, b.getLsbD 6, b.getLsbD 7] r 0#32
  rw [show r ^^^ 0#32 = r by simp] at this
  rw [this]; rfl
theorem reg_bits (L : List (BitVec 8)) (r : B32) : reg r L = regb r (bitsOf L) := by
  induction L generalizing r with
  | nil => rfl
  | cons b t ih =>
    show reg (nxt r b) t = List.foldl sbit r ([_, _, _, _, _, _, _, _] ++ bitsOf t)
    rw [List.foldl_append, ih, nxt_bits]; rfl
theorem ref_l1 (L : List (BitVec 8)) (hL : L.length ≤ 1000000) (n : Nat) : ∀ (k i : Nat) (r : B32), 8 * L.length - i = n → n < k → i ≤ 8 * L.length →
    colophonref04_Sum.l1 (L.map ub) k (r.toNat : Int) (i : Int) = some ((regb r ((bitsOf L).drop i)).toNat : Int) := by
  induction n with
  | zero =>
    intro k i r h hk hi; cases k with
    | zero => omega
    | succ k =>
      unfold colophonref04_Sum.l1
      rw [if_neg (by simp only [List.length_map, decide_eq_true_eq]; rw [wi_eq (by omega) (by omega)]; omega), List.drop_of_length_le (by rw [bitsOf_length]; omega)]; rfl
  | succ n ih =>
    intro k i r h hk hi; cases k with
    | zero => omega
    | succ k =>
      unfold colophonref04_Sum.l1
      have hl : i < 8 * L.length := by omega
      rw [if_pos (by simp only [List.length_map, decide_eq_true_eq]; rw [wi_eq (by omega) (by omega)]; omega)]
      have e1 : wi (Int.tdiv (i : Int) 8) = ((i / 8 : Nat) : Int) := by rw [Int.tdiv_eq_ediv_of_nonneg (by omega), wi_eq (by omega) (by omega)]; omega
      have e2 : IntKind.wrap .u64 (Int.tmod (i : Int) 8) = ((i % 8 : Nat) : Int) := by rw [Int.tmod_eq_emod_of_nonneg (by omega), wrap_u64_eq]; omega
      have e3 : wi ((i : Int) + 1) = ((i + 1 : Nat) : Int) := by rw [wi_eq (by omega) (by omega)]; omega
      have e4 : IntKind.wrap .u32 (Int.tdiv (r.toNat : Int) 2) = ((r >>> 1).toNat : Int) := by
        have := r.isLt
        rw [Int.tdiv_eq_ediv_of_nonneg (by omega), wrap_u32_eq, BitVec.toNat_ushiftRight, Nat.shiftRight_eq_div_pow]; omega
      rw [e1, e2, e3, e4, at?_nat, List.getElem?_map, List.getElem?_eq_getElem (show i / 8 < L.length by omega)]
      simp only [Option.map_some, Option.bind_some]
      generalize hb : L[i / 8]'(by omega) = b
      have e5 : (iand .u8 (ishr .u8 (ub b) ((i % 8 : Nat) : Int)) 1 == 1) = b.getLsbD (i % 8) := by
        rw [show ishr .u8 (ub b) ((i % 8 : Nat) : Int) = ((b >>> (i % 8)).toNat : Int) from un_shr (w := 8) .u8 rfl b (i % 8) (by omega)]
        rw [show (1 : Int) = ((1#8).toNat : Int) from rfl, un_and8]
        have : ((b >>> (i % 8)) &&& 1#8).toNat = (b >>> (i % 8)).toNat % 2 := by rw [BitVec.toNat_and]; exact Nat.and_one_is_mod _
        rw [this]
        have : b.getLsbD (i % 8) = (b >>> (i % 8)).toNat.testBit 0 := by
          show _ = (b >>> (i % 8)).getLsbD 0
          rw [BitVec.getLsbD_ushiftRight]; simp
        rw [this, Nat.testBit_zero]; generalize (b >>> (i % 8)).toNat = t; rw [Bool.eq_iff_iff]; simp; omega
      have e6 : (Int.tmod (r.toNat : Int) 2 == 1) = r.getLsbD 0 := by
        show _ = r.toNat.testBit 0
        rw [Int.tmod_eq_emod_of_nonneg (by omega), Nat.testBit_zero, Bool.eq_iff_iff]; simp; omega
      rw [e5, e6]
      have hd : (bitsOf L).drop i = b.getLsbD (i % 8) :: (bitsOf L).drop (i + 1) := by
        have hg := bitsOf_get L i hl
        rw [hb] at hg
        have hlt : i < (bitsOf L).length := by rw [bitsOf_length]; omega
        rw [List.drop_eq_getElem_cons hlt]
        rw [List.getElem?_eq_getElem hlt] at hg
        rw [Option.some.inj hg]
      rw [hd]
      show _ = some ((regb (sbit r (b.getLsbD (i % 8))) ((bitsOf L).drop (i + 1))).toNat : Int)
      have hx : sbit r (b.getLsbD (i % 8)) = (r >>> 1) ^^^ (if r.getLsbD 0 != b.getLsbD (i % 8) then poly else 0#32) := by
        unfold sbit step
        have : (r ^^^ (if b.getLsbD (i % 8) = true then 1#32 else 0#32)) >>> 1 = r >>> 1 := by
          rw [BitVec.ushiftRight_xor_distrib]; cases b.getLsbD (i % 8) <;> simp
        rw [this, BitVec.getLsbD_xor]; cases b.getLsbD (i % 8) <;> simp
      have hih := ih k (i + 1) (sbit r (b.getLsbD (i % 8))) (by omega) (by omega) (by omega)
      rw [← hih, hx]
      cases hc : (r.getLsbD 0 != b.getLsbD (i % 8)) with
      | true => rw [if_pos rfl, if_pos rfl, show (3988292384 : Int) = (poly.toNat : Int) from rfl, un_xor32]
      | false => rw [if_neg (by simp), if_neg (by simp)]; simp
theorem ref_sum (L : List (BitVec 8)) (hL : L.length ≤ 1000000) : colophonref04_Sum.f (L.map ub) = some ((sum L).toNat : Int) := by
  unfold colophonref04_Sum.f
  have h1 : (4294967295 : Int) = (ones.toNat : Int) := rfl
  have := ref_l1 L hL (8 * L.length) FU 0 ones (by omega) (by show 8 * L.length < 4611686018427387904; omega) (by omega)
  rw [show ((0 : Nat) : Int) = 0 from rfl, ← h1] at this
  rw [this, Option.bind_some, List.drop_zero, ← reg_bits]
  unfold sum; rw [BitVec.toNat_not, wrap_u32_eq]; have := (reg ones L).isLt; congr 1; omega
theorem ref_put1 (w : B32) (x : List (BitVec 8)) (hx : x.length ≤ 1000000) (j : Nat) : ∀ (k : Nat), j ≤ 4 → j < k → ∀ y : List (BitVec 8), y.length ≤ 1000000 + 4 - j →
    colophonref04_Put.l1 k (y.map ub) ((w >>> (8 * (4 - j))).toNat : Int) ((4 - j : Nat) : Int) = some ((y ++ (le w).drop (4 - j)).map ub) := by
  induction j with
  | zero => intro k _ hk y hy; cases k with
    | zero => omega
    | succ k => unfold colophonref04_Put.l1; rw [if_neg (by simp)]; simp [le]
  | succ j ih =>
    intro k hj hk y hy; cases k with
    | zero => omega
    | succ k =>
      unfold colophonref04_Put.l1
      rw [if_pos (by simp; omega), app?_eq (by simp; omega), Option.bind_some]
      have hv := (w >>> (8 * (4 - (j + 1)))).isLt
      have e1 : IntKind.wrap .u8 (Int.tmod ((w >>> (8 * (4 - (j + 1)))).toNat : Int) 256) = ub ((w >>> (8 * (4 - (j + 1)))).setWidth 8) := by
        rw [Int.tmod_eq_emod_of_nonneg (by omega), wrap_u8_eq, ub, BitVec.toNat_setWidth]; omega
      have e2 : IntKind.wrap .u32 (Int.tdiv ((w >>> (8 * (4 - (j + 1)))).toNat : Int) 256) = ((w >>> (8 * (4 - j))).toNat : Int) := by
        rw [show 8 * (4 - j) = 8 * (4 - (j + 1)) + 8 by omega, BitVec.shiftRight_add]
        rw [Int.tdiv_eq_ediv_of_nonneg (by omega), wrap_u32_eq, BitVec.toNat_ushiftRight _ 8, Nat.shiftRight_eq_div_pow]; omega
      have e3 : wi (((4 - (j + 1) : Nat) : Int) + 1) = ((4 - j : Nat) : Int) := by rw [wi_eq (by omega) (by omega)]; omega
      rw [e1, e2, e3]
      have := ih k (by omega) (by omega) (y ++ [(w >>> (8 * (4 - (j + 1)))).setWidth 8]) (by simp; omega)
      rw [List.map_append] at this
      rw [show List.map ub [(w >>> (8 * (4 - (j + 1)))).setWidth 8] = [ub ((w >>> (8 * (4 - (j + 1)))).setWidth 8)] from rfl] at this
      rw [this, List.append_assoc]
      congr 3
      have : j = 0 ∨ j = 1 ∨ j = 2 ∨ j = 3 := by omega
      rcases this with rfl | rfl | rfl | rfl <;> simp [le]
theorem ref_put (L : List (BitVec 8)) (hL : L.length ≤ 1000000) : colophonref04_Put.f (L.map ub) = some ((put L).map ub) := by
  unfold colophonref04_Put.f
  rw [app?_eq (by simp; omega), Option.bind_some, ref_sum L hL, Option.bind_some, List.nil_append]
  have := ref_put1 (sum L) L hL 4 FU (by omega) (by decide) L (by omega)
  rw [show 8 * (4 - 4) = 0 from rfl, show (4 - 4 : Nat) = 0 from rfl, show ((0 : Nat) : Int) = 0 from rfl] at this
  simp only [BitVec.ushiftRight_zero, List.drop_zero] at this
  rw [this]; rfl
end Crc
end Go.Proofs.Ytejjdfnelalnoaa
