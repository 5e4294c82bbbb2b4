/-
  The plain laws of layer crc: what the four printed laws answer. No condition.
-/
import Derived.Test.YtcbagmeglbleaaaPuCrcA
namespace Go.Proofs.Ytcbagmeglbleaaa
open Go Go.Gol
set_option linter.unusedVariables false
set_option linter.unusedSimpArgs false
namespace Crc
def bitsOf : List (BitVec 8) → List Bool
  | [] => []
  | b :: t => [b.getLsbD 0, b.getLsbD 1, b.getLsbD 2, b.getLsbD 3, b.getLsbD 4, b.getLsbD 5, b.getLsbD 6, b.getLsbD 7] ++ bitsOf t
theorem bitsOf_length (L : List (BitVec 8)) : (bitsOf L).length = 8 * L.length := by
  induction L with
  | nil => rfl
  | cons b t ih => simp [bitsOf, ih]; omega
theorem bitsOf_get (L : List (BitVec 8)) (i : Nat) (h : i < 8 * L.length) : (bitsOf L)[i]? = some ((L[i / 8]'(by omega)).getLsbD (i % 8)) := by
  induction L generalizing i with
  | nil => simp at h
  | cons b t ih =>
    simp only [List.length_cons] at h
    by_cases h8 : i < 8
    · have : i = 0 ∨ i = 1 ∨ i = 2 ∨ i = 3 ∨ i = 4 ∨ i = 5 ∨ i = 6 ∨ i = 7 := by omega
      rcases this with rfl | rfl | rfl | rfl | rfl | rfl | rfl | rfl <;> simp [bitsOf]
    · have e : (bitsOf (b :: t))[i]? = (bitsOf t)[i - 8]? := by
        show ([_, _, _, _, _, _, _, _] ++ bitsOf t)[i]? = _
        rw [List.getElem?_append_right (by simp; omega)]; rfl
      rw [e, ih (i - 8) (by omega)]
      have e1 : i / 8 = (i - 8) / 8 + 1 := by omega
      have e2 : (i - 8) % 8 = i % 8 := by omega
      simp only [e1, e2, List.getElem_cons_succ]
def sbit (r : B32) (b : Bool) : B32 := step (r ^^^ (if b then 1#32 else 0#32))
def regb (r : B32) (l : List Bool) : B32 := l.foldl sbit r
theorem nxt_bits (r : B32) (b : BitVec 8) : nxt r b = regb r [b.getLsbD 0, b.getLsbD 1, b.getLsbD 2, b.getLsbD 3, b.getLsbD 4, b.getLsbD 5, b.getLsbD 6, b.getLsbD 7] := by
  have lin : ∀ (l : List Bool) (x y : B32), regb (x ^^^ y) l = steps l.length x ^^^ regb y l := by
    intro l
    induction l with
    | nil => intro x y; rfl
    | cons c t ih =>
      intro x y
      show regb (sbit (x ^^^ y) c) t = _
      have : sbit (x ^^^ y) c = step x ^^^ sbit y c := by unfold sbit; rw [← step_xor, BitVec.xor_assoc]
      rw [this, ih]; rfl
  have h0 : ∀ b : BitVec 8, steps 8 (b.setWidth 32) = regb 0#32 [b.getLsbD 0, b.getLsbD 1, b.getLsbD 2, b.getLsbD 3, b.getLsbD 4, b.getLsbD 5, b.getLsbD 6, b.getLsbD 7] := by
    have : ∀ n : Fin 256, steps 8 ((BitVec.ofFin (w := 8) n).setWidth 32) = regb 0#32 [(BitVec.ofFin (w := 8) n).getLsbD 0, (BitVec.ofFin (w := 8) n).getLsbD 1, (BitVec.ofFin (w := 8) n).getLsbD 2, (BitVec.ofFin (w := 8) n).getLsbD 3, (BitVec.ofFin (w := 8) n).getLsbD 4, (BitVec.ofFin (w := 8) n).getLsbD 5, (BitVec.ofFin (w := 8) n).getLsbD 6, (BitVec.ofFin (w := 8) n).getLsbD 7] := by decide +kernel
    intro b; exact this b.toFin
  unfold nxt
  rw [steps_xor, h0]
  have := lin [b.getLsbD 0, b.getLsbD 1, b.getLsbD 2, b.getLsbD 3, b.getLsbD 4, b.getLsbD 5, b.getLsbD 6, b.getLsbD 7] r 0#32
  rw [show r ^^^ 0#32 = r by simp] at this
  rw [this]; rfl
theorem reg_bits (L : List (BitVec 8)) (r : B32) : reg r L = regb r (bitsOf L) := by
  induction L generalizing r with
  | nil => rfl
  | cons b t ih =>
    show reg (nxt r b) t = List.foldl sbit r ([_, _, _, _, _, _, _, _] ++ bitsOf t)
    rw [List.foldl_append, ih, nxt_bits]; rfl
theorem ref_l1 (L : List (BitVec 8)) (hL : L.length ≤ 1000000) (n : Nat) : ∀ (k i : Nat) (r : B32), 8 * L.length - i = n → n < k → i ≤ 8 * L.length →
    colophonref04_Sum.l1 (L.map ub) k (r.toNat : Int) (i : Int) = some ((regb r ((bitsOf L).drop i)).toNat : Int) := by
  induction n with
  | zero =>
    intro k i r h hk hi; cases k with
    | zero => omega
    | succ k =>
      unfold colophonref04_Sum.l1
      rw [if_neg (by simp only [List.length_map, decide_eq_true_eq]; rw [wi_eq (by omega) (by omega)]; omega), List.drop_of_length_le (by rw [bitsOf_length]; omega)]; rfl
  | succ n ih =>
    intro k i r h hk hi; cases k with
    | zero => omega
    | succ k =>
      unfold colophonref04_Sum.l1
      have hl : i < 8 * L.length := by omega
      rw [if_pos (by simp only [List.length_map, decide_eq_true_eq]; rw [wi_eq (by omega) (by omega)]; omega)]
      have e1 : wi (Int.tdiv (i : Int) 8) = ((i / 8 : Nat) : Int) := by rw [Int.tdiv_eq_ediv_of_nonneg (by omega), wi_eq (by omega) (by omega)]; omega
      have e2 : IntKind.wrap .u64 (Int.tmod (i : Int) 8) = ((i % 8 : Nat) : Int) := by rw [Int.tmod_eq_emod_of_nonneg (by omega), wrap_u64_eq]; omega
      have e3 : wi ((i : Int) + 1) = ((i + 1 : Nat) : Int) := by rw [wi_eq (by omega) (by omega)]; omega
      have e4 : IntKind.wrap .u32 (Int.tdiv (r.toNat : Int) 2) = ((r >>> 1).toNat : Int) := by
        have := r.isLt
        rw [Int.tdiv_eq_ediv_of_nonneg (by omega), wrap_u32_eq, BitVec.toNat_ushiftRight, Nat.shiftRight_eq_div_pow]; omega
      rw [e1, e2, e3, e4, at?_nat, List.getElem?_map, List.getElem?_eq_getElem (show i / 8 < L.length by omega)]
      simp only [Option.map_some, Option.bind_some]
      generalize hb : L[i / 8]'(by omega) = b
      have e5 : (iand .u8 (ishr .u8 (ub b) ((i % 8 : Nat) : Int)) 1 == 1) = b.getLsbD (i % 8) := by
        rw [show ishr .u8 (ub b) ((i % 8 : Nat) : Int) = ((b >>> (i % 8)).toNat : Int) from un_shr (w := 8) .u8 rfl b (i % 8) (by omega)]
        rw [show (1 : Int) = ((1#8).toNat : Int) from rfl, un_and8]
        have : ((b >>> (i % 8)) &&& 1#8).toNat = (b >>> (i % 8)).toNat % 2 := by rw [BitVec.toNat_and]; exact Nat.and_one_is_mod _
        rw [this]
        have : b.getLsbD (i % 8) = (b >>> (i % 8)).toNat.testBit 0 := by
          show _ = (b >>> (i % 8)).getLsbD 0
          rw [BitVec.getLsbD_ushiftRight]; simp
        rw [this, Nat.testBit_zero]; generalize (b >>> (i % 8)).toNat = t; rw [Bool.eq_iff_iff]; simp; omega
      have e6 : (Int.tmod (r.toNat : Int) 2 == 1) = r.getLsbD 0 := by
        show _ = r.toNat.testBit 0
        rw [Int.tmod_eq_emod_of_nonneg (by omega), Nat.testBit_zero, Bool.eq_iff_iff]; simp; omega
      rw [e5, e6]
      have hd : (bitsOf L).drop i = b.getLsbD (i % 8) :: (bitsOf L).drop (i + 1) := by
        have hg := bitsOf_get L i hl
        rw [hb] at hg
        have hlt : i < (bitsOf L).length := by rw [bitsOf_length]; omega
        rw [List.drop_eq_getElem_cons hlt]
        rw [List.getElem?_eq_getElem hlt] at hg
        rw [Option.some.inj hg]
      rw [hd]
      show _ = some ((regb (sbit r (b.getLsbD (i % 8))) ((bitsOf L).drop (i + 1))).toNat : Int)
      have hx : sbit r (b.getLsbD (i % 8)) = (r >>> 1) ^^^ (if r.getLsbD 0 != b.getLsbD (i % 8) then poly else 0#32) := by
        unfold sbit step
        have : (r ^^^ (if b.getLsbD (i % 8) = true then 1#32 else 0#32)) >>> 1 = r >>> 1 := by
          rw [BitVec.ushiftRight_xor_distrib]; cases b.getLsbD (i % 8) <;> simp
        rw [this, BitVec.getLsbD_xor]; cases b.getLsbD (i % 8) <;> simp
      have hih := ih k (i + 1) (sbit r (b.getLsbD (i % 8))) (by omega) (by omega) (by omega)
      rw [← hih, hx]
      cases hc : (r.getLsbD 0 != b.getLsbD (i % 8)) with
      | true => rw [if_pos rfl, if_pos rfl, show (3988292384 : Int) = (poly.toNat : Int) from rfl, un_xor32]
      | false => rw [if_neg (by simp), if_neg (by simp)]; simp
theorem ref_sum (L : List (BitVec 8)) (hL : L.length ≤ 1000000) : colophonref04_Sum.f (L.map ub) = some ((sum L).toNat : Int) := by
  unfold colophonref04_Sum.f
  have h1 : (4294967295 : Int) = (ones.toNat : Int) := rfl
  have := ref_l1 L hL (8 * L.length) FU 0 ones (by omega) (by show 8 * L.length < 4611686018427387904; omega) (by omega)
  rw [show ((0 : Nat) : Int) = 0 from rfl, ← h1] at this
  rw [this, Option.bind_some, List.drop_zero, ← reg_bits]
  unfold sum; rw [BitVec.toNat_not, wrap_u32_eq]; have := (reg ones L).isLt; congr 1; omega
theorem ref_put1 (w : B32) (x : List (BitVec 8)) (hx : x.length ≤ 1000000) (j : Nat) : ∀ (k : Nat), j ≤ 4 → j < k → ∀ y : List (BitVec 8), y.length ≤ 1000000 + 4 - j →
    colophonref04_Put.l1 k (y.map ub) ((w >>> (8 * (4 - j))).toNat : Int) ((4 - j : Nat) : Int) = some ((y ++ (le w).drop (4 - j)).map ub) := by
  induction j with
  | zero => intro k _ hk y hy; cases k with
    | zero => omega
    | succ k => unfold colophonref04_Put.l1; rw [if_neg (by simp)]; simp [le]
  | succ j ih =>
    intro k hj hk y hy; cases k with
    | zero => omega
    | succ k =>
      unfold colophonref04_Put.l1
      rw [if_pos (by simp; omega), app?_eq (by simp; omega), Option.bind_some]
      have hv := (w >>> (8 * (4 - (j + 1)))).isLt
      have e1 : IntKind.wrap .u8 (Int.tmod ((w >>> (8 * (4 - (j + 1)))).toNat : Int) 256) = ub ((w >>> (8 * (4 - (j + 1)))).setWidth 8) := by
        rw [Int.tmod_eq_emod_of_nonneg (by omega), wrap_u8_eq, ub, BitVec.toNat_setWidth]; omega
      have e2 : IntKind.wrap .u32 (Int.tdiv ((w >>> (8 * (4 - (j + 1)))).toNat : Int) 256) = ((w >>> (8 * (4 - j))).toNat : Int) := by
        rw [show 8 * (4 - j) = 8 * (4 - (j + 1)) + 8 by omega, BitVec.shiftRight_add]
        rw [Int.tdiv_eq_ediv_of_nonneg (by omega), wrap_u32_eq, BitVec.toNat_ushiftRight _ 8, Nat.shiftRight_eq_div_pow]; omega
      have e3 : wi (((4 - (j + 1) : Nat) : Int) + 1) = ((4 - j : Nat) : Int) := by rw [wi_eq (by omega) (by omega)]; omega
      rw [e1, e2, e3]
      have := ih k (by omega) (by omega) (y ++ [(w >>> (8 * (4 - (j + 1)))).setWidth 8]) (by simp; omega)
      rw [List.map_append] at this
      rw [show List.map ub [(w >>> (8 * (4 - (j + 1)))).setWidth 8] = [ub ((w >>> (8 * (4 - (j + 1)))).setWidth 8)] from rfl] at this
      rw [this, List.append_assoc]
      congr 3
      have : j = 0 ∨ j = 1 ∨ j = 2 ∨ j = 3 := by omega
      rcases this with rfl | rfl | rfl | rfl <;> simp [le]
theorem ref_put (L : List (BitVec 8)) (hL : L.length ≤ 1000000) : colophonref04_Put.f (L.map ub) = some ((put L).map ub) := by
  unfold colophonref04_Put.f
  rw [app?_eq (by simp; omega), Option.bind_some, ref_sum L hL, Option.bind_some, List.nil_append]
  have := ref_put1 (sum L) L hL 4 FU (by omega) (by decide) L (by omega)
  rw [show 8 * (4 - 4) = 0 from rfl, show (4 - 4 : Nat) = 0 from rfl, show ((0 : Nat) : Int) = 0 from rfl] at this
  simp only [BitVec.ushiftRight_zero, List.drop_zero] at this
  rw [this]; rfl
end Crc
open Crc
theorem pure_CrcCuts (l0 : List Int) (F0 : Fits (.slice 5 (.int .u8)) l0) : colophonlaw04_CrcCuts.f l0 = some true := by
  obtain ⟨L, rfl⟩ := bytes_ex F0
  unfold colophonlaw04_CrcCuts.f
  rw [first_f, Option.bind_some, if_neg (by simp)]
  by_cases hl : L.length > 4000
  · rw [if_pos (by simp; omega)]
  · rw [if_neg (by simp; omega), cut_f L (by omega), Option.bind_some]
    by_cases h4 : L.length < 4
    · rw [if_pos (by simp; omega), if_pos h4]; rfl
    · rw [if_neg (by simp; omega), if_neg h4, wi_eq (by simp; omega) (by simp; omega), show (((L.map ub).length : Int) - 4) = ((L.length - 4 : Nat) : Int) by simp; omega, sub?_pre _ (by simp)]
      rw [Option.bind_some, ← List.map_take, ref_put _ (by simp; omega), Option.bind_some, bs_beq]
      by_cases he : put (L.take (L.length - 4)) = L
      · rw [if_pos he, if_neg (by simp [he])]
        simp
      · rw [if_neg he, if_pos (by simp [he])]; rfl
theorem pure_CrcTwice (l0 : List Int) (F0 : Fits (.slice 5 (.int .u8)) l0) : colophonlaw04_CrcTwice.f l0 = some true := by
  obtain ⟨L, rfl⟩ := bytes_ex F0
  unfold colophonlaw04_CrcTwice.f
  rw [first_f, Option.bind_some, if_neg (by simp)]
  have hm : imin ((L.map ub).length : Int) 1000 = ((min L.length 1000 : Nat) : Int) := by unfold imin; simp only [List.length_map]; split <;> omega
  rw [hm, sub?_pre _ (by simp; omega), Option.bind_some, ← List.map_take]
  generalize hx : L.take (min L.length 1000) = x
  have hxl : x.length ≤ 1000 := by rw [← hx]; simp; omega
  rw [put_f x (by omega), Option.bind_some, put_f _ (by rw [put_length]; omega), Option.bind_some, cut_put _ (by rw [put_length]; omega), Option.bind_some]
  simp only []
  rw [cut_put _ (by omega), Option.bind_some]
  simp only [beq_self_eq_true, if_true]
  have hs : ∀ y : List (BitVec 8), sum (put y) = 558161692#32 := by
    intro y; unfold sum; rw [reg_put]; decide +kernel
  have h1 : crc_Sum.f [(put x).map ub] = some (558161692 : Int) := by rw [sum_one _ (by rw [put_length]; omega), hs]; rfl
  have h2 : crc_Put.f [] = some ((put []).map ub) := put_f [] (by simp)
  have h3 : crc_Sum.f [(put []).map ub] = some (558161692 : Int) := by rw [sum_one _ (by rw [put_length]; simp), hs]; rfl
  rw [h1, Option.bind_some, h2, Option.bind_some, h3, Option.bind_some]; rfl
theorem pure_CrcPuts (l0 : List Int) (F0 : Fits (.slice 5 (.int .u8)) l0) (a1 : Int) (F1 : Fits (.int .i64) a1) : colophonlaw04_CrcPuts.f l0 a1 = some true := by
  obtain ⟨L, rfl⟩ := bytes_ex F0
  unfold colophonlaw04_CrcPuts.f
  rw [first_f, Option.bind_some, if_neg (by simp)]
  have hm : imin ((L.map ub).length : Int) 3000 = ((min L.length 3000 : Nat) : Int) := by unfold imin; simp only [List.length_map]; split <;> omega
  rw [hm, sub?_pre _ (by simp; omega), Option.bind_some, ← List.map_take]
  generalize hx : L.take (min L.length 3000) = x
  have hxl : x.length ≤ 3000 := by rw [← hx]; simp; omega
  rw [app?_eq (by simp; omega), Option.bind_some, List.nil_append]
  have hn : IntKind.wrap .u64 (wi (((x.map ub).length : Int) + 1)) = ((x.length + 1 : Nat) : Int) := by
    simp only [List.length_map]; rw [wi_eq (by omega) (by omega), wrap_u64_eq]; omega
  rw [hn, chk?_eq (by simp; omega), Option.bind_some, put_f x (by omega), Option.bind_some]
  obtain ⟨k, hk, hkl⟩ : ∃ k : Nat, wi (Int.tmod (IntKind.wrap .u64 a1) ((x.length + 1 : Nat) : Int)) = (k : Int) ∧ k ≤ x.length := by
    have h1 : 0 ≤ IntKind.wrap .u64 a1 := by rw [wrap_u64_eq]; omega
    have h2 := Int.emod_nonneg (IntKind.wrap .u64 a1) (b := ((x.length + 1 : Nat) : Int)) (by omega)
    have h3 := Int.emod_lt_of_pos (IntKind.wrap .u64 a1) (b := ((x.length + 1 : Nat) : Int)) (by omega)
    refine ⟨(IntKind.wrap .u64 a1 % ((x.length + 1 : Nat) : Int)).toNat, ?_, by omega⟩
    rw [Int.tmod_eq_emod_of_nonneg h1, wi_eq (by omega) (by omega)]; omega
  rw [hk, sub?_pre _ (by simp; omega), Option.bind_some, sub?_nat _ (by simp; omega) (by simp), Option.bind_some]
  have e1 : ([List.take k (List.map ub x), ([] : List Int), List.drop k (List.take (List.map ub x).length (List.map ub x))] : List (List Int)) = [x.take k, [], x.drop k].map (fun L => L.map ub) := by
    have : List.take (List.map ub x).length (List.map ub x) = List.map ub x := List.take_length
    rw [this]; simp [List.map_take, List.map_drop]
  rw [e1, sum_f _ (by simp; omega) (by simp)]
  have e2 : [x.take k, [], x.drop k].flatten = x := by simp
  rw [e2, Option.bind_some, ref_sum x (by omega), Option.bind_some, if_neg (by simp), ref_put x (by omega), Option.bind_some, bs_beq, if_neg (by simp)]
  have e3 : sub? (L.map ub) 0 ((x.map ub).length : Int) = some (x.map ub) := by
    have hxl2 : x.length = min L.length 3000 := by rw [← hx]; simp
    rw [sub?_pre _ (by simp; omega)]; congr 1
    rw [← List.map_take, List.length_map, hxl2, hx]
  rw [e3, Option.bind_some, bs_beq, if_neg (by simp), cut_put _ (by omega), Option.bind_some]
  simp
theorem pure_CrcRows (l0 : List Int) (F0 : Fits (.slice 5 (.int .u8)) l0) (a1 : Int) (F1 : Fits (.int .i64) a1) (a2 : Int) (F2 : Fits (.int .u32) a2) : colophonlaw04_CrcRows.f l0 a1 a2 = some true := by
  obtain ⟨L, rfl⟩ := bytes_ex F0
  unfold colophonlaw04_CrcRows.f
  rw [first_f, Option.bind_some, if_neg (by simp)]
  have hm : imin ((L.map ub).length : Int) 2000 = ((min L.length 2000 : Nat) : Int) := by unfold imin; simp only [List.length_map]; split <;> omega
  rw [hm, sub?_pre _ (by simp; omega), Option.bind_some, ← List.map_take]
  generalize hx : L.take (min L.length 2000) = x
  have hxl : x.length ≤ 2000 := by rw [← hx]; simp; omega
  rw [put_f x (by omega), Option.bind_some]
  have hpl := put_length x
  by_cases h2 : a2 = 0
  · rw [if_pos (by simp [h2])]; simp; omega
  rw [if_neg (by simp [h2]), if_neg (by simp; omega)]
  have hn : IntKind.wrap .u64 (wi ((wi (8 * (((put x).map ub).length : Int))) - 31)) = ((8 * (x.length + 4) - 31 : Nat) : Int) := by
    simp only [List.length_map, hpl]; rw [wi_eq (n := 8 * ((x.length + 4 : Nat) : Int)) (by omega) (by omega), wi_eq (by omega) (by omega), wrap_u64_eq]; omega
  rw [hn, chk?_eq (by simp; omega), Option.bind_some]
  obtain ⟨q, hq, hql⟩ : ∃ k : Nat, wi (Int.tmod (IntKind.wrap .u64 a1) ((8 * (x.length + 4) - 31 : Nat) : Int)) = (k : Int) ∧ k + 32 ≤ 8 * (x.length + 4) := by
    have h1 : 0 ≤ IntKind.wrap .u64 a1 := by rw [wrap_u64_eq]; omega
    have h2 := Int.emod_nonneg (IntKind.wrap .u64 a1) (b := ((8 * (x.length + 4) - 31 : Nat) : Int)) (by omega)
    have h3 := Int.emod_lt_of_pos (IntKind.wrap .u64 a1) (b := ((8 * (x.length + 4) - 31 : Nat) : Int)) (by omega)
    refine ⟨(IntKind.wrap .u64 a1 % ((8 * (x.length + 4) - 31 : Nat) : Int)).toNat, ?_, by omega⟩
    rw [Int.tmod_eq_emod_of_nonneg h1, wi_eq (by omega) (by omega)]; omega
  obtain ⟨w, rfl⟩ : ∃ w : B32, a2 = (w.toNat : Int) := ⟨BitVec.ofInt 32 a2, by have := fits_u32 F2; simp; omega⟩
  have hw0 : w ≠ 0#32 := fun h => h2 (by rw [h]; rfl)
  have key : ∀ (j : Nat) (k : Nat) (y : List (BitVec 8)), j ≤ 32 → j < k → y.length = (put x).length →
      reg ones y = reg ones (put x) ^^^ steps (8 * (put x).length - q) ((w.setWidth (32 - j)).setWidth 32) →
      ∃ z : List (BitVec 8), colophonlaw04_CrcRows.l1 a1 (w.toNat : Int) ((put x).map ub) k (y.map ub) ((32 - j : Nat) : Int) = some (z.map ub) ∧ z.length = (put x).length ∧ reg ones z = reg ones (put x) ^^^ steps (8 * (put x).length - q) w := by
    intro j
    induction j with
    | zero =>
      intro k y _ hk hy hr; cases k with
      | zero => omega
      | succ k =>
        refine ⟨y, ?_, hy, ?_⟩
        · unfold colophonlaw04_CrcRows.l1; rw [if_neg (by simp)]
        · rw [hr]; congr 2
    | succ j ih =>
      intro k y hj hk hy hr; cases k with
      | zero => omega
      | succ k =>
        unfold colophonlaw04_CrcRows.l1
        rw [hn, hq, if_pos (by simp; omega)]
        have e1 : IntKind.wrap .u64 ((32 - (j + 1) : Nat) : Int) = ((32 - (j + 1) : Nat) : Int) := by rw [wrap_u64_eq]; omega
        have e2 : wi (((32 - (j + 1) : Nat) : Int) + 1) = ((32 - j : Nat) : Int) := by rw [wi_eq (by omega) (by omega)]; omega
        have e3 : wi ((q : Int) + ((32 - (j + 1) : Nat) : Int)) = ((q + (32 - (j + 1)) : Nat) : Int) := by rw [wi_eq (by omega) (by omega)]; omega
        rw [e1, e2, e3]
        generalize hi : 32 - (j + 1) = i
        have hi32 : i < 32 := by omega
        have hij : 32 - j = i + 1 := by omega
        rw [hi] at hr
        rw [un_shr (w := 32) .u32 rfl w i (by omega)]
        have hb : (iand .u32 ((w >>> i).toNat : Int) 1 == 1) = w.getLsbD i := by
          rw [show (1 : Int) = ((1#32).toNat : Int) from rfl, un_and32]
          have : ((w >>> i) &&& 1#32).toNat = (w >>> i).toNat % 2 := by rw [BitVec.toNat_and]; exact Nat.and_one_is_mod _
          rw [this]
          have : w.getLsbD i = (w >>> i).toNat.testBit 0 := by
            show _ = (w >>> i).getLsbD 0
            rw [BitVec.getLsbD_ushiftRight]; simp
          rw [this, Nat.testBit_zero]; generalize (w >>> i).toNat = t; rw [Bool.eq_iff_iff]; simp; omega
        rw [hb]
        have hset : (w.setWidth (i + 1)).setWidth 32 = (w.setWidth i).setWidth 32 ^^^ (if w.getLsbD i then 1#32 <<< i else 0#32) := by
          apply BitVec.eq_of_getLsbD_eq
          intro m hm
          simp only [BitVec.getLsbD_xor, BitVec.getLsbD_setWidth, hm, decide_true, Bool.true_and]
          by_cases hmi : m = i
          · subst hmi; cases hwm : w.getLsbD m <;> simp [hm]
          · have : (if w.getLsbD i = true then 1#32 <<< i else 0#32).getLsbD m = false := by
              split
              · simp only [BitVec.getLsbD_shiftLeft, BitVec.getLsbD_one]
                by_cases h : m < i
                · simp [h]
                · simp [h]; omega
              · simp
            rw [this]
            by_cases h : m < i
            · simp [h, show m < i + 1 by omega]
            · simp [h, show ¬ m < i + 1 by omega]
        cases hwb : w.getLsbD i with
        | false =>
          rw [if_neg (by simp)]
          rw [hwb] at hset
          have := ih k y (by omega) (by omega) hy (by rw [hij, hset, hr]; simp)
          rw [hij] at this ⊢; exact this
        | true =>
          rw [if_pos rfl]
          rw [hwb] at hset
          have e4 : wi (Int.tdiv ((q + i : Nat) : Int) 8) = (((q + i) / 8 : Nat) : Int) := by rw [Int.tdiv_eq_ediv_of_nonneg (by omega), wi_eq (by omega) (by omega)]; omega
          have e5 : IntKind.wrap .u64 (Int.tmod ((q + i : Nat) : Int) 8) = (((q + i) % 8 : Nat) : Int) := by rw [Int.tmod_eq_emod_of_nonneg (by omega), wrap_u64_eq]; omega
          have hlt : (q + i) / 8 < y.length := by omega
          rw [e4, e5, at?_nat, List.getElem?_map, List.getElem?_eq_getElem hlt]
          simp only [Option.map_some, Option.bind_some]
          have e6 : ishl .u8 1 (((q + i) % 8 : Nat) : Int) = ((1#8 <<< ((q + i) % 8)).toNat : Int) := by
            have : (q + i) % 8 < 8 := by omega
            have hall : ∀ m : Fin 8, ishl .u8 1 ((m.val : Nat) : Int) = ((1#8 <<< m.val).toNat : Int) := by decide +kernel
            exact hall ⟨(q + i) % 8, this⟩
          rw [e6, show ub y[(q + i) / 8] = ((y[(q + i) / 8]).toNat : Int) from rfl, un_xor8, set?_nat _ (by simpa using hlt), Option.bind_some]
          have e7 : (y.map ub).set ((q + i) / 8) (((y[(q + i) / 8] ^^^ (1#8 <<< ((q + i) % 8))).toNat : Nat) : Int) = (y.set ((q + i) / 8) (y[(q + i) / 8] ^^^ (1#8 <<< ((q + i) % 8)))).map ub := by
            rw [List.map_set]
          rw [e7]
          have := ih k (y.set ((q + i) / 8) (y[(q + i) / 8] ^^^ (1#8 <<< ((q + i) % 8)))) (by omega) (by omega) (by simpa using hy) (by
            rw [reg_flip y ones _ _ hlt (by omega), hr, hij, hset, if_pos rfl, steps_xor, BitVec.xor_assoc]
            congr 2
            rw [show 8 * (put x).length - q = i + (8 * y.length - (8 * ((q + i) / 8) + (q + i) % 8)) by omega, steps_add, steps_even i _ (fun m hm => by simp [BitVec.getLsbD_shiftLeft, hm])]
            congr 1
            apply BitVec.eq_of_getLsbD_eq
            intro m hm
            simp only [BitVec.getLsbD_ushiftRight, BitVec.getLsbD_shiftLeft, BitVec.getLsbD_one]
            by_cases h0 : m = 0
            · subst h0; simp [hi32]
            · simp [h0])
          rw [hij] at this ⊢; exact this
  obtain ⟨z, hz, hzl, hzr⟩ := key 32 FU (put x) (by omega) (by decide) rfl (by
    have : ((w.setWidth (32 - 32)).setWidth 32) = 0#32 := by apply BitVec.eq_of_getLsbD_eq; intro i hi; simp
    have h0 : ∀ n, steps n 0#32 = 0#32 := by
      intro n; have := steps_xor n 0#32 0#32
      simpa using this
    rw [this, h0]; simp)
  rw [show ((32 - 32 : Nat) : Int) = 0 from rfl] at hz
  have hne : ¬ put (z.take (z.length - 4)) = z := by
    intro he
    have h1 := reg_put (z.take (z.length - 4))
    rw [he, hzr, reg_put] at h1
    have h3 : steps (8 * (put x).length - q) w = 0#32 := by
      have := congrArg (fun t => steps 32 ones ^^^ t) h1
      simpa [xself] using this
    exact hw0 (steps_zero h3)
  have hcut : crc_Cut.f (z.map ub) = some ([], 40) := by rw [cut_f z (by omega), if_neg (by omega), if_neg hne]
  rw [hz, Option.bind_some, hcut]; rfl
end Go.Proofs.Ytcbagmeglbleaaa
