/-
  Images with a row of bits turned in one page, in plain words. No condition.
-/
import Derived.Test.YtejjdfnelalnoaaPuImgH
import Derived.Test.YtejjdfnelalnoaaGImageRows
namespace Go.Proofs.Ytejjdfnelalnoaa
open Go Go.Gol
set_option linter.unusedVariables false
set_option linter.unusedSimpArgs false
set_option maxRecDepth 100000
namespace Img
open Crc Page
theorem rep_get {Y P : List B8} {n x m : Nat} (hY : Y.length = 264 * n) (hx : x < n) (hP : P.length = 264) (hm : m < 264) : (rep Y x P)[264 * x + m]? = P[m]? := by
  unfold rep
  have hl : (Y.take (264 * x)).length = 264 * x := by rw [List.length_take]; omega
  rw [List.append_assoc, List.getElem?_append_right (by omega), hl, Nat.add_sub_cancel_left, List.getElem?_append_left (by omega)]
theorem rep_set {Y P : List B8} {n x m : Nat} (hY : Y.length = 264 * n) (hx : x < n) (hP : P.length = 264) (hm : m < 264) (v : B8) : (rep Y x P).set (264 * x + m) v = rep Y x (P.set m v) := by
  unfold rep
  have hl : (Y.take (264 * x)).length = 264 * x := by rw [List.length_take]; omega
  rw [List.append_assoc, List.append_assoc, List.set_append_right _ _ (by omega), hl, Nat.add_sub_cancel_left, List.set_append_left _ _ (by omega)]
theorem rep_id {Y : List B8} {n x : Nat} (hY : Y.length = 264 * n) (hx : x < n) : rep Y x (pgAt Y x) = Y := by
  unfold rep pgAt
  rw [List.append_assoc, show 264 * x + 264 = 264 * x + 264 from rfl, ← List.drop_drop, List.take_append_drop, List.take_append_drop]
theorem rows_key {Y X : List B8} {n x q : Nat} {w : B32} {a1_0 a1_1 : Int} {r : List Int × Int} (hY : Y.length = 264 * n) (hx : x < n) (hn : n ≤ 4096) (hX : X.length = 264) (hql : q + 32 ≤ 8 * 264)
    (hxx : wi (Int.tmod (IntKind.wrap .u64 a1_0) (IntKind.wrap .u64 (wi (Int.tdiv (r.1.length : Int) 264)))) = (x : Int)) (hqq : wi (Int.tmod (IntKind.wrap .u64 a1_1) 2081) = (q : Int)) :
    ∀ (j : Nat) (k : Nat) (y : List (BitVec 8)), j ≤ 32 → j < k → y.length = X.length →
    reg ones y = reg ones X ^^^ steps (8 * X.length - q) ((w.setWidth (32 - j)).setWidth 32) →
    ∃ z : List (BitVec 8), colophonlaw06_ImageRows.l1 a1_0 a1_1 (w.toNat : Int) r k ((rep Y x y).map ub) ((32 - j : Nat) : Int) = some ((rep Y x z).map ub) ∧ z.length = X.length ∧ reg ones z = reg ones X ^^^ steps (8 * X.length - q) w := by
  intro j
  induction j with
  | zero =>
    intro k y _ hk hy hr; cases k with
    | zero => omega
    | succ k =>
      refine ⟨y, ?_, hy, ?_⟩
      · unfold colophonlaw06_ImageRows.l1; rw [if_neg (by simp)]
      · rw [hr]; congr 2
  | succ j ih =>
    intro k y hj hk hy hr; cases k with
    | zero => omega
    | succ k =>
      unfold colophonlaw06_ImageRows.l1
      rw [hxx, hqq, if_pos (by simp; omega)]
      have e1 : IntKind.wrap .u64 ((32 - (j + 1) : Nat) : Int) = ((32 - (j + 1) : Nat) : Int) := by rw [wrap_u64_eq]; omega
      have e2 : wi (((32 - (j + 1) : Nat) : Int) + 1) = ((32 - j : Nat) : Int) := by rw [wi_eq (by omega) (by omega)]; omega
      have e3 : wi ((wi ((wi (2112 * (x : Int))) + (q : Int))) + ((32 - (j + 1) : Nat) : Int)) = ((2112 * x + (q + (32 - (j + 1))) : Nat) : Int) := by rw [wi_eq (n := 2112 * (x : Int)) (by omega) (by omega), wi_eq (n := 2112 * (x : Int) + (q : Int)) (by omega) (by omega), wi_eq (by omega) (by omega)]; omega
      rw [e1, e2, e3]
      generalize hi : 32 - (j + 1) = i
      have hi32 : i < 32 := by omega
      have hij : 32 - j = i + 1 := by omega
      rw [hi] at hr
      rw [un_shr (w := 32) .u32 rfl w i (by omega)]
      have hb : (iand .u32 ((w >>> i).toNat : Int) 1 == 1) = w.getLsbD i := by
        rw [show (1 : Int) = ((1#32).toNat : Int) from rfl, un_and32]
        have : ((w >>> i) &&& 1#32).toNat = (w >>> i).toNat % 2 := by rw [BitVec.toNat_and]; exact Nat.and_one_is_mod _
        rw [this]
        have : w.getLsbD i = (w >>> i).toNat.testBit 0 := by
          show _ = (w >>> i).getLsbD 0
          rw [BitVec.getLsbD_ushiftRight]; simp
        rw [this, Nat.testBit_zero]; generalize (w >>> i).toNat = t; rw [Bool.eq_iff_iff]; simp; omega
      rw [hb]
      have hset : (w.setWidth (i + 1)).setWidth 32 = (w.setWidth i).setWidth 32 ^^^ (if w.getLsbD i then 1#32 <<< i else 0#32) := by
        apply BitVec.eq_of_getLsbD_eq
        intro m hm
        simp only [BitVec.getLsbD_xor, BitVec.getLsbD_setWidth, hm, decide_true, Bool.true_and]
        by_cases hmi : m = i
        · subst hmi; cases hwm : w.getLsbD m <;> simp [hm]
        · have : (if w.getLsbD i = true then 1#32 <<< i else 0#32).getLsbD m = false := by
            split
            · simp only [BitVec.getLsbD_shiftLeft, BitVec.getLsbD_one]
              by_cases h : m < i
              · simp [h]
              · simp [h]; omega
            · simp
          rw [this]
          by_cases h : m < i
          · simp [h, show m < i + 1 by omega]
          · simp [h, show ¬ m < i + 1 by omega]
      cases hwb : w.getLsbD i with
      | false =>
        rw [if_neg (by simp)]
        rw [hwb] at hset
        have := ih k y (by omega) (by omega) hy (by rw [hij, hset, hr]; simp)
        rw [hij] at this ⊢; exact this
      | true =>
        rw [if_pos rfl]
        rw [hwb] at hset
        have e4 : wi (Int.tdiv ((2112 * x + (q + i) : Nat) : Int) 8) = ((264 * x + (q + i) / 8 : Nat) : Int) := by rw [Int.tdiv_eq_ediv_of_nonneg (by omega), wi_eq (by omega) (by omega)]; omega
        have e5 : IntKind.wrap .u64 (Int.tmod ((2112 * x + (q + i) : Nat) : Int) 8) = (((q + i) % 8 : Nat) : Int) := by rw [Int.tmod_eq_emod_of_nonneg (by omega), wrap_u64_eq]; omega
        have hlt : (q + i) / 8 < y.length := by omega
        rw [e4, e5, at?_nat, List.getElem?_map, rep_get hY hx (by omega) (by omega), List.getElem?_eq_getElem hlt]
        simp only [Option.map_some, Option.bind_some]
        have e6 : ishl .u8 1 (((q + i) % 8 : Nat) : Int) = ((1#8 <<< ((q + i) % 8)).toNat : Int) := by
          have : (q + i) % 8 < 8 := by omega
          have hall : ∀ m : Fin 8, ishl .u8 1 ((m.val : Nat) : Int) = ((1#8 <<< m.val).toNat : Int) := by decide +kernel
          exact hall ⟨(q + i) % 8, this⟩
        rw [e6, show ub y[(q + i) / 8] = ((y[(q + i) / 8]).toNat : Int) from rfl, un_xor8, set?_nat _ (by rw [List.length_map, rep_len hY hx (by omega)]; omega), Option.bind_some]
        have e7 : ((rep Y x y).map ub).set (264 * x + (q + i) / 8) (((y[(q + i) / 8] ^^^ (1#8 <<< ((q + i) % 8))).toNat : Nat) : Int) = (rep Y x (y.set ((q + i) / 8) (y[(q + i) / 8] ^^^ (1#8 <<< ((q + i) % 8))))).map ub := by
          rw [← rep_set hY hx (by omega) (by omega), List.map_set]
        rw [e7]
        have := ih k (y.set ((q + i) / 8) (y[(q + i) / 8] ^^^ (1#8 <<< ((q + i) % 8)))) (by omega) (by omega) (by simpa using hy) (by
          rw [reg_flip y ones _ _ hlt (by omega), hr, hij, hset, if_pos rfl, steps_xor, BitVec.xor_assoc]
          congr 2
          rw [show 8 * X.length - q = i + (8 * y.length - (8 * ((q + i) / 8) + (q + i) % 8)) by omega, steps_add, steps_even i _ (fun m hm => by simp [BitVec.getLsbD_shiftLeft, hm])]
          congr 1
          apply BitVec.eq_of_getLsbD_eq
          intro m hm
          simp only [BitVec.getLsbD_ushiftRight, BitVec.getLsbD_shiftLeft, BitVec.getLsbD_one]
          by_cases h0 : m = 0
          · subst h0; simp [hi32]
          · simp [h0])
        rw [hij] at this ⊢; exact this
end Img
open Img Crc Page
theorem pure_ImageRows (l0 : List (List Int)) (F0 : Fits (.slice 22 (.slice 5 (.int .u8))) l0) (S0 : l0.length * 24 ≤ 140737488351232) (a1_0 : Int) (F1_0 : Fits (.int .i64) a1_0) (a1_1 : Int) (F1_1 : Fits (.int .i64) a1_1) (a2 : Int) (F2 : Fits (.int .u32) a2) : colophonlaw06_ImageRows.f l0 a1_0 a1_1 a2 = some true := by
  obtain ⟨S, rfl⟩ := rows_ex (e := 22) (f := 5) F0.2
  rw [List.length_map] at S0
  unfold colophonlaw06_ImageRows.f
  rw [Img.first_f, Option.bind_some, if_neg (by simp)]
  obtain ⟨z, hz, hz2⟩ := size_f S (by omega)
  rw [hz, Option.bind_some]
  by_cases h1 : z > 50000
  · rw [if_pos (by rw [decide_eq_true_eq]; exact h1)]
  rw [if_neg (by rw [decide_eq_true_eq]; exact h1)]
  obtain ⟨hS, _⟩ := hz2 (by omega)
  rw [build_f S hS, Option.bind_some]
  by_cases hV : ¬ Valid S
  · rw [if_neg hV, if_pos (by simp), if_neg (by simp)]; rfl
  replace hV : Valid S := Classical.byContradiction hV
  rw [if_pos hV, if_neg (by simp)]
  by_cases h2 : a2 = 0
  · rw [if_pos (by simpa using h2)]; rfl
  rw [if_neg (by simpa using h2)]
  obtain ⟨w, rfl⟩ : ∃ w : B32, a2 = (w.toNat : Int) := ⟨BitVec.ofInt 32 a2, by have := fits_u32 F2; simp; omega⟩
  have hw0 : w ≠ 0#32 := fun h => h2 (by rw [h]; rfl)
  have hl := img_len hV.1
  have hv := hV.2
  have hml : (((img S).map ub).length : Int) = ((264 * (1 + total S) : Nat) : Int) := by rw [List.length_map, hl]
  have hn : IntKind.wrap .u64 (wi (Int.tdiv (((img S).map ub).length : Int) 264)) = ((1 + total S : Nat) : Int) := by
    rw [hml, Int.tdiv_eq_ediv_of_nonneg (by omega), wi_eq (by omega) (by omega), wrap_u64_eq]; omega
  obtain ⟨x, hx, ex⟩ : ∃ x : Nat, x < 1 + total S ∧ wi (Int.tmod (IntKind.wrap .u64 a1_0) (IntKind.wrap .u64 (wi (Int.tdiv (((img S).map ub).length : Int) 264)))) = (x : Int) := by
    rw [hn]
    have h0 : 0 ≤ IntKind.wrap .u64 a1_0 := by rw [wrap_u64_eq]; omega
    rw [Int.tmod_eq_emod_of_nonneg h0]
    have h2 := Int.emod_nonneg (IntKind.wrap .u64 a1_0) (b := ((1 + total S : Nat) : Int)) (by omega)
    have h3 := Int.emod_lt_of_pos (IntKind.wrap .u64 a1_0) (b := ((1 + total S : Nat) : Int)) (by omega)
    refine ⟨(IntKind.wrap .u64 a1_0 % ((1 + total S : Nat) : Int)).toNat, by omega, ?_⟩
    rw [wi_eq (by omega) (by omega)]; omega
  obtain ⟨q, hqq, hql⟩ : ∃ k : Nat, wi (Int.tmod (IntKind.wrap .u64 a1_1) 2081) = (k : Int) ∧ k + 32 ≤ 8 * 264 := by
    have h0 : 0 ≤ IntKind.wrap .u64 a1_1 := by rw [wrap_u64_eq]; omega
    refine ⟨(IntKind.wrap .u64 a1_1 % 2081).toNat, ?_, by omega⟩
    rw [Int.tmod_eq_emod_of_nonneg h0, wi_eq (by omega) (by omega)]; omega
  have hXl := pgAt_len hl hx
  have hok := (img_ok hV hx).1
  simp only []
  rw [chk?_eq (by rw [decide_eq_true_eq, hn]; omega), Option.bind_some]
  obtain ⟨y, hy, hyl, hyr⟩ := rows_key (w := w) (r := ((img S).map ub, 0)) hl hx (by omega) hXl hql ex hqq 32 FU (pgAt (img S) x) (by omega) (by decide) rfl (by
    have : ((w.setWidth (32 - 32)).setWidth 32) = 0#32 := by apply BitVec.eq_of_getLsbD_eq; intro i hi; simp
    have h0 : ∀ n, steps n 0#32 = 0#32 := by
      intro n; have := steps_xor n 0#32 0#32
      simpa using this
    rw [this, h0]; simp)
  rw [show ((32 - 32 : Nat) : Int) = 0 from rfl, rep_id hl hx] at hy
  rw [hy, Option.bind_some]
  have hne : ¬ put (y.take 260) = y := by
    intro he
    have h1 := reg_put (y.take 260)
    have h5 := reg_put ((pgAt (img S) x).take 260)
    rw [hok] at h5
    rw [he, hyr, h5] at h1
    have h3 : steps (8 * (pgAt (img S) x).length - q) w = 0#32 := by
      have := congrArg (fun t => steps 32 ones ^^^ t) h1
      simpa [xself] using this
    exact hw0 (steps_zero h3)
  have hno : ∀ n, ¬ Paged (rep (img S) x y) n := fun m hm => by
    have h1 := hm.1
    rw [rep_len hl hx (by omega)] at h1
    have h4 := hm.2.2.2.1 x (by omega)
    unfold pgOk at h4
    rw [rep_same hl hx (by omega)] at h4
    exact hne h4.1
  rw [no_open (by rw [rep_len hl hx (by omega)]; omega) hno]; rfl
end Go.Proofs.Ytejjdfnelalnoaa
