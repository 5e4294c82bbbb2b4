/-
  The laws of layer rank, in plain words. No condition.
-/
import Derived.Test.YtlkgejhnjbbogaaPuRankB
import Derived.Test.YtlkgejhnjbbogaaGRankTurns
import Derived.Test.YtlkgejhnjbbogaaGRankKeeps
import Derived.Test.YtlkgejhnjbbogaaGRankFlips
import Derived.Test.YtlkgejhnjbbogaaGRankJoins
namespace Go.Proofs.Ytlkgejhnjbbogaa
open Go Go.Gol Rank Cnt
set_option linter.unusedVariables false
set_option linter.unusedSimpArgs false
set_option maxRecDepth 100000
namespace Rank
theorem i1 (l : List Int) : isb l 1 = odd l := funext (isb_one l)
theorem i0 (l : List Int) : isb l 0 = oth (odd l) l.length := funext (isb_zero l)
theorem odd_bit {l : List Int} (hb : Byte l) {i : Nat} (hi : i < l.length) : (iand .u8 (l.getD i 0) 1 == 1) = odd l i := by
  have h := hb.get hi
  rw [and1 _ h.1 h.2]; rfl
end Rank
theorem pure_RankCounts (l0 : List Int) (F0 : Fits (.slice 5 (.int .u8)) l0) (a1 : Int) (F1 : Fits (.int .i64) a1) (a2 : Int) (F2 : Fits (.int .i64) a2) : colophonlaw02_RankCounts.f l0 a1 a2 = some true := by
  have hb := byte_of F0
  unfold colophonlaw02_RankCounts.f
  rw [first_f, Option.bind_some, if_neg (by simp)]
  by_cases hl : l0.length > 3000
  · rw [if_pos (by simp; omega)]
  rw [if_neg (by simp; omega)]
  obtain ⟨V, e, h⟩ := vec_ok hb (by omega)
  have r1 : ∀ i, colophonref02_Rank.f l0 1 i = some (cnt (odd l0) i.toNat : Int) := fun i => by rw [refRank hb (by omega), i1]
  have r0 : ∀ i, colophonref02_Rank.f l0 0 i = some (cnt (oth (odd l0) l0.length) i.toNat : Int) := fun i => by rw [refRank hb (by omega), i0]
  obtain ⟨p, s1, s2⟩ := select_ok h a2
  obtain ⟨q, t1, t2⟩ := selectZ_ok h a2
  obtain ⟨p', s1', s2'⟩ := refSelect hb (by omega) 1 a2
  obtain ⟨q', t1', t2'⟩ := refSelect hb (by omega) 0 a2
  rw [i1] at s2'
  rw [i0] at t2'
  have e1 := s2.uniq s2'
  have e2 := t2.uniq t2'
  subst e1; subst e2
  rw [e, Option.bind_some, len_ok h, Option.bind_some, if_neg (by simp), ones_ok h, Option.bind_some, r1, Option.bind_some, if_neg (by simp), rank_ok h, Option.bind_some, r1, Option.bind_some, if_neg (by simp),
    zeros_ok h, Option.bind_some, r0, Option.bind_some, if_neg (by simp), at_ok h, Option.bind_some, s1, s1', t1, t1']
  simp only [Option.bind_some, BEq.rfl, if_true]
  by_cases h0 : a1 ≥ 0
  · rw [if_pos (by simpa using h0)]
    by_cases h1 : a1 < (l0.length : Int)
    · rw [if_pos (by simpa using h1)]
      obtain ⟨i, rfl⟩ : ∃ i : Nat, a1 = (i : Int) := ⟨a1.toNat, by omega⟩
      have e3 : imax 0 (imin (i : Int) (wi ((l0.length : Int) - 1))) = (i : Int) := by rw [wi_eq (by omega) (by omega)]; unfold imax imin; split <;> split <;> omega
      rw [e3, at_get (by omega), Option.bind_some, odd_bit hb (by omega), Int.toNat_natCast, decide_eq_true (by omega)]
      simp
    · rw [if_neg (by simpa using h1), odd_past l0 a1.toNat (by omega)]; simp
  · rw [if_neg (by simpa using h0), decide_eq_false (by omega)]; simp
theorem pure_RankAll (l0 : List Int) (F0 : Fits (.slice 5 (.int .u8)) l0) : colophonlaw02_RankAll.f l0 = some true := by
  have hb := byte_of F0
  unfold colophonlaw02_RankAll.f
  rw [first_f, Option.bind_some, if_neg (by simp)]
  by_cases hl : l0.length > 1500
  · rw [if_pos (by simp; omega)]
  rw [if_neg (by simp; omega)]
  obtain ⟨V, e, h⟩ := vec_ok hb (by omega)
  rw [e, Option.bind_some]
  simp only [Option.bind_some]
  have ho : ∀ i, i ≤ l0.length → cnt (oth (odd l0) l0.length) i + cnt (odd l0) i = i := fun i hi => cnt_oth _ _ _ hi
  have key : ∀ (m k i : Nat), l0.length - i = m → m < k → i ≤ l0.length → colophonlaw02_RankAll.l1 l0 V k (cnt (odd l0) i : Int) (cnt (oth (odd l0) l0.length) i : Int) (i : Int) = some (.inr ((cnt (odd l0) l0.length : Int), (cnt (oth (odd l0) l0.length) l0.length : Int))) := by
    intro m
    induction m with
    | zero => intro k i hm hk hi; cases k with
      | zero => omega
      | succ k => unfold colophonlaw02_RankAll.l1; rw [if_neg (by simp; omega), show i = l0.length by omega]
    | succ m ih => intro k i hm hk hi; cases k with
      | zero => omega
      | succ k =>
        unfold colophonlaw02_RankAll.l1
        have hil : i < l0.length := by omega
        have h1 := ho i hi
        rw [if_pos (by simp; omega), at_get hil, Option.bind_some, rank_ok h, Option.bind_some, Int.toNat_natCast, if_neg (by simp), zeros_ok h, Option.bind_some, Int.toNat_natCast, if_neg (by simp), at_ok h, Option.bind_some, Int.toNat_natCast,
          odd_bit hb hil, show decide ((0 : Int) ≤ (i : Int)) = true from decide_eq_true (by omega), Bool.true_and, if_neg (by simp), wi_eq (n := (i : Int) + 1) (by omega) (by omega), show ((i : Int) + 1) = ((i + 1 : Nat) : Int) by omega]
        have hot : oth (odd l0) l0.length i = !odd l0 i := by unfold oth; rw [decide_eq_true hil]; rfl
        by_cases hbit : odd l0 i = true
        · obtain ⟨p, s1, s2⟩ := select_ok h (cnt (odd l0) i : Int)
          have : p = (i : Int) := s2.uniq (.inr ⟨i, rfl, hil, hbit, rfl⟩)
          subst this
          rw [if_pos hbit, s1, Option.bind_some, if_neg (by simp), wi_eq (by omega) (by omega)]
          have e1 : ((cnt (odd l0) i : Int) + 1) = (cnt (odd l0) (i + 1) : Int) := by rw [cnt_succ, hbit]; simp
          have e2 : (cnt (oth (odd l0) l0.length) i : Int) = (cnt (oth (odd l0) l0.length) (i + 1) : Int) := by rw [cnt_succ, hot, hbit]; simp
          rw [e1, e2]
          exact ih k (i + 1) (by omega) (by omega) (by omega)
        · have hbf : odd l0 i = false := by simpa using hbit
          obtain ⟨p, s1, s2⟩ := selectZ_ok h (cnt (oth (odd l0) l0.length) i : Int)
          have : p = (i : Int) := s2.uniq (.inr ⟨i, rfl, hil, by rw [hot, hbf]; rfl, rfl⟩)
          subst this
          rw [if_neg hbit, s1, Option.bind_some, if_neg (by simp), wi_eq (by omega) (by omega)]
          have e1 : (cnt (odd l0) i : Int) = (cnt (odd l0) (i + 1) : Int) := by rw [cnt_succ, hbf]; simp
          have e2 : ((cnt (oth (odd l0) l0.length) i : Int) + 1) = (cnt (oth (odd l0) l0.length) (i + 1) : Int) := by rw [cnt_succ, hot, hbf]; simp
          rw [e1, e2]
          exact ih k (i + 1) (by omega) (by omega) (by omega)
  have e1 := key l0.length FU 0 (by omega) (by show l0.length < 4611686018427387904; omega) (by omega)
  rw [show ((0 : Nat) : Int) = 0 from rfl, show (cnt (odd l0) 0 : Int) = 0 from rfl, show (cnt (oth (odd l0) l0.length) 0 : Int) = 0 from rfl] at e1
  obtain ⟨p, s1, s2⟩ := select_ok h (cnt (odd l0) l0.length : Int)
  have p1 : p = -1 := s2.uniq (.inl ⟨.inr (Int.le_refl _), rfl⟩)
  obtain ⟨q, t1, t2⟩ := selectZ_ok h (cnt (oth (odd l0) l0.length) l0.length : Int)
  have q1 : q = -1 := t2.uniq (.inl ⟨.inr (Int.le_refl _), rfl⟩)
  obtain ⟨r, u1, u2⟩ := select_ok h (-1)
  have r1 : r = -1 := u2.uniq (.inl ⟨.inl (by omega), rfl⟩)
  rw [e1, Option.bind_some]
  simp only []
  rw [rank_ok h, Option.bind_some, Int.toNat_natCast, if_pos (by simp), s1, Option.bind_some, p1, if_pos (by simp), t1, Option.bind_some, q1, if_pos (by simp), u1, Option.bind_some, r1]
  rfl
theorem pure_RankFlips (l0 : List Int) (F0 : Fits (.slice 5 (.int .u8)) l0) (a1 : Int) (F1 : Fits (.int .i64) a1) : colophonlaw02_RankFlips.f l0 a1 = some true := by
  have hb := byte_of F0
  unfold colophonlaw02_RankFlips.f
  rw [first_f, Option.bind_some, if_neg (by simp)]
  by_cases hl : l0.length > 2000
  · rw [if_pos (by simp; omega)]
  rw [if_neg (by simp; omega)]
  have key : ∀ (m k i : Nat) (t : List Int), l0.length - i = m → m < k → i ≤ l0.length → t.length = i → (∀ j, j < i → t.getD j 0 = 1 - l0.getD j 0 % 2) →
      ∃ t', colophonlaw02_RankFlips.l1 l0 k t (i : Int) = some t' ∧ t'.length = l0.length ∧ ∀ j, j < l0.length → t'.getD j 0 = 1 - l0.getD j 0 % 2 := by
    intro m
    induction m with
    | zero => intro k i t hm hk hi ht hj; cases k with
      | zero => omega
      | succ k => unfold colophonlaw02_RankFlips.l1; rw [if_neg (by simp; omega)]; exact ⟨t, rfl, by omega, fun j h => hj j (by omega)⟩
    | succ m ih => intro k i t hm hk hi ht hj; cases k with
      | zero => omega
      | succ k =>
        unfold colophonlaw02_RankFlips.l1
        have hil : i < l0.length := by omega
        have hbb := hb.get hil
        rw [if_pos (by simp; omega), at_get hil, Option.bind_some, and1 _ hbb.1 hbb.2, wrap_u8_eq, app?_eq (by simp; omega), Option.bind_some, wi_eq (by omega) (by omega), show ((i : Int) + 1) = ((i + 1 : Nat) : Int) by omega]
        refine ih k (i + 1) _ (by omega) (by omega) (by omega) (by simp [ht]) (fun j h => ?_)
        rcases Nat.lt_or_ge j i with h2 | h2
        · rw [List.getD_eq_getElem?_getD, List.getElem?_append_left (by omega), ← List.getD_eq_getElem?_getD]; exact hj j h2
        · have : j = t.length := by omega
          subst this
          rw [List.getD_eq_getElem?_getD, List.getElem?_append_right (Nat.le_refl _), Nat.sub_self, ht]
          show (1 - l0.getD i 0 % 2) % 256 = 1 - l0.getD i 0 % 2
          omega
  obtain ⟨t, e, ht, htj⟩ := key l0.length FU 0 [] (by omega) (by show l0.length < 4611686018427387904; omega) (by omega) rfl (fun j h => by omega)
  rw [show ((0 : Nat) : Int) = 0 from rfl] at e
  have htb : Byte t := fun v hv => by
    obtain ⟨j, hj, rfl⟩ := List.getElem_of_mem hv
    have := htj j (by omega)
    rw [List.getD_eq_getElem?_getD, List.getElem?_eq_getElem hj, Option.getD_some] at this
    omega
  obtain ⟨V, eV, h⟩ := vec_ok hb (by omega)
  obtain ⟨W, eW, g⟩ := vec_ok htb (by omega)
  rw [ht] at g
  have hodd : ∀ j, j < l0.length → odd t j = oth (odd l0) l0.length j := fun j hj => by
    show (t.getD j 0 % 2 == 1) = (decide (j < l0.length) && !(l0.getD j 0 % 2 == 1))
    rw [htj j hj, decide_eq_true hj, Bool.true_and]
    generalize l0.getD j 0 = v
    have : v % 2 = 0 ∨ v % 2 = 1 := by omega
    rcases this with e | e <;> rw [e] <;> rfl
  have hot : ∀ j, j < l0.length → oth (odd t) l0.length j = odd l0 j := fun j hj => by
    have := hodd j hj
    unfold oth at this ⊢
    rw [this, decide_eq_true hj]; cases odd l0 j <;> rfl
  have c1 : ∀ i : Nat, cnt (odd l0) i = cnt (oth (odd t) l0.length) i := fun i => by
    rcases Nat.lt_or_ge i l0.length with hi | hi
    · exact (cnt_congr fun j hj => hot j (by omega)).symm
    · rw [cnt_past h.past hi, cnt_past (oth_past _ _) hi]; exact (cnt_congr fun j hj => hot j hj).symm
  have c2 : ∀ i : Nat, cnt (odd t) i = cnt (oth (odd l0) l0.length) i := fun i => by
    rcases Nat.lt_or_ge i l0.length with hi | hi
    · exact cnt_congr fun j hj => hodd j (by omega)
    · rw [cnt_past g.past hi, cnt_past (oth_past _ _) hi]; exact cnt_congr fun j hj => hodd j hj
  obtain ⟨p, s1, s2⟩ := select_ok h a1
  obtain ⟨p', s1', s2'⟩ := selectZ_ok g a1
  obtain ⟨q, t1, t2⟩ := selectZ_ok h a1
  obtain ⟨q', t1', t2'⟩ := select_ok g a1
  have e1 := s2.uniq (s2'.congr hot)
  have e2 := t2.uniq (t2'.congr hodd)
  subst e1; subst e2
  have hs := cnt_oth (odd l0) l0.length l0.length (Nat.le_refl _)
  rw [e, Option.bind_some, eV, Option.bind_some, eW, Option.bind_some, rank_ok h, Option.bind_some, zeros_ok g, Option.bind_some, c1, if_pos (by simp), zeros_ok h, Option.bind_some, rank_ok g, Option.bind_some, c2, if_pos (by simp),
    s1, Option.bind_some, s1', Option.bind_some, if_pos (by simp), t1, Option.bind_some, t1', Option.bind_some, if_pos (by simp), ones_ok h, Option.bind_some, ones_ok g, Option.bind_some, c2, wi_eq (by omega) (by omega)]
  congr 1
  rw [beq_iff_eq]; omega
theorem pure_RankJoins (l0 : List Int) (F0 : Fits (.slice 5 (.int .u8)) l0) (l1 : List Int) (F1 : Fits (.slice 5 (.int .u8)) l1) (a2 : Int) (F2 : Fits (.int .i64) a2) : colophonlaw02_RankJoins.f l0 l1 a2 = some true := by
  have hb := byte_of F0
  have hb1 := byte_of F1
  unfold colophonlaw02_RankJoins.f
  rw [first_f, Option.bind_some, if_neg (by simp)]
  by_cases hl : imax (l0.length : Int) (l1.length : Int) > 1500
  · rw [if_pos (by simpa using hl)]
  rw [if_neg (by simpa using hl)]
  have hl0 : l0.length ≤ 1500 ∧ l1.length ≤ 1500 := by unfold imax at hl; split at hl <;> omega
  obtain ⟨V, eV, h⟩ := vec_ok hb (by omega)
  obtain ⟨W, eW, g⟩ := vec_ok hb1 (by omega)
  obtain ⟨X, eX, x⟩ := vec_ok (l := l0 ++ l1) (fun v hv => (List.mem_append.1 hv).elim (hb v) (hb1 v)) (by simp; omega)
  rw [eV, Option.bind_some, eW, Option.bind_some, app?_eq (by simp; omega), Option.bind_some, List.nil_append, app?_eq (by omega), Option.bind_some, eX, Option.bind_some]
  have hw : IntKind.wrap .u64 (wi ((l1.length : Int) + 1)) = ((l1.length + 1 : Nat) : Int) := by rw [wi_eq (by omega) (by omega), wrap_u64_eq]; omega
  obtain ⟨k, hk, hkl⟩ : ∃ k : Nat, wi (Int.tmod (IntKind.wrap .u64 a2) ((l1.length + 1 : Nat) : Int)) = (k : Int) ∧ k ≤ l1.length := by
    have h1 : 0 ≤ IntKind.wrap .u64 a2 := by rw [wrap_u64_eq]; omega
    have h2 := Int.emod_nonneg (IntKind.wrap .u64 a2) (show ((l1.length + 1 : Nat) : Int) ≠ 0 by omega)
    have h3 := Int.emod_lt_of_pos (IntKind.wrap .u64 a2) (show (0 : Int) < ((l1.length + 1 : Nat) : Int) by omega)
    refine ⟨(IntKind.wrap .u64 a2 % ((l1.length + 1 : Nat) : Int)).toNat, ?_, by omega⟩
    rw [Int.tmod_eq_emod_of_nonneg h1, wi_eq (by omega) (by omega)]; omega
  rw [hw, hk, chk?_eq (decide_eq_true (by omega)), Option.bind_some, wi_eq (n := (l0.length : Int) + (k : Int)) (by omega) (by omega), show ((l0.length : Int) + (k : Int)) = ((l0.length + k : Nat) : Int) by omega]
  have oa : ∀ j, j < l0.length → odd (l0 ++ l1) j = odd l0 j := fun j hj => by unfold odd; rw [List.getD_eq_getElem?_getD, List.getElem?_append_left hj, ← List.getD_eq_getElem?_getD]
  have ob : ∀ j, odd (l0 ++ l1) (l0.length + j) = odd l1 j := fun j => by unfold odd; rw [List.getD_eq_getElem?_getD, List.getElem?_append_right (by omega), Nat.add_sub_cancel_left, ← List.getD_eq_getElem?_getD]
  have c1 : cnt (odd (l0 ++ l1)) (l0.length + k) = cnt (odd l0) l0.length + cnt (odd l1) k := by rw [cnt_add, cnt_congr oa, cnt_congr (fun j _ => ob j)]
  have z1 := cnt_oth (odd (l0 ++ l1)) (l0 ++ l1).length (l0.length + k) (by simp; omega)
  have z2 := cnt_oth (odd l1) l1.length k hkl
  have b1 := cnt_le (odd l0) l0.length
  have b2 := cnt_le (odd l1) k
  rw [rank_ok x, Option.bind_some, Int.toNat_natCast, ones_ok h, Option.bind_some, rank_ok g, Option.bind_some, Int.toNat_natCast, c1, wi_eq (n := (cnt (odd l0) l0.length : Int) + (cnt (odd l1) k : Int)) (by omega) (by omega), if_pos (by rw [beq_iff_eq]; omega),
    zeros_ok x, Option.bind_some, Int.toNat_natCast, Option.bind_some, zeros_ok g, Option.bind_some, Int.toNat_natCast, wi_eq (n := (l0.length : Int) - (cnt (odd l0) l0.length : Int)) (by omega) (by omega), wi_eq (by omega) (by omega), if_pos (by rw [beq_iff_eq]; omega)]
  obtain ⟨m, hm, hml⟩ : ∃ m : Nat, imin (k : Int) (l0.length : Int) = (m : Int) ∧ m ≤ l0.length := ⟨min k l0.length, by unfold imin; split <;> omega, by omega⟩
  rw [hm, rank_ok x, Option.bind_some, rank_ok h, Option.bind_some, Int.toNat_natCast, cnt_congr (n := m) (fun j hj => oa j (by omega))]
  simp
theorem pure_RankTurns (l0 : List Int) (F0 : Fits (.slice 5 (.int .u8)) l0) (a1 : Int) (F1 : Fits (.int .i64) a1) : colophonlaw02_RankTurns.f l0 a1 = some true := by
  have hb := byte_of F0
  unfold colophonlaw02_RankTurns.f
  rw [first_f, Option.bind_some, if_neg (by simp)]
  by_cases hl : l0.length > 3000
  · rw [if_pos (by simp; omega)]
  rw [if_neg (by simp; omega)]
  obtain ⟨V, e, h⟩ := vec_ok hb (by omega)
  have h64 : 0 ≤ IntKind.wrap .u64 a1 := by rw [wrap_u64_eq]; omega
  have md : ∀ n : Nat, 0 < n → n < 9223372036854775808 → ∃ q : Nat, wi (Int.tmod (IntKind.wrap .u64 a1) (n : Int)) = (q : Int) ∧ q < n := fun n hn hn2 => by
    have h2 := Int.emod_nonneg (IntKind.wrap .u64 a1) (show (n : Int) ≠ 0 by omega)
    have h3 := Int.emod_lt_of_pos (IntKind.wrap .u64 a1) (show (0 : Int) < (n : Int) by omega)
    refine ⟨(IntKind.wrap .u64 a1 % (n : Int)).toNat, ?_, by omega⟩
    rw [Int.tmod_eq_emod_of_nonneg h64, wi_eq (by omega) (by omega)]; omega
  have hw : IntKind.wrap .u64 (wi ((l0.length : Int) + 1)) = ((l0.length + 1 : Nat) : Int) := by rw [wi_eq (by omega) (by omega), wrap_u64_eq]; omega
  obtain ⟨i, hi, hil⟩ := md (l0.length + 1) (by omega) (by omega)
  have hz := cnt_oth (odd l0) l0.length i (by omega)
  have n1 : rank_Vec_Len.f none = some 0 := rfl
  have n2 : rank_Vec_Ones.f none = some 0 := rfl
  have n3 : rank_Vec_At.f none 0 = some false := rfl
  have n4 : rank_Vec_Rank.f none 5 = some 0 := rfl
  have n5 : rank_Vec_Zeros.f none 5 = some 0 := by decide +kernel
  have n6 : rank_Vec_Select.f none 0 = some (-1) := by decide +kernel
  have n7 : rank_Vec_SelectZero.f none 0 = some (-1) := by decide +kernel
  rw [e, Option.bind_some, ones_ok h, Option.bind_some, hw, hi, chk?_eq (decide_eq_true (by omega)), rank_ok h (i : Int), zeros_ok h (i : Int), n1, n2, n3, n4, n5, n6, n7]
  simp only [Option.bind_some, Int.toNat_natCast]
  rw [wi_eq (n := (cnt (odd l0) i : Int) + (cnt (oth (odd l0) l0.length) i : Int)) (by omega) (by omega), show ((cnt (odd l0) i : Int) + (cnt (oth (odd l0) l0.length) i : Int)) = (i : Int) by omega]
  have hc := cnt_le (odd l0) l0.length
  by_cases h0 : (cnt (odd l0) l0.length : Int) > 0
  · rw [if_pos (by simpa using h0), show IntKind.wrap .u64 (cnt (odd l0) l0.length : Int) = (cnt (odd l0) l0.length : Int) by rw [wrap_u64_eq]; omega]
    obtain ⟨q, hq, hql⟩ := md (cnt (odd l0) l0.length) (by omega) (by omega)
    rw [hq, chk?_eq (decide_eq_true (by omega)), Option.bind_some]
    obtain ⟨p, s1, s2⟩ := select_ok h (q : Int)
    rcases s2 with ⟨s3, _⟩ | ⟨p, rfl, hp, hbp, hcp⟩
    · omega
    · rw [s1, Option.bind_some, at_ok h, Option.bind_some, Int.toNat_natCast, hbp, decide_eq_true (by omega), if_neg (by simp), rank_ok h, Option.bind_some, Int.toNat_natCast, hcp, if_neg (by simp),
        wi_eq (n := (p : Int) + 1) (by omega) (by omega), show ((p : Int) + 1) = ((p + 1 : Nat) : Int) by omega, rank_ok h, Option.bind_some, Int.toNat_natCast, cnt_succ, hbp, wi_eq (by omega) (by omega), if_neg (by simp; omega)]
      simp
  · rw [if_neg (by simpa using h0)]; simp
namespace Rank
theorem cnt_upd (B : Nat → Bool) (k : Nat) (b : Bool) (n : Nat) (h : k < n) : cnt (fun j => if j = k then b else B j) n + (if B k = true then 1 else 0) = cnt B n + (if b = true then 1 else 0) := by
  obtain ⟨c, rfl⟩ := Nat.exists_eq_add_of_lt h
  rw [show k + c + 1 = (k + 1) + c by omega, cnt_add, cnt_add B]
  have e1 : cnt (fun j => (fun j => if j = k then b else B j) (k + 1 + j)) c = cnt (fun j => B (k + 1 + j)) c := cnt_congr fun j hj => by simp only []; rw [if_neg (by omega)]
  rw [e1, cnt_succ, cnt_succ]
  have e2 : cnt (fun j => if j = k then b else B j) k = cnt B k := cnt_congr fun j hj => by rw [if_neg (by omega)]
  rw [e2]
  simp only [if_true]
  split <;> split <;> omega
end Rank
theorem pure_RankKeeps (l0 : List Int) (F0 : Fits (.slice 5 (.int .u8)) l0) (a1 : Int) (F1 : Fits (.int .i64) a1) : colophonlaw02_RankKeeps.f l0 a1 = some true := by
  have hb := byte_of F0
  unfold colophonlaw02_RankKeeps.f
  rw [first_f, Option.bind_some, if_neg (by simp)]
  by_cases hl0 : l0.length = 0
  · rw [if_pos (by simpa using hl0)]
  rw [if_neg (by simpa using hl0)]
  by_cases hl : l0.length > 2000
  · rw [if_pos (by simp; omega)]
  rw [if_neg (by simp; omega)]
  obtain ⟨U0, e0, h0⟩ := new1 l0.length (by omega)
  rw [e0, Option.bind_some]
  simp only [Option.bind_some]
  have key : ∀ (m k i : Nat) (U : List Pack.W64) (B : Nat → Bool), l0.length - i = m → m < k → i ≤ l0.length → Bits l0.length U B → (∀ j, B j = (decide (j < i) && odd l0 j)) →
      ∃ U', colophonlaw02_RankKeeps.l1 l0 k (i : Int) ((1 : Int), (l0.length : Int), U.map Pack.uw) = some ((1 : Int), (l0.length : Int), U'.map Pack.uw) ∧ Bits l0.length U' (odd l0) := by
    intro m
    induction m with
    | zero =>
      intro k i U B hm hk hi hU hB; cases k with
      | zero => omega
      | succ k =>
        unfold colophonlaw02_RankKeeps.l1
        rw [if_neg (by simp; omega)]
        refine ⟨U, rfl, ?_⟩
        have : B = odd l0 := funext fun j => by
          rw [hB j]
          rcases Nat.lt_or_ge j i with h | h
          · simp [h]
          · rw [odd_past l0 j (by omega)]; simp
        rw [← this]; exact hU
    | succ m ih => intro k i U B hm hk hi hU hB; cases k with
      | zero => omega
      | succ k =>
        unfold colophonlaw02_RankKeeps.l1
        have hil : i < l0.length := by omega
        obtain ⟨U', e, h'⟩ := set1 hU hil (odd l0 i)
        rw [if_pos (by simp; omega), at_get hil, Option.bind_some, odd_w l0 hb hil, e, Option.bind_some, wi_eq (by omega) (by omega), show ((i : Int) + 1) = ((i + 1 : Nat) : Int) by omega]
        refine ih k (i + 1) U' _ (by omega) (by omega) (by omega) h' (fun j => ?_)
        show (if j = i then odd l0 i else B j) = (decide (j < i + 1) && odd l0 j)
        by_cases hj : j = i
        · subst hj; simp
        · rw [if_neg hj, hB j]; congr 1; rw [decide_eq_decide]; omega
  obtain ⟨U, e1, h1⟩ := key l0.length FU 0 U0 _ (by omega) (by show l0.length < 4611686018427387904; omega) (by omega) h0 (fun j => by simp)
  rw [show ((0 : Nat) : Int) = 0 from rfl] at e1
  rw [e1, Option.bind_some]
  obtain ⟨V, eV, hV⟩ := newV h1
  have hwl : IntKind.wrap .u64 (l0.length : Int) = (l0.length : Int) := by rw [wrap_u64_eq]; omega
  obtain ⟨q, hq, hql⟩ : ∃ q : Nat, wi (Int.tmod (IntKind.wrap .u64 a1) (l0.length : Int)) = (q : Int) ∧ q < l0.length := by
    have h1 : 0 ≤ IntKind.wrap .u64 a1 := by rw [wrap_u64_eq]; omega
    have h2 := Int.emod_nonneg (IntKind.wrap .u64 a1) (show (l0.length : Int) ≠ 0 by omega)
    have h3 := Int.emod_lt_of_pos (IntKind.wrap .u64 a1) (show (0 : Int) < (l0.length : Int) by omega)
    refine ⟨(IntKind.wrap .u64 a1 % (l0.length : Int)).toNat, ?_, by omega⟩
    rw [Int.tmod_eq_emod_of_nonneg h1, wi_eq (by omega) (by omega)]; omega
  have hfl : IntKind.wrap .u64 (1 - w1 (odd l0 q)) = w1 (!odd l0 q) := by cases odd l0 q <;> rfl
  obtain ⟨U2, e2, h2⟩ := set1 h1 hql (!odd l0 q)
  obtain ⟨W, eW, hW⟩ := newV h2
  rw [eV, Option.bind_some, hwl, hq, chk?_eq (decide_eq_true (by omega)), Option.bind_some]
  simp only []
  rw [at_ok hV, Option.bind_some, get1 h1 hql, Option.bind_some, hfl, e2, Option.bind_some, eW, Option.bind_some, if_pos (by rfl), if_pos (by rfl)]
  simp only [Option.bind_some]
  rw [if_pos (by simp), at_ok hW, Option.bind_some, Int.toNat_natCast, decide_eq_true (by omega), Bool.true_and, Bool.true_and]
  rw [if_pos (by simp), ones_ok hV, Option.bind_some, ones_ok hW, Option.bind_some]
  have hu := cnt_upd (odd l0) q (!odd l0 q) l0.length hql
  congr 1
  rw [bne_iff_ne]
  intro hcc
  have hc2 : cnt (odd l0) l0.length = cnt (fun j => if j = q then !odd l0 q else odd l0 j) l0.length := Int.ofNat.inj hcc
  rw [← hc2] at hu
  generalize cnt (odd l0) l0.length = z at hu
  revert hu
  cases odd l0 q <;> intro hu <;> simp only [Bool.not_true, Bool.not_false, if_true, Bool.false_eq_true, if_false] at hu <;> omega
end Go.Proofs.Ytlkgejhnjbbogaa
