/-
  The law of pack that takes words, in plain words. No condition.
-/
import Derived.Test.YtamlfkfdpgchiaaPuPackPlays
import Derived.Test.YtamlfkfdpgchiaaGPackFrom
namespace Go.Proofs.Ytamlfkfdpgchiaa
open Go Go.Gol
set_option linter.unusedVariables false
set_option linter.unusedSimpArgs false
set_option linter.unnecessarySimpa false
set_option maxRecDepth 100000
namespace Packed
open Pack
/-- a bit of the words, as the reference reads it -/
theorem bit_ok (U : List W64) (k : Nat) (hk : k < 64 * U.length) : ∃ word : Int, at? (U.map uw) ((k / 64 : Nat) : Int) = some word ∧ iand .u64 (ishr .u64 word ((k % 64 : Nat) : Int)) 1 = if bitAt U k then 1 else 0 := by
  have hq : k / 64 < U.length := by omega
  refine ⟨uw U[k / 64], at_w hq, ?_⟩
  have hlt := U[k / 64].isLt
  have hb : bitAt U k = U[k / 64].toNat.testBit (k % 64) := by
    unfold bitAt; rw [List.getD_eq_getElem?_getD, List.getElem?_eq_getElem hq, ← BitVec.testBit_toNat]; rfl
  rw [hb, show uw U[k / 64] = ((U[k / 64].toNat : Nat) : Int) from rfl, ishr_nat .u64 _ _ (by show k % 64 ≤ 64; omega)]
  generalize U[k / 64].toNat = x at *
  have hle : x / 2 ^ (k % 64) ≤ x := Nat.div_le_self _ _
  have e := un_and64 (BitVec.ofNat 64 (x / 2 ^ (k % 64))) 1#64
  rw [BitVec.toNat_and] at e
  simp only [BitVec.toNat_ofNat] at e
  rw [Nat.mod_eq_of_lt (by omega), show 1 % 2 ^ 64 = 1 from rfl, Nat.and_one_is_mod, show ((1 : Nat) : Int) = 1 from rfl] at e
  rw [e, Nat.testBit, Nat.shiftRight_eq_div_pow]
  generalize x / 2 ^ (k % 64) = z
  rw [Nat.and_comm, Nat.and_one_is_mod]
  rcases Nat.mod_two_eq_zero_or_one z with h | h
  · rw [h, if_neg (by simp)]; rfl
  · rw [h, if_pos (by simp)]; rfl
theorem idx {k : Nat} (hk : k < 1000000000) : wi (Int.tdiv (k : Int) 64) = ((k / 64 : Nat) : Int) ∧ IntKind.wrap .u64 (Int.tmod (k : Int) 64) = ((k % 64 : Nat) : Int) := by
  constructor
  · rw [Int.tdiv_eq_ediv_of_nonneg (by omega), wi_eq (by omega) (by omega)]; omega
  · rw [Int.tmod_eq_emod_of_nonneg (by omega), Refw.wrapu (by omega) (by omega)]; omega
theorem tail_ok (U : List W64) (hl : U.length ≤ 1000000) : ∀ (m k i : Nat), 64 * U.length - i = m → m < k → (colophonref01_List.l1 (U.map uw) k (i : Int) = some (.inr ()) ∧ ∀ t, i ≤ t → bitAt U t = false) ∨ (colophonref01_List.l1 (U.map uw) k (i : Int) = some (.inl ([], false)) ∧ ∃ t, i ≤ t ∧ bitAt U t = true) := by
  intro m
  induction m with
  | zero => intro k i hm hk; cases k with
    | zero => omega
    | succ k => unfold colophonref01_List.l1; rw [List.length_map, wi_eq (n := 64 * (U.length : Int)) (by omega) (by omega), if_neg (by rw [decide_eq_true_eq]; omega)]
                exact .inl ⟨rfl, fun t ht => bitAt_past U t (by omega)⟩
  | succ m ih => intro k i hm hk; cases k with
    | zero => omega
    | succ k =>
      unfold colophonref01_List.l1
      obtain ⟨word, e1, e2⟩ := bit_ok U i (by omega)
      obtain ⟨i1, i2⟩ := idx (k := i) (by omega)
      rw [List.length_map, wi_eq (n := 64 * (U.length : Int)) (by omega) (by omega), if_pos (by rw [decide_eq_true_eq]; omega), i1, i2, e1, Option.bind_some, e2]
      cases hb : bitAt U i with
      | true => rw [if_pos (by simp)]; exact .inr ⟨rfl, i, Nat.le_refl _, hb⟩
      | false =>
        rw [if_neg (by simp), wi_eq (by omega) (by omega), show ((i : Int) + 1) = ((i + 1 : Nat) : Int) by omega]
        rcases ih k (i + 1) (by omega) (by omega) with ⟨h1, h2⟩ | ⟨h1, t, h2, h3⟩
        · exact .inl ⟨h1, fun t ht => by
            by_cases e : t = i
            · rw [e]; exact hb
            · exact h2 t (by omega)⟩
        · exact .inr ⟨h1, t, by omega, h3⟩
theorem value_ok {w n : Nat} (U : List W64) (hw : 1 ≤ w) (hw2 : w ≤ 64) (hn : n ≤ 10000) (hU : n * w ≤ 64 * U.length) {i : Nat} (hi : i < n) {x : W64} (hx : ∀ j, j < 64 → x.getLsbD j = (decide (j < w) && bitAt U (i * w + j))) :
    colophonref01_List.l3 (w : Int) (U.map uw) (i : Int) FU 0 (wi ((w : Int) - 1)) = some (uw x) := by
  have hin : i * w + w ≤ n * w := by have := Nat.mul_le_mul_right w (show i + 1 ≤ n by omega); rw [Nat.add_mul, Nat.one_mul] at this; exact this
  have hnw : n * w ≤ 10000 * 64 := Nat.mul_le_mul hn hw2
  have key : ∀ (j k : Nat), j < k → j ≤ w → colophonref01_List.l3 (w : Int) (U.map uw) (i : Int) k ((x.toNat / 2 ^ j : Nat) : Int) ((j : Int) - 1) = some (uw x) := by
    intro j
    induction j with
    | zero => intro k hk hj; cases k with
      | zero => omega
      | succ k => unfold colophonref01_List.l3; rw [if_neg (by simp)]; simp
    | succ j ih => intro k hk hj; cases k with
      | zero => omega
      | succ k =>
        unfold colophonref01_List.l3
        obtain ⟨word, e1, e2⟩ := bit_ok U (i * w + j) (by omega)
        obtain ⟨i1, i2⟩ := idx (k := i * w + j) (by omega)
        have ek : wi (wi ((i : Int) * (w : Int)) + (j : Int)) = ((i * w + j : Nat) : Int) := by
          rw [show (i : Int) * (w : Int) = ((i * w : Nat) : Int) from (Int.natCast_mul i w).symm]
          generalize i * w = z at *
          rw [wi_eq (n := (z : Int)) (by omega) (by omega), wi_eq (by omega) (by omega)]; omega
        have hxl := x.isLt
        have hb : (x.toNat.testBit j) = bitAt U (i * w + j) := by rw [BitVec.testBit_toNat, hx j (by omega), decide_eq_true (by omega), Bool.true_and]
        have hd : x.toNat / 2 ^ j = 2 * (x.toNat / 2 ^ (j + 1)) + (if bitAt U (i * w + j) then 1 else 0) := by
          rw [← hb, Nat.testBit, Nat.shiftRight_eq_div_pow, Nat.pow_succ, ← Nat.div_div_eq_div_mul]
          generalize x.toNat / 2 ^ j = z
          rw [Nat.and_comm, Nat.and_one_is_mod]
          rcases Nat.mod_two_eq_zero_or_one z with h | h
          · rw [h, if_neg (by simp)]; omega
          · rw [h, if_pos (by simp)]; omega
        have hle : x.toNat / 2 ^ j ≤ x.toNat := Nat.div_le_self _ _
        have ev : IntKind.wrap .u64 (IntKind.wrap .u64 (2 * ((x.toNat / 2 ^ (j + 1) : Nat) : Int)) + (if bitAt U (i * w + j) then 1 else 0)) = ((x.toNat / 2 ^ j : Nat) : Int) := by
          generalize x.toNat / 2 ^ (j + 1) = z at *
          generalize x.toNat / 2 ^ j = y at *
          cases hbb : bitAt U (i * w + j) with
          | true => rw [hbb, if_pos rfl] at hd; rw [if_pos rfl, Refw.wrapu (n := 2 * (z : Int)) (by omega) (by omega), Refw.wrapu (by omega) (by omega)]; omega
          | false => rw [hbb, if_neg (by simp)] at hd; rw [if_neg (by simp), Refw.wrapu (n := 2 * (z : Int)) (by omega) (by omega), Refw.wrapu (by omega) (by omega)]; omega
        rw [show (((j + 1 : Nat) : Int) - 1) = (j : Int) by omega, if_pos (by rw [decide_eq_true_eq]; omega), ek, i1, i2, e1, Option.bind_some, e2, ev, wi_eq (by omega) (by omega)]
        exact ih k (by omega) (by omega)
  have h0 : x.toNat / 2 ^ w = 0 := Nat.div_eq_of_lt (Nat.lt_pow_two_of_testBit _ (fun j hj => by
    rw [BitVec.testBit_toNat]
    rcases Nat.lt_or_ge j 64 with h | h
    · rw [hx j h, decide_eq_false (by omega)]; rfl
    · exact BitVec.getLsbD_of_ge _ _ h))
  have := key w FU (by show w < 4611686018427387904; omega) (Nat.le_refl _)
  rw [h0, show ((0 : Nat) : Int) = 0 from rfl] at this
  rw [wi_eq (by omega) (by omega)]; exact this
theorem list_ok {w n : Nat} (U : List W64) (hw : 1 ≤ w) (hw2 : w ≤ 64) (hn : n ≤ 10000) (hl : U.length ≤ 1000000) :
    (Fine w n U → ∃ X : List Int, colophonref01_List.f (w : Int) (n : Int) (U.map uw) = some (X, true) ∧ X.length = n ∧ ∀ i, i < n → pack_Ints_Get.f (some ((w : Int), (n : Int), U.map uw)) (i : Int) = some (X.getD i 0)) ∧
    (¬ Fine w n U → ∃ X : List Int, colophonref01_List.f (w : Int) (n : Int) (U.map uw) = some (X, false)) := by
  have hwn : w * n ≤ 64 * 10000 := Nat.mul_le_mul hw2 hn
  have ewn : wi ((w : Int) * (n : Int)) = ((w * n : Nat) : Int) := by rw [← Int.natCast_mul]; exact wi_eq (by omega) (by omega)
  have hneed : need w n = (w * n + 63) / 64 := rfl
  unfold colophonref01_List.f
  rw [ewn, List.length_map, wi_eq (n := (U.length : Int) * 64) (by omega) (by omega)]
  by_cases c1 : U.length * 64 < w * n
  · rw [if_pos (by rw [decide_eq_true_eq]; omega)]
    exact ⟨fun h => by have := h.1; omega, fun _ => ⟨[], rfl⟩⟩
  rw [if_neg (by rw [decide_eq_true_eq]; omega)]
  by_cases c0 : U.length > 0
  · rw [if_pos (by rw [decide_eq_true_eq]; omega), wi_eq (n := (U.length : Int) - 1) (by omega) (by omega), wi_eq (n := ((U.length : Int) - 1) * 64) (by omega) (by omega)]
    by_cases c2 : (U.length - 1) * 64 ≥ w * n
    · rw [if_pos (by rw [decide_eq_true_eq]; omega)]
      exact ⟨fun h => by have := h.1; omega, fun _ => ⟨[], rfl⟩⟩
    rw [if_neg (by rw [decide_eq_true_eq]; omega)]
    rcases tail_ok U hl (64 * U.length - w * n) FU (w * n) rfl (by show _ < 4611686018427387904; omega) with ⟨e, ht⟩ | ⟨e, t, ht, hb⟩
    · have fine : Fine w n U := ⟨by omega, fun k hk => ht k (by rw [Nat.mul_comm] at hk; exact hk)⟩
      refine ⟨fun _ => ?_, fun h => absurd fine h⟩
      rw [e, Option.bind_some]
      simp only []
      have hU : n * w ≤ 64 * U.length := by rw [Nat.mul_comm]; omega
      have key : ∀ (m k i : Nat) (X : List Int), n - i = m → m < k → i ≤ n → X.length = i → (∀ t, t < i → pack_Ints_Get.f (some ((w : Int), (n : Int), U.map uw)) (t : Int) = some (X.getD t 0)) →
          ∃ X' : List Int, colophonref01_List.l2 (w : Int) (n : Int) (U.map uw) k X (i : Int) = some X' ∧ X'.length = n ∧ ∀ t, t < n → pack_Ints_Get.f (some ((w : Int), (n : Int), U.map uw)) (t : Int) = some (X'.getD t 0) := by
        intro m
        induction m with
        | zero => intro k i X hm hk hi hX ht; cases k with
          | zero => omega
          | succ k => unfold colophonref01_List.l2; rw [if_neg (by rw [decide_eq_true_eq]; omega)]; exact ⟨X, rfl, by omega, fun t h => ht t (by omega)⟩
        | succ m ih => intro k i X hm hk hi hX ht; cases k with
          | zero => omega
          | succ k =>
            unfold colophonref01_List.l2
            obtain ⟨x, ex, hx⟩ := get_f w n i U hw hw2 (by omega) hU (by omega)
            rw [if_pos (by rw [decide_eq_true_eq]; omega), value_ok U hw hw2 hn hU (by omega) hx, Option.bind_some, app?_eq (by simp; omega), Option.bind_some, wi_eq (by omega) (by omega), show ((i : Int) + 1) = ((i + 1 : Nat) : Int) by omega]
            refine ih k (i + 1) _ (by omega) (by omega) (by omega) (by simp [hX]) (fun t h => ?_)
            rw [List.getD_eq_getElem?_getD]
            rcases Nat.lt_or_ge t i with h' | h'
            · rw [List.getElem?_append_left (by omega), ← List.getD_eq_getElem?_getD]; exact ht t h'
            · have : t = i := by omega
              subst this
              rw [List.getElem?_append_right (by omega), hX, Nat.sub_self]; exact ex
      obtain ⟨X, e2, hX, hg⟩ := key n FU 0 [] (by omega) (by show n < 4611686018427387904; omega) (by omega) rfl (fun t h => by omega)
      rw [show ((0 : Nat) : Int) = 0 from rfl] at e2
      rw [e2]; exact ⟨X, rfl, hX, hg⟩
    · refine ⟨fun h => ?_, fun _ => ?_⟩
      · have := h.2 t (by rw [Nat.mul_comm]; exact ht); rw [hb] at this; cases this
      · rw [e]; exact ⟨[], rfl⟩
  · rw [if_neg (by rw [decide_eq_true_eq]; omega)]
    have hU0 : U = [] := List.eq_nil_of_length_eq_zero (by omega)
    have h0 : w * n = 0 := by omega
    have hn0 : n = 0 := by
      rcases Nat.mul_eq_zero.1 h0 with h | h
      · omega
      · exact h
    subst hU0 hn0
    have fine : Fine w 0 [] := ⟨by unfold need; simp, fun k _ => bitAt_past [] k (by simp)⟩
    refine ⟨fun _ => ⟨[], ?_, rfl, fun i hi => by omega⟩, fun h => absurd fine h⟩
    rw [h0, show FU = FU - 1 + 1 from rfl]
    unfold colophonref01_List.l4 colophonref01_List.l5
    rw [if_neg (by simp [wi_eq]), if_neg (by simp)]; rfl
theorem wipe3p (y : List Int) (hy : y.length ≤ 1000000) : colophonlaw01_PackFrom.l3 y FU y 0 = some () := by
  have key : ∀ (m k i : Nat) (x : List Int), y.length - i = m → m < k → x.length = y.length → colophonlaw01_PackFrom.l3 y k x (i : Int) = some () := by
    intro m
    induction m with
    | zero => intro k i x hm hk hx; cases k with
      | zero => omega
      | succ k => unfold colophonlaw01_PackFrom.l3; rw [if_neg (by simp; omega)]
    | succ m ih => intro k i x hm hk hx; cases k with
      | zero => omega
      | succ k =>
        unfold colophonlaw01_PackFrom.l3
        rw [if_pos (by simp; omega), at_g (by omega), Option.bind_some, set?_nat _ (by omega), Option.bind_some, wi_eq (by omega) (by omega), show ((i : Int) + 1) = ((i + 1 : Nat) : Int) by omega]
        exact ih k (i + 1) _ (by omega) (by omega) (by simpa using hx)
  have := key y.length FU 0 y (by omega) (by show y.length < 4611686018427387904; omega) rfl
  rw [show ((0 : Nat) : Int) = 0 from rfl] at this
  exact this
theorem from_bad {a0 a1 : Int} {l : List Int} (h : ¬ (1 ≤ a0 ∧ a0 ≤ 64 ∧ 0 ≤ a1 ∧ a1 ≤ 4194304)) : pack_From.f a0 a1 l = some (none, 2) := by
  unfold pack_From.f
  rw [new_bad h, Option.bind_some, if_pos (by simp)]
end Packed
open Packed
theorem pure_PackFrom (a0 : Int) (F0 : Fits (.int .i64) a0) (a1 : Int) (F1 : Fits (.int .i64) a1) (l2 : List Int) (F2 : Fits (.slice 22 (.int .u64)) l2) : colophonlaw01_PackFrom.f a0 a1 l2 = some true := by
  obtain ⟨U, rfl⟩ := u64_ex F2
  unfold colophonlaw01_PackFrom.f
  rw [first_f, Option.bind_some, if_neg (by simp)]
  by_cases h2 : U.length > 2000
  · rw [if_pos (by simp; omega)]
  rw [if_neg (by simp; omega), app?_eq (by simp; omega)]
  simp only [Option.bind_some, List.nil_append]
  by_cases h3 : a1 > 3000
  · rw [if_pos (by simpa using h3)]
    by_cases h4 : a1 ≤ 4194304
    · rw [if_pos (by simpa using h4)]
    rw [if_neg (by simpa using h4), from_bad (fun h => by omega), Option.bind_some, right_f, decide_eq_false (fun h => by omega)]; rfl
  rw [if_neg (by simpa using h3)]
  by_cases h : 1 ≤ a0 ∧ a0 ≤ 64 ∧ 0 ≤ a1 ∧ a1 ≤ 4194304
  · obtain ⟨w, rfl⟩ : ∃ w : Nat, a0 = (w : Int) := ⟨a0.toNat, by omega⟩
    obtain ⟨n, rfl⟩ : ∃ n : Nat, a1 = (n : Int) := ⟨a1.toNat, by omega⟩
    have hw : 1 ≤ w := by omega
    have hw2 : w ≤ 64 := by omega
    have p := packFrom_ok w n U hw hw2 (by omega)
    have q := list_ok (w := w) (n := n) U hw hw2 (by omega) (by omega)
    by_cases hf : Fine w n U
    · obtain ⟨X, eX, hX, hg⟩ := q.1 hf
      rw [p.1 hf, Option.bind_some, right_f, decide_eq_true h, Option.bind_some, if_neg (by simp), eX, Option.bind_some]
      simp only []
      have e1 : pack_Ints_Len.f (some ((w : Int), (n : Int), U.map Pack.uw)) = some (n : Int) := rfl
      rw [if_neg (by simp), Option.bind_some, wipe3p _ (by simp; omega), Option.bind_some, if_neg (by simp), e1, Option.bind_some, if_neg (by simp), Pack.words_f _ _ U (by omega), Option.bind_some, Refw.same_refl _ (by simp; omega), Option.bind_some, if_neg (by simp)]
      have key : ∀ (m k i : Nat), X.length - i = m → m < k → colophonlaw01_PackFrom.l4 (X, true) ((w : Int), (n : Int), U.map Pack.uw) k (i : Int) = some (.inr ()) := by
        intro m
        induction m with
        | zero => intro k i hm hk; cases k with
          | zero => omega
          | succ k => unfold colophonlaw01_PackFrom.l4; rw [if_neg (by rw [decide_eq_true_eq]; simp only []; omega)]
        | succ m ih => intro k i hm hk; cases k with
          | zero => omega
          | succ k =>
            unfold colophonlaw01_PackFrom.l4
            rw [if_pos (by rw [decide_eq_true_eq]; simp only []; omega)]
            simp only []
            rw [at_g (by omega), Option.bind_some, hg i (by omega), Option.bind_some, if_neg (by simp), wi_eq (by omega) (by omega), show ((i : Int) + 1) = ((i + 1 : Nat) : Int) by omega]
            exact ih k (i + 1) (by omega) (by omega)
      have e := key X.length FU 0 (by omega) (by show X.length < 4611686018427387904; omega)
      rw [show ((0 : Nat) : Int) = 0 from rfl] at e
      rw [e]; rfl
    · obtain ⟨X, eX⟩ := q.2 hf
      rw [p.2 hf, Option.bind_some, right_f, decide_eq_true h, Option.bind_some, if_neg (by simp), eX, Option.bind_some]; rfl
  · rw [from_bad h, Option.bind_some, right_f, decide_eq_false h]; rfl
end Go.Proofs.Ytamlfkfdpgchiaa
