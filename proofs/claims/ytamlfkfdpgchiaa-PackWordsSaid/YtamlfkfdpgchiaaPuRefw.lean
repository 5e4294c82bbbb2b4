/-
  The reference of layer pack: bits as words, numbers as bits. No condition.
-/
import Derived.Test.YtamlfkfdpgchiaaPuPack2
import Derived.Test.YtamlfkfdpgchiaaGP1b
namespace Go.Proofs.Ytamlfkfdpgchiaa
open Go Go.Gol
set_option linter.unusedVariables false
set_option linter.unusedSimpArgs false
set_option maxRecDepth 100000
namespace Refw
open Pack
theorem at_g {l : List Int} {q : Nat} (h : q < l.length) : at? l (q : Int) = some (l.getD q 0) := by
  rw [at?_nat, List.getElem?_eq_getElem h]; simp [List.getD_eq_getElem?_getD, List.getElem?_eq_getElem h]
theorem wrapu {n : Int} (h0 : 0 ≤ n) (h1 : n < 18446744073709551616) : IntKind.wrap .u64 n = n := by rw [wrap_u64_eq]; omega
theorem addbit (x : W64) {s : Nat} (hs : s < 64) {v : Int} (hv : v = 0 ∨ v = 1) (hx : ∀ j, s ≤ j → x.getLsbD j = false) :
    ∃ nw : W64, IntKind.wrap .u64 (uw x + ishl .u64 (IntKind.wrap .u64 v) (IntKind.wrap .u64 (s : Int))) = uw nw ∧ ∀ j, j < 64 → nw.getLsbD j = if j = s then (v == 1) else x.getLsbD j := by
  have hlt := x.isLt
  rw [wrapu (n := (s : Int)) (by omega) (by omega)]
  rcases hv with rfl | rfl
  · refine ⟨x, ?_, fun j hj => ?_⟩
    · rw [show IntKind.wrap .u64 0 = 0 from by decide, show ishl .u64 0 (s : Int) = 0 by unfold ishl; rw [Int.zero_mul]; decide, Int.add_zero]
      exact wrapu (by show (0 : Int) ≤ (x.toNat : Int); omega) (by show (x.toNat : Int) < _; omega)
    · split
      · rename_i h; subst h; rw [hx j (Nat.le_refl _)]; rfl
      · rfl
  · have hxs : x.toNat < 2 ^ s := Nat.lt_pow_two_of_testBit _ (fun j hj => by rw [BitVec.testBit_toNat]; exact hx j hj)
    have hp2 : 2 ^ s * 2 ≤ 2 ^ 64 := by rw [← Nat.pow_succ]; exact Nat.pow_le_pow_right (by decide) (by omega)
    have h64 : (2 : Nat) ^ 64 = 18446744073709551616 := rfl
    have e : ((2 : Int) ^ s) = ((2 ^ s : Nat) : Int) := by rw [Int.natCast_pow]; rfl
    have e1 : ishl .u64 1 (s : Int) = ((2 ^ s : Nat) : Int) := by
      unfold ishl
      rw [Int.toNat_natCast, show IntKind.bits .u64 = 64 from rfl, Nat.min_eq_left (by omega), Int.one_mul, wrap_u64_eq, e]
      have hp : 0 < 2 ^ s := Nat.pow_pos (by decide)
      generalize 2 ^ s = m at *; omega
    refine ⟨BitVec.ofNat 64 (2 ^ s * 1 + x.toNat), ?_, fun j hj => ?_⟩
    · rw [show IntKind.wrap .u64 1 = 1 from by decide, e1]
      show IntKind.wrap .u64 ((x.toNat : Int) + ((2 ^ s : Nat) : Int)) = ((BitVec.ofNat 64 (2 ^ s * 1 + x.toNat)).toNat : Int)
      rw [BitVec.toNat_ofNat]
      generalize 2 ^ s = m at *
      rw [wrapu (by omega) (by omega), Nat.mod_eq_of_lt (by omega)]; omega
    · rw [← BitVec.testBit_toNat, BitVec.toNat_ofNat, Nat.mod_eq_of_lt (by generalize 2 ^ s = m at *; omega), Nat.testBit_two_pow_mul_add _ hxs]
      rcases Nat.lt_trichotomy j s with h | h | h
      · rw [if_pos h, if_neg (by omega), BitVec.testBit_toNat]
      · subst h; rw [if_neg (by omega), if_pos rfl, Nat.sub_self]; rfl
      · rw [if_neg (by omega), if_neg (by omega), hx j (by omega)]
        obtain ⟨d, hd⟩ : ∃ d, j - s = d + 1 := ⟨j - s - 1, by omega⟩
        rw [hd, Nat.testBit_succ]; simp
theorem bitAt_app (U : List W64) (k : Nat) : bitAt (U ++ [0#64]) k = bitAt U k := by
  unfold bitAt
  rw [List.getD_eq_getElem?_getD, List.getD_eq_getElem?_getD]
  rcases Nat.lt_or_ge (k / 64) U.length with h | h
  · rw [List.getElem?_append_left h]
  · rw [List.getElem?_append_right h, List.getElem?_eq_none h]
    rcases Nat.eq_zero_or_pos (k / 64 - U.length) with e | e
    · rw [e]; rfl
    · rw [List.getElem?_eq_none (by simp; omega)]
theorem bits_ext {U V : List W64} (hl : U.length = V.length) (h : ∀ k, bitAt U k = bitAt V k) : U = V := by
  apply List.ext_getElem hl
  intro q h1 h2
  apply BitVec.eq_of_getLsbD_eq
  intro j hj
  have := h (64 * q + j)
  unfold bitAt at this
  rw [show (64 * q + j) / 64 = q by omega, show (64 * q + j) % 64 = j by omega, List.getD_eq_getElem?_getD, List.getElem?_eq_getElem h1, List.getD_eq_getElem?_getD, List.getElem?_eq_getElem h2] at this
  exact this
theorem at_w {U : List W64} {q : Nat} (h : q < U.length) : at? (U.map uw) (q : Int) = some (uw U[q]) := by
  rw [at?_nat, List.getElem?_map, List.getElem?_eq_getElem h]; rfl
theorem words_ok (L : List Int) (hL : ∀ k, k < L.length → L.getD k 0 = 0 ∨ L.getD k 0 = 1) (h : L.length ≤ 1000000000) : ∃ U : List W64, colophonref01_Words.f L = some (U.map uw) ∧ U.length = (L.length + 63) / 64 ∧ ∀ k, bitAt U k = (decide (k < L.length) && (L.getD k 0 == 1)) := by
  have key : ∀ (m k i : Nat) (U : List W64), L.length - i = m → m < k → i ≤ L.length → U.length = (i + 63) / 64 → (∀ k, bitAt U k = (decide (k < i) && (L.getD k 0 == 1))) →
      ∃ U' : List W64, colophonref01_Words.l1 L k (U.map uw) (i : Int) = some (U'.map uw) ∧ U'.length = (L.length + 63) / 64 ∧ ∀ k, bitAt U' k = (decide (k < L.length) && (L.getD k 0 == 1)) := by
    intro m
    induction m with
    | zero => intro k i U hm hk hi hU hb; cases k with
      | zero => omega
      | succ k => unfold colophonref01_Words.l1; rw [if_neg (by simp; omega)]
                  have : i = L.length := by omega
                  subst this; exact ⟨U, rfl, hU, hb⟩
    | succ m ih => intro k i U hm hk hi hU hb; cases k with
      | zero => omega
      | succ k =>
        unfold colophonref01_Words.l1
        have hil : i < L.length := by omega
        have e1 : Int.tmod (i : Int) 64 = ((i % 64 : Nat) : Int) := by rw [Int.tmod_eq_emod_of_nonneg (by omega)]; omega
        have e2 : wi (Int.tdiv (i : Int) 64) = ((i / 64 : Nat) : Int) := by rw [Int.tdiv_eq_ediv_of_nonneg (by omega), wi_eq (by omega) (by omega)]; omega
        -- the step on words that reach the place
        have step : ∀ U1 : List W64, U1.length = i / 64 + 1 → (∀ k, bitAt U1 k = (decide (k < i) && (L.getD k 0 == 1))) →
            ∃ nw : W64, IntKind.wrap .u64 (uw (U1.getD (i / 64) 0#64) + ishl .u64 (IntKind.wrap .u64 (L.getD i 0)) (IntKind.wrap .u64 ((i % 64 : Nat) : Int))) = uw nw ∧ ∀ k, bitAt (U1.set (i / 64) nw) k = (decide (k < i + 1) && (L.getD k 0 == 1)) := by
          intro U1 h1 hb1
          obtain ⟨nw, en, hn⟩ := addbit (U1.getD (i / 64) 0#64) (s := i % 64) (by omega) (hL i hil) (fun j hj => by
            rcases Nat.lt_or_ge j 64 with hj' | hj'
            · have := hb1 (64 * (i / 64) + j)
              unfold bitAt at this
              rw [show (64 * (i / 64) + j) / 64 = i / 64 by omega, show (64 * (i / 64) + j) % 64 = j by omega, decide_eq_false (by omega)] at this
              rw [this]; rfl
            · exact BitVec.getLsbD_of_ge _ _ hj')
          refine ⟨nw, en, fun k => ?_⟩
          have hbk := hb1 k
          unfold bitAt at hbk ⊢
          rw [Pack.getD_set _ _ _ _ (by omega)]
          by_cases hq : i / 64 = k / 64
          · rw [if_pos hq, hn _ (by omega)]
            by_cases hk : k = i
            · subst hk; rw [if_pos rfl, decide_eq_true (by omega)]; rfl
            · rw [if_neg (by omega), hq, hbk]; congr 1; rw [decide_eq_decide]; omega
          · rw [if_neg hq, hbk]; congr 1; rw [decide_eq_decide]
            constructor
            · omega
            · intro h; rcases Nat.lt_or_ge k i with h' | h'
              · exact h'
              · exact absurd (by rw [show k = i by omega]) hq
        have tail : ∀ U1 : List W64, U1.length = i / 64 + 1 → (∀ k, bitAt U1 k = (decide (k < i) && (L.getD k 0 == 1))) →
            ∃ U' : List W64, ((at? (U1.map uw) ((i / 64 : Nat) : Int)).bind fun v18 => ((set? (U1.map uw) ((i / 64 : Nat) : Int) (IntKind.wrap .u64 (v18 + (ishl .u64 (IntKind.wrap .u64 (L.getD i 0)) (IntKind.wrap .u64 ((i % 64 : Nat) : Int)))))).bind fun y20 => colophonref01_Words.l1 L k y20 (wi ((i : Int) + 1)))) = some (U'.map uw) ∧ U'.length = (L.length + 63) / 64 ∧ ∀ k, bitAt U' k = (decide (k < L.length) && (L.getD k 0 == 1)) := by
          intro U1 h1 hb1
          obtain ⟨nw, en, hn⟩ := step U1 h1 hb1
          have hg : U1[i / 64]'(by omega) = U1.getD (i / 64) 0#64 := by rw [List.getD_eq_getElem?_getD, List.getElem?_eq_getElem (by omega)]; rfl
          rw [at_w (by omega), Option.bind_some, hg, en, set?_nat _ (by simp; omega), Option.bind_some, ← List.map_set, wi_eq (by omega) (by omega), show ((i : Int) + 1) = ((i + 1 : Nat) : Int) by omega]
          exact ih k (i + 1) _ (by omega) (by omega) (by omega) (by rw [List.length_set, h1]; omega) hn
        rw [if_pos (by simp; omega), at_g hil, Option.bind_some, e1, e2]
        by_cases h0 : i % 64 = 0
        · rw [if_pos (by rw [beq_iff_eq]; omega), app?_eq (by simp; omega), Option.bind_some]
          have := tail (U ++ [0#64]) (by simp; omega) (fun k => by rw [bitAt_app]; exact hb k)
          rw [List.map_append] at this
          exact this
        · rw [if_neg (by rw [beq_iff_eq]; omega)]
          exact tail U (by omega) hb
  have := key L.length FU 0 [] (by omega) (by show L.length < 4611686018427387904; omega) (by omega) rfl (fun k => by unfold bitAt; simp)
  obtain ⟨U, e, h1, h2⟩ := this
  rw [show ((0 : Nat) : Int) = 0 from rfl, List.map_nil] at e
  unfold colophonref01_Words.f
  rw [e]; exact ⟨U, rfl, h1, h2⟩
theorem and1 (v : Int) (h0 : 0 ≤ v) (h1 : v ≤ 255) : iand .u8 v 1 = v % 2 := by
  obtain ⟨n, rfl⟩ : ∃ n : Nat, v = (n : Int) := ⟨v.toNat, by omega⟩
  have := un_and8 (BitVec.ofNat 8 n) 1#8
  rw [BitVec.toNat_and] at this
  simp only [BitVec.toNat_ofNat] at this
  rw [Nat.mod_eq_of_lt (show n < 2 ^ 8 by rw [show (2 : Nat) ^ 8 = 256 from rfl]; omega), show 1 % 2 ^ 8 = 1 from rfl, Nat.and_one_is_mod] at this
  rw [show ((1 : Nat) : Int) = 1 from rfl] at this
  rw [this]; omega
theorem bits_ok (w : Nat) (hw : w ≤ 64) (xs : List Int) (hx : ∀ i, i < xs.length → 0 ≤ xs.getD i 0 ∧ xs.getD i 0 < 18446744073709551616) (hn : xs.length ≤ 100000000) :
    ∃ R : List Int, colophonref01_Bits.f (w : Int) xs = some R ∧ R.length = xs.length * w ∧ ∀ i, i < xs.length → ∀ j, j < w → R.getD (i * w + j) 0 = if (xs.getD i 0).toNat.testBit j then 1 else 0 := by
  have k2 : ∀ (v : Nat), v < 18446744073709551616 → ∀ (R : List Int), R.length ≤ 10000000000 → ∀ (m k j : Nat) (R' : List Int), w - j = m → m < k → j ≤ w → R'.length = R.length + j → (∀ t, t < R.length → R'.getD t 0 = R.getD t 0) → (∀ t, t < j → R'.getD (R.length + t) 0 = if v.testBit t then 1 else 0) →
      ∃ R2 : List Int, colophonref01_Bits.l2 (w : Int) (v : Int) k R' (j : Int) = some R2 ∧ R2.length = R.length + w ∧ (∀ t, t < R.length → R2.getD t 0 = R.getD t 0) ∧ ∀ t, t < w → R2.getD (R.length + t) 0 = if v.testBit t then 1 else 0 := by
    intro v hv R hR m
    induction m with
    | zero => intro k j R' hm hk hj hl h1 h2; cases k with
      | zero => omega
      | succ k => unfold colophonref01_Bits.l2; rw [if_neg (by simp; omega)]
                  have : j = w := by omega
                  subst this; exact ⟨R', rfl, hl, h1, h2⟩
    | succ m ih => intro k j R' hm hk hj hl h1 h2; cases k with
      | zero => omega
      | succ k =>
        unfold colophonref01_Bits.l2
        have eb : iand .u8 (IntKind.wrap .u8 (ishr .u64 (v : Int) (IntKind.wrap .u64 (j : Int)))) 1 = if v.testBit j then 1 else 0 := by
          rw [wrapu (by omega) (by omega), ishr_nat .u64 _ _ (by show j ≤ 64; omega), wrap_u8_eq, and1 _ (by omega) (by omega), Nat.testBit, Nat.shiftRight_eq_div_pow]
          generalize v / 2 ^ j = z
          rw [Nat.and_comm, Nat.and_one_is_mod]
          have h2 := Nat.mod_two_eq_zero_or_one z
          rcases h2 with h | h
          · rw [h, if_neg (by simp)]; omega
          · rw [h, if_pos (by simp)]; omega
        rw [if_pos (by simp; omega), eb, app?_eq (by simp; omega), Option.bind_some, wi_eq (by omega) (by omega), show ((j : Int) + 1) = ((j + 1 : Nat) : Int) by omega]
        refine ih k (j + 1) _ (by omega) (by omega) (by omega) (by simp; omega) (fun t ht => ?_) (fun t ht => ?_)
        · rw [List.getD_eq_getElem?_getD, List.getElem?_append_left (by omega), ← List.getD_eq_getElem?_getD]; exact h1 t ht
        · rw [List.getD_eq_getElem?_getD]
          rcases Nat.lt_or_ge t j with h | h
          · rw [List.getElem?_append_left (by omega), ← List.getD_eq_getElem?_getD]; exact h2 t h
          · have : t = j := by omega
            subst this
            rw [List.getElem?_append_right (by omega), hl, Nat.sub_self]; rfl
  have mul : ∀ a b : Nat, a < b → a * w + w ≤ b * w := fun a b hab => by have := Nat.mul_le_mul_right w (show a + 1 ≤ b by omega); rw [Nat.add_mul, Nat.one_mul] at this; exact this
  have hnw : xs.length * w ≤ 100000000 * 64 := Nat.mul_le_mul hn hw
  have key : ∀ (m k i : Nat) (R : List Int), xs.length - i = m → m < k → i ≤ xs.length → R.length = i * w → (∀ t, t < i → ∀ j, j < w → R.getD (t * w + j) 0 = if (xs.getD t 0).toNat.testBit j then 1 else 0) →
      ∃ R2 : List Int, colophonref01_Bits.l1 (w : Int) xs k R (i : Int) = some R2 ∧ R2.length = xs.length * w ∧ ∀ t, t < xs.length → ∀ j, j < w → R2.getD (t * w + j) 0 = if (xs.getD t 0).toNat.testBit j then 1 else 0 := by
    intro m
    induction m with
    | zero => intro k i R hm hk hi hl h1; cases k with
      | zero => omega
      | succ k => unfold colophonref01_Bits.l1; rw [if_neg (by simp; omega)]
                  have : i = xs.length := by omega
                  subst this; exact ⟨R, rfl, hl, h1⟩
    | succ m ih => intro k i R hm hk hi hl h1; cases k with
      | zero => omega
      | succ k =>
        unfold colophonref01_Bits.l1
        have hil : i < xs.length := by omega
        have hv := hx i hil
        obtain ⟨v, ev⟩ : ∃ v : Nat, xs.getD i 0 = (v : Int) := ⟨(xs.getD i 0).toNat, by omega⟩
        have hmi := mul i xs.length hil
        obtain ⟨R2, e, l2, a1, a2⟩ := k2 v (by omega) R (by omega) w FU 0 R (by omega) (by show w < 4611686018427387904; omega) (by omega) (by omega) (fun t _ => rfl) (fun t h => by omega)
        rw [show ((0 : Nat) : Int) = 0 from rfl] at e
        rw [if_pos (by simp; omega), at_g hil, Option.bind_some, ev, e, Option.bind_some, wi_eq (by omega) (by omega), show ((i : Int) + 1) = ((i + 1 : Nat) : Int) by omega]
        refine ih k (i + 1) R2 (by omega) (by omega) (by omega) (by rw [l2, hl, Nat.add_mul, Nat.one_mul]) (fun t ht j hj => ?_)
        rcases Nat.lt_or_ge t i with h | h
        · have := mul t i h
          rw [a1 _ (by omega)]; exact h1 t h j hj
        · have : t = i := by omega
          subst this
          rw [← hl, a2 j hj, ev, Int.toNat_natCast]
  obtain ⟨R, e, l, h⟩ := key xs.length FU 0 [] (by omega) (by show xs.length < 4611686018427387904; omega) (by omega) (by simp) (fun t h => by omega)
  rw [show ((0 : Nat) : Int) = 0 from rfl] at e
  unfold colophonref01_Bits.f
  rw [e]; exact ⟨R, rfl, l, h⟩
theorem same_refl (a : List Int) (h : a.length ≤ 1000000000) : colophonref01_Same.f a a = some true := by
  unfold colophonref01_Same.f
  rw [if_neg (by simp)]
  have key : ∀ (m k i : Nat), a.length - i = m → m < k → colophonref01_Same.l1 a a k (i : Int) = some (.inr ()) := by
    intro m
    induction m with
    | zero => intro k i hm hk; cases k with
      | zero => omega
      | succ k => unfold colophonref01_Same.l1; rw [if_neg (by simp; omega)]
    | succ m ih => intro k i hm hk; cases k with
      | zero => omega
      | succ k =>
        unfold colophonref01_Same.l1
        rw [if_pos (by simp; omega), at_g (by omega), Option.bind_some, Option.bind_some, if_neg (by simp), wi_eq (by omega) (by omega), show ((i : Int) + 1) = ((i + 1 : Nat) : Int) by omega]
        exact ih k (i + 1) (by omega) (by omega)
  have := key a.length FU 0 (by omega) (by show a.length < 4611686018427387904; omega)
  rw [show ((0 : Nat) : Int) = 0 from rfl] at this
  rw [this]; rfl
end Refw
end Go.Proofs.Ytamlfkfdpgchiaa
