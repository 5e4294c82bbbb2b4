/-
  Pages in plain words (the core, out of pageB, pageC, pageD). No condition.
-/
import Derived.Test.YtbcdcpkofgfofaaPuCrcA
set_option linter.unusedVariables false
set_option linter.unusedSimpArgs false
set_option maxRecDepth 100000
namespace Go.Proofs.Ytbcdcpkofgfofaa
open Go Go.Gol
namespace Page
open Crc
def byteAt (n i : Nat) : BitVec 8 := BitVec.ofNat 8 (n / 2 ^ (8 * i))
def body (L : List (BitVec 8)) : List (BitVec 8) := L ++ List.replicate (256 - L.length) 0#8
def pg (n : Nat) (L : List (BitVec 8)) : List (BitVec 8) := body L ++ [byteAt n 0, byteAt n 1, byteAt n 2, byteAt n 3]
theorem body_len (L : List (BitVec 8)) (h : L.length ≤ 256) : (body L).length = 256 := by simp [body]; omega
theorem byte_f (n i : Nat) (hi : i < 4) : IntKind.wrap .u8 (ishr .i64 (n : Int) (wi (8 * (i : Int)))) = ub (byteAt n i) := by
  rw [wi_eq (by omega) (by omega), show (8 * (i : Int)) = ((8 * i : Nat) : Int) by omega, ishr_nat .i64 n (8 * i) (by show 8 * i ≤ 64; omega), wrap_u8_eq, ub, byteAt, BitVec.toNat_ofNat]
  exact (Int.natCast_emod _ 256).symm
theorem set4 (X : List Int) (hX : X.length = 256) (T : List Int) (i : Nat) (hi : i < T.length) (v : Int) : (X ++ T).set (256 + i) v = X ++ T.set i v := by
  rw [List.set_append_right _ _ (by omega)]; congr 2; omega
theorem put_l1 (n : Nat) (l1 : List Int) (X : List Int) (hX : X.length = 256) (j : Nat) : ∀ (k : Nat) (T : List Int), j ≤ 4 → j < k → T.length = 4 → (∀ i, i < 4 - j → T[i]? = some (ub (byteAt n i))) →
    page_Put.l1 (n : Int) l1 k ((4 - j : Nat) : Int) (X ++ T) = some (X ++ [ub (byteAt n 0), ub (byteAt n 1), ub (byteAt n 2), ub (byteAt n 3)]) := by
  induction j with
  | zero =>
    intro k T _ hk hT h; cases k with
    | zero => omega
    | succ k =>
      unfold page_Put.l1; rw [if_neg (by simp)]
      have : T = [ub (byteAt n 0), ub (byteAt n 1), ub (byteAt n 2), ub (byteAt n 3)] := by
        apply List.ext_getElem?
        intro i
        by_cases hi : i < 4
        · rw [h i (by omega)]
          have : i = 0 ∨ i = 1 ∨ i = 2 ∨ i = 3 := by omega
          rcases this with rfl | rfl | rfl | rfl <;> rfl
        · rw [List.getElem?_eq_none (by omega), List.getElem?_eq_none (by simp; omega)]
      rw [this]
  | succ j ih =>
    intro k T hj hk hT h; cases k with
    | zero => omega
    | succ k =>
      unfold page_Put.l1
      generalize hi : 4 - (j + 1) = i at *
      have hi4 : i < 4 := by omega
      rw [if_pos (by simp; omega), chk?_eq (decide_eq_true (by rw [wi_eq (by omega) (by omega)]; omega)), Option.bind_some]
      have e1 : wi (256 + (i : Int)) = ((256 + i : Nat) : Int) := by rw [wi_eq (by omega) (by omega)]; omega
      have e2 : wi ((i : Int) + 1) = ((4 - j : Nat) : Int) := by rw [wi_eq (by omega) (by omega)]; omega
      rw [e1, e2, byte_f n i hi4, at?_nat, List.getElem?_eq_getElem (by simp; omega), Option.bind_some, set?_nat _ (by simp; omega), Option.bind_some, set4 X hX T i (by omega)]
      refine ih k _ (by omega) (by omega) (by simpa using hT) (fun q hq => ?_)
      rw [List.getElem?_set]
      by_cases hqi : i = q
      · rw [if_pos hqi, if_pos (by omega), hqi]
      · rw [if_neg hqi]; exact h q (by omega)
theorem put_page (n : Nat) (L : List (BitVec 8)) (hn : n < 4096) (hL : L.length ≤ 256) : page_Put.f (n : Int) (L.map ub) = some ((put (pg n L)).map ub, 0) := by
  unfold page_Put.f
  rw [if_neg (by simp), if_neg (by simp; omega), if_neg (by simp; omega)]
  have e : cpy (List.replicate 260 (0 : Int)) (L.map ub) = (body L).map ub ++ [0, 0, 0, 0] := by
    unfold cpy body
    simp only [List.length_map, List.length_replicate, List.map_append, List.map_replicate]
    rw [Nat.min_eq_left (by omega), List.take_of_length_le (by simp), List.drop_replicate, List.append_assoc]
    congr 1
    rw [show 260 - L.length = (256 - L.length) + 4 by omega, ← List.replicate_append_replicate]; rfl
  have h := put_l1 n (L.map ub) ((body L).map ub) (by simpa using body_len L hL) 4 FU [0, 0, 0, 0] (by omega) (by decide) rfl (fun i hi => by omega)
  rw [show ((4 - 4 : Nat) : Int) = 0 from rfl] at h
  rw [e, h, Option.bind_some]
  have e2 : (body L).map ub ++ [ub (byteAt n 0), ub (byteAt n 1), ub (byteAt n 2), ub (byteAt n 3)] = (pg n L).map ub := by simp [pg]
  rw [e2, put_f _ (by simp [pg, body_len L hL]), Option.bind_some]
theorem byte_nat (n i : Nat) : (byteAt n i).toNat = n / 2 ^ (8 * i) % 256 := by simp [byteAt]
theorem pg_len (n : Nat) (L : List (BitVec 8)) (h : L.length ≤ 256) : (pg n L).length = 260 := by simp [pg, body_len L h]
/-- the number of a page, of its bytes -/
def num (P : List (BitVec 8)) : Nat := (P.getD 256 0#8).toNat + 256 * ((P.getD 257 0#8).toNat + 256 * ((P.getD 258 0#8).toNat + 256 * (P.getD 259 0#8).toNat))
/-- what bytes are as a page -/
def getR (P : List (BitVec 8)) : Int × List Int × Int :=
  if P.length < 264 then (0, [], 50) else if P.length > 264 then (0, [], 51) else if put (P.take 260) = P then (if num P ≥ 4096 then (0, [], 10) else ((num P : Int), (P.take 256).map ub, 0)) else (0, [], 40)
theorem or64 (x v : Nat) (hx : x < 16777216) (hv : v < 256) : ior .i64 (ishl .i64 (x : Int) 8) (v : Int) = ((256 * x + v : Nat) : Int) := by
  have e1 : ishl .i64 (x : Int) 8 = ((256 * x : Nat) : Int) := by
    unfold ishl
    rw [show (min (8 : Int).toNat (IntKind.bits .i64)) = 8 from rfl, show ((2 : Int) ^ 8) = 256 from rfl]
    show wi _ = _
    rw [wi_eq (by omega) (by omega)]; omega
  rw [e1]
  show IntKind.wrap .i64 ((BitVec.ofInt 64 _ ||| BitVec.ofInt 64 _ : BitVec 64).toNat : Int) = _
  have e : ∀ z : Nat, z < 9223372036854775808 → BitVec.ofInt 64 (z : Int) = BitVec.ofNat 64 z := fun z hz => by apply BitVec.eq_of_toNat_eq; simp
  rw [e _ (by omega), e _ (by omega), BitVec.toNat_or]
  simp only [BitVec.toNat_ofNat]
  rw [Nat.mod_eq_of_lt (by omega), Nat.mod_eq_of_lt (by omega), show 256 * x = 2 ^ 8 * x from rfl, ← Nat.two_pow_add_eq_or_of_lt (by show v < 256; omega), show (2 : Nat) ^ 8 * x = 256 * x from rfl]
  exact wi_eq (by omega) (by omega)
theorem atu {P : List (BitVec 8)} {i : Nat} (h : i < P.length) : at? (P.map ub) (i : Int) = some ((P.getD i 0#8).toNat : Int) := by
  rw [at?_nat, List.getElem?_map, List.getElem?_eq_getElem h, List.getD_eq_getElem?_getD, List.getElem?_eq_getElem h]; rfl
theorem get_f (P : List (BitVec 8)) (hP : P.length ≤ 10000) : page_Get.f (P.map ub) = some (getR P) := by
  unfold page_Get.f getR
  by_cases h1 : P.length < 264
  · rw [if_pos (by simp; omega), if_pos h1]
  rw [if_neg (by simp; omega), if_neg h1]
  by_cases h2 : P.length > 264
  · rw [if_pos (by simp; omega), if_pos h2]
  rw [if_neg (by simp; omega), if_neg h2, cut_f P (by omega), if_neg (by omega), show P.length - 4 = 260 by omega, Option.bind_some]
  by_cases h3 : put (P.take 260) = P
  · rw [if_pos h3, if_pos h3, if_neg (by simp)]
    simp only []
    have step : ∀ (i x : Nat) (k : Nat), i < 4 → x < 16777216 → page_Get.l1 ((P.take 260).map ub, 0) (k + 1) (x : Int) (i : Int) = page_Get.l1 ((P.take 260).map ub, 0) k ((256 * x + (P.getD (256 + i) 0#8).toNat : Nat) : Int) ((i : Int) - 1) := fun i x k hi hx => by
      have hv := (P.getD (256 + i) 0#8).isLt
      conv => lhs; unfold page_Get.l1
      have e : at? ((P.take 260).map ub) (((256 + i : Nat)) : Int) = some ((P.getD (256 + i) 0#8).toNat : Int) := by
        rw [atu (by simp; omega)]
        congr 3
        simp only [List.getD_eq_getElem?_getD, List.getElem?_take]
        rw [if_pos (by omega)]
      rw [if_pos (by simp), wi_eq (n := 256 + (i : Int)) (by omega) (by omega), show (256 + (i : Int)) = ((256 + i : Nat) : Int) by omega]
      simp only []
      rw [e, Option.bind_some, wi_eq (n := ((P.getD (256 + i) 0#8).toNat : Int)) (by omega) (by omega), or64 x _ hx (by omega), wi_eq (by omega) (by omega)]
    have v3 := (P.getD 259 0#8).isLt
    have v2 := (P.getD 258 0#8).isLt
    have v1 := (P.getD 257 0#8).isLt
    have v0 := (P.getD 256 0#8).isLt
    have hl : page_Get.l1 ((P.take 260).map ub, 0) FU 0 3 = some (num P : Int) := by
      have s3 := step 3 0 (FU - 1) (by omega) (by omega)
      have s2 := step 2 (256 * 0 + (P.getD (256 + 3) 0#8).toNat) (FU - 2) (by omega) (by omega)
      have s1 := step 1 (256 * (256 * 0 + (P.getD (256 + 3) 0#8).toNat) + (P.getD (256 + 2) 0#8).toNat) (FU - 3) (by omega) (by omega)
      have s0 := step 0 (256 * (256 * (256 * 0 + (P.getD (256 + 3) 0#8).toNat) + (P.getD (256 + 2) 0#8).toNat) + (P.getD (256 + 1) 0#8).toNat) (FU - 4) (by omega) (by omega)
      rw [show FU - 1 + 1 = FU from rfl, show ((0 : Nat) : Int) = 0 from rfl, show ((3 : Nat) : Int) = 3 from rfl, show (3 : Int) - 1 = 2 from rfl] at s3
      rw [show FU - 2 + 1 = FU - 1 from rfl, show ((2 : Nat) : Int) = 2 from rfl, show (2 : Int) - 1 = 1 from rfl] at s2
      rw [show FU - 3 + 1 = FU - 2 from rfl, show ((1 : Nat) : Int) = 1 from rfl, show (1 : Int) - 1 = 0 from rfl] at s1
      rw [show FU - 4 + 1 = FU - 3 from rfl, show ((0 : Nat) : Int) = 0 from rfl, show (0 : Int) - 1 = -1 from rfl] at s0
      rw [s3, s2, s1, s0, show FU - 4 = (FU - 5) + 1 from rfl]
      unfold page_Get.l1
      rw [if_neg (by simp)]
      congr 2
      unfold num
      rw [show 256 + 0 = 256 from rfl, show 256 + 1 = 257 from rfl, show 256 + 2 = 258 from rfl, show 256 + 3 = 259 from rfl]
      omega
    rw [hl, Option.bind_some]
    by_cases h4 : num P ≥ 4096
    · rw [if_pos (by simp; omega), if_pos h4]
    · rw [if_neg (by simp; omega), if_neg h4]
      have hs := sub?_pre ((P.take 260).map ub) (b := 256) (by simp; omega)
      rw [show ((256 : Nat) : Int) = 256 from rfl] at hs
      rw [hs, Option.bind_some, ← List.map_take, List.take_take]; rfl
  · rw [if_neg h3, if_neg h3, if_pos (by simp)]
theorem xor_loop (l : Nat → List Int → Int → Option Unit) (n : Nat) (hn : n ≤ 100000) (h0 : ∀ k x i, l (k + 1) x i = if decide (i < (n : Int)) = true then ((at? x i).bind fun v => (set? x i (ixor .u8 v 255)).bind fun y => l k y (wi (i + 1))) else some ()) (x : List Int) (hx : x.length = n) : l FU x 0 = some () := by
  have key : ∀ (m k i : Nat) (x : List Int), n - i = m → m < k → x.length = n → l k x (i : Int) = some () := by
    intro m
    induction m with
    | zero => intro k i x hm hk hx; cases k with
      | zero => omega
      | succ k => rw [h0, if_neg (by simp; omega)]
    | succ m ih => intro k i x hm hk hx; cases k with
      | zero => omega
      | succ k =>
        have hi : i < x.length := by omega
        rw [h0, if_pos (by simp; omega), at?_nat, List.getElem?_eq_getElem hi, Option.bind_some, set?_nat _ hi, Option.bind_some, wi_eq (by omega) (by omega), show ((i : Int) + 1) = ((i + 1 : Nat) : Int) by omega]
        exact ih k (i + 1) _ (by omega) (by omega) (by simpa using hx)
  exact key n FU 0 x (by omega) (by show n < 4611686018427387904; omega) hx
theorem get_pg (n : Nat) (L : List (BitVec 8)) (hn : n < 4096) (hL : L.length ≤ 256) : getR (put (pg n L)) = ((n : Int), (body L).map ub, 0) := by
  have hp := pg_len n L hL
  have hl : (put (pg n L)).length = 264 := by rw [put_length, hp]
  have ht : (put (pg n L)).take 260 = pg n L := by
    unfold put; rw [List.take_append_of_le_length (by omega), List.take_of_length_le (by omega)]
  have hg : ∀ i, i < 4 → (put (pg n L)).getD (256 + i) 0#8 = byteAt n i := fun i hi => by
    have hb := body_len L hL
    unfold put pg
    rw [List.getD_eq_getElem?_getD, List.getElem?_append_left (by simp [hb]; omega), List.getElem?_append_right (by omega), hb, Nat.add_sub_cancel_left]
    have : i = 0 ∨ i = 1 ∨ i = 2 ∨ i = 3 := by omega
    rcases this with rfl | rfl | rfl | rfl <;> rfl
  have hnum : num (put (pg n L)) = n := by
    have g0 := hg 0 (by omega)
    have g1 := hg 1 (by omega)
    have g2 := hg 2 (by omega)
    have g3 := hg 3 (by omega)
    unfold num
    rw [show (256 : Nat) = 256 + 0 from rfl] at *
    show ((put (pg n L)).getD (256 + 0) 0#8).toNat + 256 * (((put (pg n L)).getD (256 + 1) 0#8).toNat + 256 * (((put (pg n L)).getD (256 + 2) 0#8).toNat + 256 * ((put (pg n L)).getD (256 + 3) 0#8).toNat)) = n
    rw [g0, g1, g2, g3, byte_nat, byte_nat, byte_nat, byte_nat]
    simp
    omega
  unfold getR
  rw [if_neg (by omega), if_neg (by omega), ht, if_pos rfl, hnum, if_neg (by omega)]
  congr 3
  have hb := body_len L hL
  unfold put pg
  rw [List.append_assoc, List.take_append_of_le_length (by omega), List.take_of_length_le (by omega)]
end Page
end Go.Proofs.Ytbcdcpkofgfofaa
