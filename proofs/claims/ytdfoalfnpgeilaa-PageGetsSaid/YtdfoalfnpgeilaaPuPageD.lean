/-
  The plain laws of layer page: pages as bytes and back, which bytes are pages, turned rows. No condition.
-/
import Derived.Test.YtdfoalfnpgeilaaPuPageC
import Derived.Test.YtdfoalfnpgeilaaGPageRows
namespace Go.Proofs.Ytdfoalfnpgeilaa
open Go Go.Gol
set_option linter.unusedVariables false
set_option linter.unusedSimpArgs false
set_option maxRecDepth 100000
namespace Page
open Crc
/-- the number of a page, of its bytes -/
def num (P : List (BitVec 8)) : Nat := (P.getD 256 0#8).toNat + 256 * ((P.getD 257 0#8).toNat + 256 * ((P.getD 258 0#8).toNat + 256 * (P.getD 259 0#8).toNat))
/-- what bytes are as a page -/
def getR (P : List (BitVec 8)) : Int × List Int × Int :=
  if P.length < 264 then (0, [], 50) else if P.length > 264 then (0, [], 51) else if put (P.take 260) = P then (if num P ≥ 4096 then (0, [], 10) else ((num P : Int), (P.take 256).map ub, 0)) else (0, [], 40)
theorem or64 (x v : Nat) (hx : x < 16777216) (hv : v < 256) : ior .i64 (ishl .i64 (x : Int) 8) (v : Int) = ((256 * x + v : Nat) : Int) := by
  have e1 : ishl .i64 (x : Int) 8 = ((256 * x : Nat) : Int) := by
    unfold ishl
    rw [show (min (8 : Int).toNat (IntKind.bits .i64)) = 8 from rfl, show ((2 : Int) ^ 8) = 256 from rfl]
    show wi _ = _
    rw [wi_eq (by omega) (by omega)]; omega
  rw [e1]
  show IntKind.wrap .i64 ((BitVec.ofInt 64 _ ||| BitVec.ofInt 64 _ : BitVec 64).toNat : Int) = _
  have e : ∀ z : Nat, z < 9223372036854775808 → BitVec.ofInt 64 (z : Int) = BitVec.ofNat 64 z := fun z hz => by apply BitVec.eq_of_toNat_eq; simp
  rw [e _ (by omega), e _ (by omega), BitVec.toNat_or]
  simp only [BitVec.toNat_ofNat]
  rw [Nat.mod_eq_of_lt (by omega), Nat.mod_eq_of_lt (by omega), show 256 * x = 2 ^ 8 * x from rfl, ← Nat.two_pow_add_eq_or_of_lt (by show v < 256; omega), show (2 : Nat) ^ 8 * x = 256 * x from rfl]
  exact wi_eq (by omega) (by omega)
theorem atu {P : List (BitVec 8)} {i : Nat} (h : i < P.length) : at? (P.map ub) (i : Int) = some ((P.getD i 0#8).toNat : Int) := by
  rw [at?_nat, List.getElem?_map, List.getElem?_eq_getElem h, List.getD_eq_getElem?_getD, List.getElem?_eq_getElem h]; rfl
theorem get_f (P : List (BitVec 8)) (hP : P.length ≤ 10000) : page_Get.f (P.map ub) = some (getR P) := by
  unfold page_Get.f getR
  by_cases h1 : P.length < 264
  · rw [if_pos (by simp; omega), if_pos h1]
  rw [if_neg (by simp; omega), if_neg h1]
  by_cases h2 : P.length > 264
  · rw [if_pos (by simp; omega), if_pos h2]
  rw [if_neg (by simp; omega), if_neg h2, cut_f P (by omega), if_neg (by omega), show P.length - 4 = 260 by omega, Option.bind_some]
  by_cases h3 : put (P.take 260) = P
  · rw [if_pos h3, if_pos h3, if_neg (by simp)]
    simp only []
    have step : ∀ (i x : Nat) (k : Nat), i < 4 → x < 16777216 → page_Get.l1 ((P.take 260).map ub, 0) (k + 1) (x : Int) (i : Int) = page_Get.l1 ((P.take 260).map ub, 0) k ((256 * x + (P.getD (256 + i) 0#8).toNat : Nat) : Int) ((i : Int) - 1) := fun i x k hi hx => by
      have hv := (P.getD (256 + i) 0#8).isLt
      conv => lhs; unfold page_Get.l1
      have e : at? ((P.take 260).map ub) (((256 + i : Nat)) : Int) = some ((P.getD (256 + i) 0#8).toNat : Int) := by
        rw [atu (by simp; omega)]
        congr 3
        simp only [List.getD_eq_getElem?_getD, List.getElem?_take]
        rw [if_pos (by omega)]
      rw [if_pos (by simp), wi_eq (n := 256 + (i : Int)) (by omega) (by omega), show (256 + (i : Int)) = ((256 + i : Nat) : Int) by omega]
      simp only []
      rw [e, Option.bind_some, wi_eq (n := ((P.getD (256 + i) 0#8).toNat : Int)) (by omega) (by omega), or64 x _ hx (by omega), wi_eq (by omega) (by omega)]
    have v3 := (P.getD 259 0#8).isLt
    have v2 := (P.getD 258 0#8).isLt
    have v1 := (P.getD 257 0#8).isLt
    have v0 := (P.getD 256 0#8).isLt
    have hl : page_Get.l1 ((P.take 260).map ub, 0) FU 0 3 = some (num P : Int) := by
      have s3 := step 3 0 (FU - 1) (by omega) (by omega)
      have s2 := step 2 (256 * 0 + (P.getD (256 + 3) 0#8).toNat) (FU - 2) (by omega) (by omega)
      have s1 := step 1 (256 * (256 * 0 + (P.getD (256 + 3) 0#8).toNat) + (P.getD (256 + 2) 0#8).toNat) (FU - 3) (by omega) (by omega)
      have s0 := step 0 (256 * (256 * (256 * 0 + (P.getD (256 + 3) 0#8).toNat) + (P.getD (256 + 2) 0#8).toNat) + (P.getD (256 + 1) 0#8).toNat) (FU - 4) (by omega) (by omega)
      rw [show FU - 1 + 1 = FU from rfl, show ((0 : Nat) : Int) = 0 from rfl, show ((3 : Nat) : Int) = 3 from rfl, show (3 : Int) - 1 = 2 from rfl] at s3
      rw [show FU - 2 + 1 = FU - 1 from rfl, show ((2 : Nat) : Int) = 2 from rfl, show (2 : Int) - 1 = 1 from rfl] at s2
      rw [show FU - 3 + 1 = FU - 2 from rfl, show ((1 : Nat) : Int) = 1 from rfl, show (1 : Int) - 1 = 0 from rfl] at s1
      rw [show FU - 4 + 1 = FU - 3 from rfl, show ((0 : Nat) : Int) = 0 from rfl, show (0 : Int) - 1 = -1 from rfl] at s0
      rw [s3, s2, s1, s0, show FU - 4 = (FU - 5) + 1 from rfl]
      unfold page_Get.l1
      rw [if_neg (by simp)]
      congr 2
      unfold num
      rw [show 256 + 0 = 256 from rfl, show 256 + 1 = 257 from rfl, show 256 + 2 = 258 from rfl, show 256 + 3 = 259 from rfl]
      omega
    rw [hl, Option.bind_some]
    by_cases h4 : num P ≥ 4096
    · rw [if_pos (by simp; omega), if_pos h4]
    · rw [if_neg (by simp; omega), if_neg h4]
      have hs := sub?_pre ((P.take 260).map ub) (b := 256) (by simp; omega)
      rw [show ((256 : Nat) : Int) = 256 from rfl] at hs
      rw [hs, Option.bind_some, ← List.map_take, List.take_take]; rfl
  · rw [if_neg h3, if_neg h3, if_pos (by simp)]
theorem refget_f (P : List (BitVec 8)) (hP : P.length ≤ 10000) : colophonref05_Get.f (P.map ub) = some (getR P) := by
  unfold colophonref05_Get.f getR
  by_cases h1 : P.length < 264
  · rw [if_pos (by simp; omega), if_pos h1]
  rw [if_neg (by simp; omega), if_neg h1]
  by_cases h2 : P.length > 264
  · rw [if_pos (by simp; omega), if_pos h2]
  have hs := sub?_pre (P.map ub) (b := 260) (by simp; omega)
  have hs2 := sub?_pre (P.map ub) (b := 256) (by simp; omega)
  rw [show ((260 : Nat) : Int) = 260 from rfl] at hs
  rw [show ((256 : Nat) : Int) = 256 from rfl] at hs2
  rw [if_neg (by simp; omega), if_neg h2, hs, Option.bind_some, ← List.map_take, ref_put _ (by simp; omega), Option.bind_some, bs_beq]
  by_cases h3 : put (P.take 260) = P
  · rw [if_pos h3, if_neg (by simp [h3])]
    have v3 := (P.getD 259 0#8).isLt
    have v2 := (P.getD 258 0#8).isLt
    have v1 := (P.getD 257 0#8).isLt
    have v0 := (P.getD 256 0#8).isLt
    have a0 := atu (P := P) (i := 256) (by omega)
    have a1 := atu (P := P) (i := 257) (by omega)
    have a2 := atu (P := P) (i := 258) (by omega)
    have a3 := atu (P := P) (i := 259) (by omega)
    rw [show ((256 : Nat) : Int) = 256 from rfl] at a0
    rw [show ((257 : Nat) : Int) = 257 from rfl] at a1
    rw [show ((258 : Nat) : Int) = 258 from rfl] at a2
    rw [show ((259 : Nat) : Int) = 259 from rfl] at a3
    have hnum : num P = (P.getD 256 0#8).toNat + 256 * ((P.getD 257 0#8).toNat + 256 * ((P.getD 258 0#8).toNat + 256 * (P.getD 259 0#8).toNat)) := rfl
    rw [a0, a1, a2, a3]
    generalize (P.getD 256 0#8).toNat = b0 at *
    generalize (P.getD 257 0#8).toNat = b1 at *
    generalize (P.getD 258 0#8).toNat = b2 at *
    generalize (P.getD 259 0#8).toNat = b3 at *
    simp only [Option.bind_some]
    by_cases c1 : b1 > 15
    · rw [if_pos (by simp; omega), if_pos (by omega)]
    rw [if_neg (by simp; omega)]
    by_cases c2 : b2 > 0
    · rw [if_pos (by simp; omega), if_pos (by omega)]
    rw [if_neg (by simp; omega)]
    by_cases c3 : b3 > 0
    · rw [if_pos (by simp; omega), if_pos (by omega)]
    rw [if_neg (by simp; omega), if_neg (by omega), hs2, Option.bind_some, ← List.map_take, wi_eq (n := (b0 : Int)) (by omega) (by omega), wi_eq (n := (b1 : Int)) (by omega) (by omega), wi_eq (n := 256 * (b1 : Int)) (by omega) (by omega), wi_eq (by omega) (by omega)]
    congr 2; omega
  · rw [if_neg h3, if_pos (by simp [h3])]
theorem xor_loop (l : Nat → List Int → Int → Option Unit) (n : Nat) (hn : n ≤ 100000) (h0 : ∀ k x i, l (k + 1) x i = if decide (i < (n : Int)) = true then ((at? x i).bind fun v => (set? x i (ixor .u8 v 255)).bind fun y => l k y (wi (i + 1))) else some ()) (x : List Int) (hx : x.length = n) : l FU x 0 = some () := by
  have key : ∀ (m k i : Nat) (x : List Int), n - i = m → m < k → x.length = n → l k x (i : Int) = some () := by
    intro m
    induction m with
    | zero => intro k i x hm hk hx; cases k with
      | zero => omega
      | succ k => rw [h0, if_neg (by simp; omega)]
    | succ m ih => intro k i x hm hk hx; cases k with
      | zero => omega
      | succ k =>
        have hi : i < x.length := by omega
        rw [h0, if_pos (by simp; omega), at?_nat, List.getElem?_eq_getElem hi, Option.bind_some, set?_nat _ hi, Option.bind_some, wi_eq (by omega) (by omega), show ((i : Int) + 1) = ((i + 1 : Nat) : Int) by omega]
        exact ih k (i + 1) _ (by omega) (by omega) (by simpa using hx)
  exact key n FU 0 x (by omega) (by show n < 4611686018427387904; omega) hx
end Page
open Crc Page
theorem pure_PageGets (l0 : List Int) (F0 : Fits (.slice 5 (.int .u8)) l0) (a1 : Bool) (F1 : Fits .bool a1) : colophonlaw05_PageGets.f l0 a1 = some true := by
  obtain ⟨L, rfl⟩ := bytes_ex F0
  unfold colophonlaw05_PageGets.f
  rw [page_first, Option.bind_some, if_neg (by simp)]
  by_cases h : L.length > 2000
  · rw [if_pos (by simp; omega)]
  rw [if_neg (by simp; omega), app?_eq (by simp; omega), Option.bind_some, List.nil_append]
  have fin : ∀ P : List (BitVec 8), P.length ≤ 10000 → (∀ l : List Int → Option Unit, l (P.map ub) = some () → ((app? 140737488355328 ([] : List Int) (P.map ub)).bind fun y => (page_Get.f y).bind fun r => (l y).bind fun _ => (colophonref05_Get.f (P.map ub)).bind fun r' => (if (r.2.2 == r'.2.2) = true then (if (r.1 == r'.1) = true then some ((bs r.2.1).toList == (bs r'.2.1).toList) else some false) else some false)) = some true) := fun P hP l hl => by
    rw [app?_eq (by simp; omega), Option.bind_some, List.nil_append, get_f P hP, Option.bind_some, hl, Option.bind_some, refget_f P hP, Option.bind_some]; simp
  cases a1 with
  | true =>
    rw [if_pos rfl]
    by_cases h2 : L.length ≥ 260
    · have hs := sub?_pre (L.map ub) (b := 260) (by simp; omega)
      rw [show ((260 : Nat) : Int) = 260 from rfl] at hs
      rw [if_pos (by simp; omega), hs, Option.bind_some, ← List.map_take, ref_put _ (by simp; omega), Option.bind_some]
      have hpl := put_length (L.take 260)
      have htl : (L.take 260).length = 260 := by simp; omega
      have hp : (put (L.take 260)).length ≤ 10000 := by omega
      exact fin (put (L.take 260)) hp (fun y => colophonlaw05_PageGets.l1 y FU y 0) (xor_loop _ ((put (L.take 260)).map ub).length (by simp; omega) (fun k x i => rfl) _ rfl)
    · rw [if_neg (by simp; omega)]
      exact fin L (by omega) (fun y => colophonlaw05_PageGets.l2 y FU y 0) (xor_loop _ (L.map ub).length (by simp; omega) (fun k x i => rfl) _ rfl)
  | false =>
    rw [if_neg (by simp)]
    exact fin L (by omega) (fun y => colophonlaw05_PageGets.l3 y FU y 0) (xor_loop _ (L.map ub).length (by simp; omega) (fun k x i => rfl) _ rfl)
namespace Page
open Crc
theorem refput_all (a : Int) (L : List (BitVec 8)) (hL : L.length ≤ 2000) : colophonref05_Put.f a (L.map ub) = some (if a < 0 ∨ 4096 ≤ a then ([], 2) else if 256 < L.length then ([], 80) else ((put (pg a.toNat L)).map ub, 0)) := by
  unfold colophonref05_Put.f
  by_cases h : a < 0
  · rw [if_pos (by simpa using h), if_pos (.inl h)]
  rw [if_neg (by simpa using h)]
  by_cases h1 : a > 4095
  · rw [if_pos (by simpa using h1), if_pos (by omega)]
  rw [if_neg (by simpa using h1), if_neg (show ¬ (a < 0 ∨ 4096 ≤ a) by omega)]
  by_cases h2 : 256 < L.length
  · rw [if_pos h2, if_pos (by simp; omega)]
  rw [if_neg h2, if_neg (by simp; omega), app?_eq (by simp; omega), Option.bind_some, List.nil_append]
  have key : ∀ (m k : Nat) (x : List (BitVec 8)), 256 - x.length = m → m < k → x.length ≤ 256 → colophonref05_Put.l1 (L.map ub) k (x.map ub) = some ((x ++ List.replicate (256 - x.length) 0#8).map ub) := by
    intro m
    induction m with
    | zero => intro k x hm hk hx; cases k with
      | zero => omega
      | succ k => unfold colophonref05_Put.l1; rw [if_neg (by simp; omega), hm]; simp
    | succ m ih => intro k x hm hk hx; cases k with
      | zero => omega
      | succ k =>
        unfold colophonref05_Put.l1
        rw [if_pos (by simp; omega), app?_eq (by simp; omega), Option.bind_some]
        have := ih k (x ++ [0#8]) (by simp; omega) (by omega) (by simp; omega)
        rw [List.map_append] at this
        rw [show ([0] : List Int) = [0#8].map ub from rfl, this]
        congr 2
        rw [List.length_append, List.length_singleton, show 256 - x.length = (256 - (x.length + 1)) + 1 by omega, List.replicate_succ, List.append_assoc]; rfl
  rw [key (256 - L.length) FU L rfl (by show 256 - L.length < 4611686018427387904; omega) (by omega), Option.bind_some, app?_eq (by simp; omega), Option.bind_some]
  obtain ⟨n, rfl⟩ : ∃ n : Nat, a = (n : Int) := ⟨a.toNat, by omega⟩
  have e0 : IntKind.wrap .u8 (Int.tmod (n : Int) 256) = ub (byteAt n 0) := by
    rw [wrap_u8_eq, Int.tmod_eq_emod_of_nonneg (by omega), ub, byte_nat]; simp
  have e1 : IntKind.wrap .u8 (wi (Int.tdiv (n : Int) 256)) = ub (byteAt n 1) := by
    rw [wrap_u8_eq, Int.tdiv_eq_ediv_of_nonneg (by omega), wi_eq (by omega) (by omega), ub, byte_nat]; simp
  have e2 : (0 : Int) = ub (byteAt n 2) := by
    rw [ub, byte_nat, show n / 2 ^ (8 * 2) = 0 from Nat.div_eq_of_lt (by show n < 65536; omega)]; rfl
  have e3 : (0 : Int) = ub (byteAt n 3) := by
    rw [ub, byte_nat, show n / 2 ^ (8 * 3) = 0 from Nat.div_eq_of_lt (by show n < 16777216; omega)]; rfl
  have e4 : ([IntKind.wrap .u8 (Int.tmod (n : Int) 256), IntKind.wrap .u8 (wi (Int.tdiv (n : Int) 256)), 0, 0] : List Int) = [byteAt n 0, byteAt n 1, byteAt n 2, byteAt n 3].map ub := by
    rw [e0, e1]
    show _ = [ub (byteAt n 0), ub (byteAt n 1), ub (byteAt n 2), ub (byteAt n 3)]
    rw [← e2, ← e3]
  rw [e4, ← List.map_append, ref_put _ (by simp; omega), Option.bind_some]; rfl
theorem get_pg (n : Nat) (L : List (BitVec 8)) (hn : n < 4096) (hL : L.length ≤ 256) : getR (put (pg n L)) = ((n : Int), (body L).map ub, 0) := by
  have hp := pg_len n L hL
  have hl : (put (pg n L)).length = 264 := by rw [put_length, hp]
  have ht : (put (pg n L)).take 260 = pg n L := by
    unfold put; rw [List.take_append_of_le_length (by omega), List.take_of_length_le (by omega)]
  have hg : ∀ i, i < 4 → (put (pg n L)).getD (256 + i) 0#8 = byteAt n i := fun i hi => by
    have hb := body_len L hL
    unfold put pg
    rw [List.getD_eq_getElem?_getD, List.getElem?_append_left (by simp [hb]; omega), List.getElem?_append_right (by omega), hb, Nat.add_sub_cancel_left]
    have : i = 0 ∨ i = 1 ∨ i = 2 ∨ i = 3 := by omega
    rcases this with rfl | rfl | rfl | rfl <;> rfl
  have hnum : num (put (pg n L)) = n := by
    have g0 := hg 0 (by omega)
    have g1 := hg 1 (by omega)
    have g2 := hg 2 (by omega)
    have g3 := hg 3 (by omega)
    unfold num
    rw [show (256 : Nat) = 256 + 0 from rfl] at *
    show ((put (pg n L)).getD (256 + 0) 0#8).toNat + 256 * (((put (pg n L)).getD (256 + 1) 0#8).toNat + 256 * (((put (pg n L)).getD (256 + 2) 0#8).toNat + 256 * ((put (pg n L)).getD (256 + 3) 0#8).toNat)) = n
    rw [g0, g1, g2, g3, byte_nat, byte_nat, byte_nat, byte_nat]
    simp
    omega
  unfold getR
  rw [if_neg (by omega), if_neg (by omega), ht, if_pos rfl, hnum, if_neg (by omega)]
  congr 3
  have hb := body_len L hL
  unfold put pg
  rw [List.append_assoc, List.take_append_of_le_length (by omega), List.take_of_length_le (by omega)]
end Page
open Crc Page
theorem pure_PagePuts (a0 : Int) (F0 : Fits (.int .i64) a0) (l1 : List Int) (F1 : Fits (.slice 5 (.int .u8)) l1) : colophonlaw05_PagePuts.f a0 l1 = some true := by
  obtain ⟨L, rfl⟩ := bytes_ex F1
  unfold colophonlaw05_PagePuts.f
  rw [page_first, Option.bind_some, if_neg (by simp)]
  by_cases h : L.length > 2000
  · rw [if_pos (by simp; omega)]
  rw [if_neg (by simp; omega), app?_eq (by simp; omega), Option.bind_some, List.nil_append, put_all, Option.bind_some, refput_all a0 L (by omega), Option.bind_some, if_neg (by simp), if_neg (by simp), if_neg (by simp)]
  by_cases h0 : a0 < 0 ∨ 4096 ≤ a0
  · simp only [if_pos h0]; rfl
  simp only [if_neg h0]
  by_cases h2 : 256 < L.length
  · simp only [if_pos h2]; rfl
  simp only [if_neg h2]
  have hb := body_len L (by omega)
  rw [if_neg (by simp), get_f _ (by rw [put_length, pg_len _ _ (by omega)]; omega), Option.bind_some, get_pg a0.toNat L (by omega) (by omega)]
  simp only []
  rw [if_neg (by simp), if_neg (by rw [bne_iff_ne]; omega), if_neg (by simp [hb]), List.length_map, sub?_pre _ (by simp; omega), Option.bind_some, ← List.map_take]
  have et : (body L).take L.length = L := by unfold body; rw [List.take_left]
  rw [et, if_neg (by simp), List.length_map, sub?_nat _ (by omega) (by simp), Option.bind_some]
  have ed : (((body L).map ub).take (body L).length).drop L.length = List.replicate (256 - L.length) 0 := by
    rw [List.take_of_length_le (by simp), ← List.map_drop]
    unfold body
    rw [List.drop_left, List.map_replicate]; rfl
  rw [ed]
  have key : ∀ (m k i : Nat), (256 - L.length) - i = m → m < k → colophonlaw05_PagePuts.l1 (L.map ub) (List.replicate (256 - L.length) 0) k (i : Int) = some (.inr ()) := by
    intro m
    induction m with
    | zero => intro k i hm hk; cases k with
      | zero => omega
      | succ k => unfold colophonlaw05_PagePuts.l1; rw [if_neg (by simp; omega)]
    | succ m ih => intro k i hm hk; cases k with
      | zero => omega
      | succ k =>
        unfold colophonlaw05_PagePuts.l1
        rw [if_pos (by simp; omega), at?_nat, List.getElem?_replicate, if_pos (by omega), Option.bind_some, if_neg (by simp), wi_eq (by omega) (by omega), show ((i : Int) + 1) = ((i + 1 : Nat) : Int) by omega]
        exact ih k (i + 1) (by omega) (by omega)
  have := key (256 - L.length) FU 0 (by omega) (by show 256 - L.length < 4611686018427387904; omega)
  rw [show ((0 : Nat) : Int) = 0 from rfl] at this
  rw [this]; rfl
theorem pure_PageRows (a0 : Int) (F0 : Fits (.int .i64) a0) (l1 : List Int) (F1 : Fits (.slice 5 (.int .u8)) l1) (a2_0 : Int) (F2_0 : Fits (.int .u32) a2_0) (a2_1 : Int) (F2_1 : Fits (.int .u32) a2_1) : colophonlaw05_PageRows.f a0 l1 a2_0 a2_1 = some true := by
  obtain ⟨L, rfl⟩ := bytes_ex F1
  unfold colophonlaw05_PageRows.f
  rw [page_first, Option.bind_some, if_neg (by simp), put_all, Option.bind_some]
  by_cases h0 : a0 < 0 ∨ 4096 ≤ a0
  · simp [if_pos h0]
  simp only [if_neg h0]
  by_cases hL : 256 < L.length
  · simp [if_pos hL]
  simp only [if_neg hL]
  rw [if_neg (by simp)]
  by_cases h2 : a2_1 = 0
  · rw [if_pos (by simpa using h2)]; rfl
  rw [if_neg (by simpa using h2)]
  have hxl := pg_len a0.toNat L (by omega)
  generalize pg a0.toNat L = x at *
  have hpl := put_length x
  obtain ⟨q, hq, hql⟩ : ∃ k : Nat, wi (Int.tmod a2_0 2081) = (k : Int) ∧ k + 32 ≤ 8 * (x.length + 4) := by
    have h1 := fits_u32 F2_0
    refine ⟨(a2_0 % 2081).toNat, ?_, by omega⟩
    rw [Int.tmod_eq_emod_of_nonneg h1.1, wi_eq (by omega) (by omega)]; omega
  obtain ⟨w, rfl⟩ : ∃ w : B32, a2_1 = (w.toNat : Int) := ⟨BitVec.ofInt 32 a2_1, by have := fits_u32 F2_1; simp; omega⟩
  have hw0 : w ≠ 0#32 := fun h => h2 (by rw [h]; rfl)
  have key : ∀ (j : Nat) (k : Nat) (y : List (BitVec 8)), j ≤ 32 → j < k → y.length = (put x).length →
      reg ones y = reg ones (put x) ^^^ steps (8 * (put x).length - q) ((w.setWidth (32 - j)).setWidth 32) →
      ∃ z : List (BitVec 8), colophonlaw05_PageRows.l1 (L.map ub) a2_0 (w.toNat : Int) k (y.map ub) ((32 - j : Nat) : Int) = some (z.map ub) ∧ z.length = (put x).length ∧ reg ones z = reg ones (put x) ^^^ steps (8 * (put x).length - q) w := by
    intro j
    induction j with
    | zero =>
      intro k y _ hk hy hr; cases k with
      | zero => omega
      | succ k =>
        refine ⟨y, ?_, hy, ?_⟩
        · unfold colophonlaw05_PageRows.l1; rw [if_neg (by simp)]
        · rw [hr]; congr 2
    | succ j ih =>
      intro k y hj hk hy hr; cases k with
      | zero => omega
      | succ k =>
        unfold colophonlaw05_PageRows.l1
        rw [hq, if_pos (by simp; omega)]
        have e1 : IntKind.wrap .u64 ((32 - (j + 1) : Nat) : Int) = ((32 - (j + 1) : Nat) : Int) := by rw [wrap_u64_eq]; omega
        have e2 : wi (((32 - (j + 1) : Nat) : Int) + 1) = ((32 - j : Nat) : Int) := by rw [wi_eq (by omega) (by omega)]; omega
        have e3 : wi ((q : Int) + ((32 - (j + 1) : Nat) : Int)) = ((q + (32 - (j + 1)) : Nat) : Int) := by rw [wi_eq (by omega) (by omega)]; omega
        rw [e1, e2, e3]
        generalize hi : 32 - (j + 1) = i
        have hi32 : i < 32 := by omega
        have hij : 32 - j = i + 1 := by omega
        rw [hi] at hr
        rw [un_shr (w := 32) .u32 rfl w i (by omega)]
        have hb : (iand .u32 ((w >>> i).toNat : Int) 1 == 1) = w.getLsbD i := by
          rw [show (1 : Int) = ((1#32).toNat : Int) from rfl, un_and32]
          have : ((w >>> i) &&& 1#32).toNat = (w >>> i).toNat % 2 := by rw [BitVec.toNat_and]; exact Nat.and_one_is_mod _
          rw [this]
          have : w.getLsbD i = (w >>> i).toNat.testBit 0 := by
            show _ = (w >>> i).getLsbD 0
            rw [BitVec.getLsbD_ushiftRight]; simp
          rw [this, Nat.testBit_zero]; generalize (w >>> i).toNat = t; rw [Bool.eq_iff_iff]; simp; omega
        rw [hb]
        have hset : (w.setWidth (i + 1)).setWidth 32 = (w.setWidth i).setWidth 32 ^^^ (if w.getLsbD i then 1#32 <<< i else 0#32) := by
          apply BitVec.eq_of_getLsbD_eq
          intro m hm
          simp only [BitVec.getLsbD_xor, BitVec.getLsbD_setWidth, hm, decide_true, Bool.true_and]
          by_cases hmi : m = i
          · subst hmi; cases hwm : w.getLsbD m <;> simp [hm]
          · have : (if w.getLsbD i = true then 1#32 <<< i else 0#32).getLsbD m = false := by
              split
              · simp only [BitVec.getLsbD_shiftLeft, BitVec.getLsbD_one]
                by_cases h : m < i
                · simp [h]
                · simp [h]; omega
              · simp
            rw [this]
            by_cases h : m < i
            · simp [h, show m < i + 1 by omega]
            · simp [h, show ¬ m < i + 1 by omega]
        cases hwb : w.getLsbD i with
        | false =>
          rw [if_neg (by simp)]
          rw [hwb] at hset
          have := ih k y (by omega) (by omega) hy (by rw [hij, hset, hr]; simp)
          rw [hij] at this ⊢; exact this
        | true =>
          rw [if_pos rfl]
          rw [hwb] at hset
          have e4 : wi (Int.tdiv ((q + i : Nat) : Int) 8) = (((q + i) / 8 : Nat) : Int) := by rw [Int.tdiv_eq_ediv_of_nonneg (by omega), wi_eq (by omega) (by omega)]; omega
          have e5 : IntKind.wrap .u64 (Int.tmod ((q + i : Nat) : Int) 8) = (((q + i) % 8 : Nat) : Int) := by rw [Int.tmod_eq_emod_of_nonneg (by omega), wrap_u64_eq]; omega
          have hlt : (q + i) / 8 < y.length := by omega
          rw [e4, e5, at?_nat, List.getElem?_map, List.getElem?_eq_getElem hlt]
          simp only [Option.map_some, Option.bind_some]
          have e6 : ishl .u8 1 (((q + i) % 8 : Nat) : Int) = ((1#8 <<< ((q + i) % 8)).toNat : Int) := by
            have : (q + i) % 8 < 8 := by omega
            have hall : ∀ m : Fin 8, ishl .u8 1 ((m.val : Nat) : Int) = ((1#8 <<< m.val).toNat : Int) := by decide +kernel
            exact hall ⟨(q + i) % 8, this⟩
          rw [e6, show ub y[(q + i) / 8] = ((y[(q + i) / 8]).toNat : Int) from rfl, un_xor8, set?_nat _ (by simpa using hlt), Option.bind_some]
          have e7 : (y.map ub).set ((q + i) / 8) (((y[(q + i) / 8] ^^^ (1#8 <<< ((q + i) % 8))).toNat : Nat) : Int) = (y.set ((q + i) / 8) (y[(q + i) / 8] ^^^ (1#8 <<< ((q + i) % 8)))).map ub := by
            rw [List.map_set]
          rw [e7]
          have := ih k (y.set ((q + i) / 8) (y[(q + i) / 8] ^^^ (1#8 <<< ((q + i) % 8)))) (by omega) (by omega) (by simpa using hy) (by
            rw [reg_flip y ones _ _ hlt (by omega), hr, hij, hset, if_pos rfl, steps_xor, BitVec.xor_assoc]
            congr 2
            rw [show 8 * (put x).length - q = i + (8 * y.length - (8 * ((q + i) / 8) + (q + i) % 8)) by omega, steps_add, steps_even i _ (fun m hm => by simp [BitVec.getLsbD_shiftLeft, hm])]
            congr 1
            apply BitVec.eq_of_getLsbD_eq
            intro m hm
            simp only [BitVec.getLsbD_ushiftRight, BitVec.getLsbD_shiftLeft, BitVec.getLsbD_one]
            by_cases h0 : m = 0
            · subst h0; simp [hi32]
            · simp [h0])
          rw [hij] at this ⊢; exact this
  obtain ⟨z, hz, hzl, hzr⟩ := key 32 FU (put x) (by omega) (by decide) rfl (by
    have : ((w.setWidth (32 - 32)).setWidth 32) = 0#32 := by apply BitVec.eq_of_getLsbD_eq; intro i hi; simp
    have h0 : ∀ n, steps n 0#32 = 0#32 := by
      intro n; have := steps_xor n 0#32 0#32
      simpa using this
    rw [this, h0]; simp)
  rw [show ((32 - 32 : Nat) : Int) = 0 from rfl] at hz
  have hne : ¬ put (z.take (z.length - 4)) = z := by
    intro he
    have h1 := reg_put (z.take (z.length - 4))
    rw [he, hzr, reg_put] at h1
    have h3 : steps (8 * (put x).length - q) w = 0#32 := by
      have := congrArg (fun t => steps 32 ones ^^^ t) h1
      simpa [xself] using this
    exact hw0 (steps_zero h3)
  have hget : page_Get.f (z.map ub) = some (0, [], 40) := by
    rw [get_f z (by omega)]
    unfold getR
    rw [if_neg (by omega), if_neg (by omega), if_neg (by rw [show z.length - 4 = 260 by omega] at hne; exact hne)]
  rw [hz, Option.bind_some, hget]; rfl
end Go.Proofs.Ytdfoalfnpgeilaa
