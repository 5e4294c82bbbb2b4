/-
  The plain laws of layer page: what Put and Get answer. No condition.
-/
import Derived.Test.YtdfoalfnpgeilaaPuPageA
namespace Go.Proofs.Ytdfoalfnpgeilaa
open Go Go.Gol
set_option linter.unusedVariables false
set_option linter.unusedSimpArgs false
set_option maxRecDepth 100000
namespace Page
open Crc
def byteAt (n i : Nat) : BitVec 8 := BitVec.ofNat 8 (n / 2 ^ (8 * i))
def body (L : List (BitVec 8)) : List (BitVec 8) := L ++ List.replicate (256 - L.length) 0#8
def pg (n : Nat) (L : List (BitVec 8)) : List (BitVec 8) := body L ++ [byteAt n 0, byteAt n 1, byteAt n 2, byteAt n 3]
theorem body_len (L : List (BitVec 8)) (h : L.length ≤ 256) : (body L).length = 256 := by simp [body]; omega
theorem byte_f (n i : Nat) (hi : i < 4) : IntKind.wrap .u8 (ishr .i64 (n : Int) (wi (8 * (i : Int)))) = ub (byteAt n i) := by
  rw [wi_eq (by omega) (by omega), show (8 * (i : Int)) = ((8 * i : Nat) : Int) by omega, ishr_nat .i64 n (8 * i) (by show 8 * i ≤ 64; omega), wrap_u8_eq, ub, byteAt, BitVec.toNat_ofNat]
  exact (Int.natCast_emod _ 256).symm
theorem set4 (X : List Int) (hX : X.length = 256) (T : List Int) (i : Nat) (hi : i < T.length) (v : Int) : (X ++ T).set (256 + i) v = X ++ T.set i v := by
  rw [List.set_append_right _ _ (by omega)]; congr 2; omega
theorem put_l1 (n : Nat) (l1 : List Int) (X : List Int) (hX : X.length = 256) (j : Nat) : ∀ (k : Nat) (T : List Int), j ≤ 4 → j < k → T.length = 4 → (∀ i, i < 4 - j → T[i]? = some (ub (byteAt n i))) →
    page_Put.l1 (n : Int) l1 k ((4 - j : Nat) : Int) (X ++ T) = some (X ++ [ub (byteAt n 0), ub (byteAt n 1), ub (byteAt n 2), ub (byteAt n 3)]) := by
  induction j with
  | zero =>
    intro k T _ hk hT h; cases k with
    | zero => omega
    | succ k =>
      unfold page_Put.l1; rw [if_neg (by simp)]
      have : T = [ub (byteAt n 0), ub (byteAt n 1), ub (byteAt n 2), ub (byteAt n 3)] := by
        apply List.ext_getElem?
        intro i
        by_cases hi : i < 4
        · rw [h i (by omega)]
          have : i = 0 ∨ i = 1 ∨ i = 2 ∨ i = 3 := by omega
          rcases this with rfl | rfl | rfl | rfl <;> rfl
        · rw [List.getElem?_eq_none (by omega), List.getElem?_eq_none (by simp; omega)]
      rw [this]
  | succ j ih =>
    intro k T hj hk hT h; cases k with
    | zero => omega
    | succ k =>
      unfold page_Put.l1
      generalize hi : 4 - (j + 1) = i at *
      have hi4 : i < 4 := by omega
      rw [if_pos (by simp; omega), chk?_eq (decide_eq_true (by rw [wi_eq (by omega) (by omega)]; omega)), Option.bind_some]
      have e1 : wi (256 + (i : Int)) = ((256 + i : Nat) : Int) := by rw [wi_eq (by omega) (by omega)]; omega
      have e2 : wi ((i : Int) + 1) = ((4 - j : Nat) : Int) := by rw [wi_eq (by omega) (by omega)]; omega
      rw [e1, e2, byte_f n i hi4, at?_nat, List.getElem?_eq_getElem (by simp; omega), Option.bind_some, set?_nat _ (by simp; omega), Option.bind_some, set4 X hX T i (by omega)]
      refine ih k _ (by omega) (by omega) (by simpa using hT) (fun q hq => ?_)
      rw [List.getElem?_set]
      by_cases hqi : i = q
      · rw [if_pos hqi, if_pos (by omega), hqi]
      · rw [if_neg hqi]; exact h q (by omega)
theorem put_page (n : Nat) (L : List (BitVec 8)) (hn : n < 4096) (hL : L.length ≤ 256) : page_Put.f (n : Int) (L.map ub) = some ((put (pg n L)).map ub, 0) := by
  unfold page_Put.f
  rw [if_neg (by simp), if_neg (by simp; omega), if_neg (by simp; omega)]
  have e : cpy (List.replicate 260 (0 : Int)) (L.map ub) = (body L).map ub ++ [0, 0, 0, 0] := by
    unfold cpy body
    simp only [List.length_map, List.length_replicate, List.map_append, List.map_replicate]
    rw [Nat.min_eq_left (by omega), List.take_of_length_le (by simp), List.drop_replicate, List.append_assoc]
    congr 1
    rw [show 260 - L.length = (256 - L.length) + 4 by omega, ← List.replicate_append_replicate]; rfl
  have h := put_l1 n (L.map ub) ((body L).map ub) (by simpa using body_len L hL) 4 FU [0, 0, 0, 0] (by omega) (by decide) rfl (fun i hi => by omega)
  rw [show ((4 - 4 : Nat) : Int) = 0 from rfl] at h
  rw [e, h, Option.bind_some]
  have e2 : (body L).map ub ++ [ub (byteAt n 0), ub (byteAt n 1), ub (byteAt n 2), ub (byteAt n 3)] = (pg n L).map ub := by simp [pg]
  rw [e2, put_f _ (by simp [pg, body_len L hL]), Option.bind_some]
end Page
end Go.Proofs.Ytdfoalfnpgeilaa
