/-
  The plain laws of layer crc: the printed functions are a shift register over bits, which is linear and can be turned back. No condition.
-/
import Derived.Test.YtbcdcpkofgfofaaGP1c
import Derived.Test.YtbcdcpkofgfofaaGI
namespace Go.Proofs.Ytbcdcpkofgfofaa
open Go Go.Gol
set_option linter.unusedVariables false
set_option linter.unusedSimpArgs false
namespace Crc
abbrev B32 := BitVec 32
def poly : B32 := 3988292384#32
def step (r : B32) : B32 := (r >>> 1) ^^^ (if r.getLsbD 0 then poly else 0#32)
def steps : Nat → B32 → B32
  | 0, r => r
  | n + 1, r => steps n (step r)
def nxt (r : B32) (b : BitVec 8) : B32 := steps 8 (r ^^^ b.setWidth 32)
def reg (r : B32) (L : List (BitVec 8)) : B32 := L.foldl nxt r
theorem reg_append (r : B32) (a b : List (BitVec 8)) : reg r (a ++ b) = reg (reg r a) b := List.foldl_append
def le (w : B32) : List (BitVec 8) := [w.setWidth 8, (w >>> 8).setWidth 8, (w >>> 16).setWidth 8, (w >>> 24).setWidth 8]
abbrev ones : B32 := BitVec.allOnes 32
def sum (L : List (BitVec 8)) : B32 := ~~~ reg ones L
def put (L : List (BitVec 8)) : List (BitVec 8) := L ++ le (sum L)
/-! ### the printed functions -/
theorem next_l1 (j : Nat) : ∀ (k : Nat) (r : B32), j ≤ 8 → j < k → crc_next.l1 k (r.toNat : Int) ((8 - j : Nat) : Int) = some ((steps j r).toNat : Int) := by
  induction j with
  | zero => intro k r _ hk; cases k with | zero => omega | succ k => simp [crc_next.l1, steps]
  | succ j ih =>
    intro k r hj hk
    cases k with
    | zero => omega
    | succ k =>
      unfold crc_next.l1
      rw [if_pos (by simp; omega)]
      have hw : wi (((8 - (j + 1) : Nat) : Int) + 1) = ((8 - j : Nat) : Int) := by rw [wi_eq (by omega) (by omega)]; omega
      have h1 : (1 : Int) = ((1#32).toNat : Int) := rfl
      have hp : (3988292384 : Int) = (poly.toNat : Int) := rfl
      have hs : ishr .u32 (r.toNat : Int) 1 = ((r >>> 1).toNat : Int) := un_shr (w := 32) .u32 rfl r 1 (by decide)
      rw [hw, hs]
      have hb : (iand .u32 (r.toNat : Int) 1 == 1) = r.getLsbD 0 := by
        rw [h1, un_and32]
        have e : (r &&& 1#32).toNat = r.toNat % 2 := by rw [BitVec.toNat_and]; exact Nat.and_one_is_mod _
        rw [e]; show (((r.toNat % 2 : Nat) : Int) == 1) = r.toNat.testBit 0
        rw [Nat.testBit_zero, Bool.eq_iff_iff]; simp; omega
      rw [hb]
      cases hr : r.getLsbD 0 with
      | true =>
        rw [if_pos rfl, hp, un_xor32]
        have := ih k (step r) (by omega) (by omega)
        rw [show step r = (r >>> 1) ^^^ poly by unfold step; rw [hr]; rfl] at this
        rw [this]; show _ = some ((steps j (step r)).toNat : Int); unfold step; rw [hr]; rfl
      | false =>
        rw [if_neg (by simp)]
        have e : step r = r >>> 1 := by unfold step; rw [hr]; simp
        have := ih k (step r) (by omega) (by omega)
        rw [e] at this; rw [this]; show _ = some ((steps j (step r)).toNat : Int); rw [e]
theorem next_f (r : B32) (b : BitVec 8) : crc_next.f (r.toNat : Int) (ub b) = some ((nxt r b).toNat : Int) := by
  unfold crc_next.f
  have e : IntKind.wrap .u32 (ub b) = ((b.setWidth 32).toNat : Int) := by rw [wrap_u32_eq, BitVec.toNat_setWidth]; have := b.isLt; simp only [ub]; omega
  rw [e, un_xor32]
  have := next_l1 8 FU (r ^^^ b.setWidth 32) (by omega) (by decide)
  simp only [Nat.sub_self] at this
  rw [show ((0 : Nat) : Int) = 0 from rfl] at this
  rw [this]; rfl
theorem sum_l2 (L : List (BitVec 8)) (n : Nat) : ∀ (k : Nat) (r : B32) (i : Nat), L.length - i = n → n < k → i ≤ L.length → L.length < 4611686018427387904 →
    crc_Sum.l2 (L.map ub) k (r.toNat : Int) (i : Int) = some ((reg r (L.drop i)).toNat : Int) := by
  induction n with
  | zero =>
    intro k r i h hk hi _; cases k with
    | zero => omega
    | succ k => unfold crc_Sum.l2; rw [if_neg (by simp; omega), List.drop_of_length_le (by omega)]; rfl
  | succ n ih =>
    intro k r i h hk hi hb; cases k with
    | zero => omega
    | succ k =>
      unfold crc_Sum.l2
      have hl : i < L.length := by omega
      rw [if_pos (by simp; omega), at?_nat, List.getElem?_map, List.getElem?_eq_getElem hl]
      simp only [Option.map_some, Option.bind_some]
      rw [next_f, Option.bind_some, wi_eq (by omega) (by omega), show ((i : Int) + 1) = ((i + 1 : Nat) : Int) by omega, ih k _ (i + 1) (by omega) (by omega) (by omega) hb]
      conv => rhs; rw [List.drop_eq_getElem_cons hl]
      rfl
theorem sum_l1 (LL : List (List (BitVec 8))) (hL : ∀ L ∈ LL, L.length < 4611686018427387904) (n : Nat) : ∀ (k : Nat) (r : B32) (i : Nat), LL.length - i = n → n < k → i ≤ LL.length → LL.length < 4611686018427387904 →
    crc_Sum.l1 (LL.map (fun L => L.map ub)) k (r.toNat : Int) (i : Int) = some ((reg r (LL.drop i).flatten).toNat : Int) := by
  induction n with
  | zero =>
    intro k r i h hk hi _; cases k with
    | zero => omega
    | succ k => unfold crc_Sum.l1; rw [if_neg (by simp; omega), List.drop_of_length_le (by omega)]; rfl
  | succ n ih =>
    intro k r i h hk hi hb; cases k with
    | zero => omega
    | succ k =>
      unfold crc_Sum.l1
      have hl : i < LL.length := by omega
      rw [if_pos (by simp; omega), at?_nat, List.getElem?_map, List.getElem?_eq_getElem hl]
      simp only [Option.map_some, Option.bind_some]
      have := hL LL[i] (List.getElem_mem hl)
      rw [show (0 : Int) = ((0 : Nat) : Int) from rfl, sum_l2 _ LL[i].length FU r 0 (by omega) (by simpa [FU] using this) (by omega) this, Option.bind_some, wi_eq (by omega) (by omega), show ((i : Int) + 1) = ((i + 1 : Nat) : Int) by omega, ih k _ (i + 1) (by omega) (by omega) (by omega) hb]
      conv => rhs; rw [List.drop_eq_getElem_cons hl]
      rw [List.flatten_cons, reg_append]; rfl
theorem sum_f (LL : List (List (BitVec 8))) (hL : ∀ L ∈ LL, L.length < 4611686018427387904) (hl : LL.length < 4611686018427387904) :
    crc_Sum.f (LL.map (fun L => L.map ub)) = some ((sum LL.flatten).toNat : Int) := by
  unfold crc_Sum.f
  have h1 : (4294967295 : Int) = (ones.toNat : Int) := rfl
  rw [h1]
  have := sum_l1 LL hL LL.length FU ones 0 (by omega) (by simpa [FU] using hl) (by omega) hl
  rw [show ((0 : Nat) : Int) = 0 from rfl] at this
  have e : ones ^^^ reg ones LL.flatten = sum LL.flatten := by unfold sum; apply BitVec.eq_of_getLsbD_eq; intro i hi; simp [hi]
  rw [this, Option.bind_some, un_xor32, List.drop_zero, e]
theorem sum_one (L : List (BitVec 8)) (hl : L.length < 4611686018427387904) : crc_Sum.f [L.map ub] = some ((sum L).toNat : Int) := by
  have := sum_f [L] (by simpa using hl) (by simp)
  simpa using this
theorem clone_f (L : List Int) (h : L.length ≤ 140737488355328) : slices_Clone.f L = some L := by
  unfold slices_Clone.f; rw [app?_eq (by simpa using h)]; rfl
theorem byte_of (w : B32) (n : Nat) (h : n ≤ 32) : IntKind.wrap .u8 (ishr .u32 (w.toNat : Int) (n : Int)) = ub ((w >>> n).setWidth 8) := by
  rw [un_shr (w := 32) .u32 rfl w n h, wrap_u8_eq, ub, BitVec.toNat_setWidth]; omega
theorem put_f (L : List (BitVec 8)) (h : L.length + 4 ≤ 140737488355328) : crc_Put.f (L.map ub) = some ((put L).map ub) := by
  unfold crc_Put.f
  rw [sum_one L (by omega), Option.bind_some, clone_f _ (by simp; omega), Option.bind_some, app?_eq (by simp; omega)]
  simp only [Option.bind_some, put, List.map_append]
  have h0 := byte_of (sum L) 0 (by omega)
  have h8 := byte_of (sum L) 8 (by omega)
  have h16 := byte_of (sum L) 16 (by omega)
  have h24 := byte_of (sum L) 24 (by omega)
  rw [show ishr .u32 ((sum L).toNat : Int) ((0 : Nat) : Int) = ((sum L).toNat : Int) by rw [un_shr (w := 32) .u32 rfl _ 0 (by omega)]; simp] at h0
  rw [show ((8 : Nat) : Int) = 8 from rfl] at h8
  rw [show ((16 : Nat) : Int) = 16 from rfl] at h16
  rw [show ((24 : Nat) : Int) = 24 from rfl] at h24
  rw [h0, h8, h16, h24]
  simp [le]
theorem equal_l1 (a b : List Int) (hab : a.length = b.length) (n : Nat) : ∀ (k i : Nat), a.length - i = n → n < k → i ≤ a.length → a.length < 4611686018427387904 →
    slices_Equal.l1 a b k (i : Int) = some (if a.drop i = b.drop i then .inr () else .inl false) := by
  induction n with
  | zero =>
    intro k i h hk hi _; cases k with
    | zero => omega
    | succ k => unfold slices_Equal.l1; rw [if_neg (by simp; omega), List.drop_of_length_le (by omega), List.drop_of_length_le (by omega), if_pos rfl]
  | succ n ih =>
    intro k i h hk hi hb; cases k with
    | zero => omega
    | succ k =>
      unfold slices_Equal.l1
      have hl : i < a.length := by omega
      have hl2 : i < b.length := by omega
      rw [if_pos (by simp; omega), at?_nat, at?_nat, List.getElem?_eq_getElem hl, List.getElem?_eq_getElem hl2]
      simp only [Option.bind_some]
      rw [wi_eq (by omega) (by omega), show ((i : Int) + 1) = ((i + 1 : Nat) : Int) by omega, ih k (i + 1) (by omega) (by omega) (by omega) hb]
      have hd : (a.drop i = b.drop i) ↔ (a[i] = b[i] ∧ a.drop (i + 1) = b.drop (i + 1)) := by
        rw [List.drop_eq_getElem_cons hl, List.drop_eq_getElem_cons hl2, List.cons.injEq]
      simp only [hd]
      by_cases he : a[i] = b[i] <;> simp [he]
theorem equal_f (a b : List Int) (hb : a.length < 4611686018427387904) : slices_Equal.f a b = some (decide (a = b)) := by
  unfold slices_Equal.f
  by_cases h : a.length = b.length
  · rw [if_neg (by simp [h])]
    have := equal_l1 a b h a.length FU 0 (by omega) (by simpa [FU] using hb) (by omega) hb
    rw [show ((0 : Nat) : Int) = 0 from rfl] at this
    rw [this, Option.bind_some]
    simp only [List.drop_zero]
    by_cases he : a = b <;> simp [he]
  · rw [if_pos (by simp; omega)]
    have : a ≠ b := fun e => h (by rw [e])
    simp [this]
/-- what Cut answers -/
theorem cut_f (L : List (BitVec 8)) (h : L.length ≤ 1000000) : crc_Cut.f (L.map ub) =
    some (if L.length < 4 then ([], 50) else if put (L.take (L.length - 4)) = L then ((L.take (L.length - 4)).map ub, 0) else ([], 40)) := by
  unfold crc_Cut.f
  by_cases h4 : L.length < 4
  · rw [if_pos (by simp; omega), if_pos h4]
  · rw [if_neg (by simp; omega), if_neg h4, wi_eq (by simp; omega) (by simp; omega), show (((L.map ub).length : Int) - 4) = ((L.length - 4 : Nat) : Int) by simp; omega, sub?_pre _ (by simp)]
    rw [Option.bind_some, clone_f _ (by simp; omega), Option.bind_some, ← List.map_take, put_f _ (by simp; omega), Option.bind_some, equal_f _ _ (by simp [put, le]; omega), Option.bind_some]
    by_cases he : put (L.take (L.length - 4)) = L
    · rw [if_pos he, if_neg (by simp [he])]
    · rw [if_neg he, if_pos (by simpa using fun e => he (map_ub_inj e))]
theorem put_length (L : List (BitVec 8)) : (put L).length = L.length + 4 := by simp [put, le]
end Crc
end Go.Proofs.Ytbcdcpkofgfofaa
