/-
  The law of sums of sums, in plain words. No condition.
-/
import Derived.Test.YtcbagmeglbleaaaPuCrcA
import Derived.Test.YtcbagmeglbleaaaGCrcAdds
namespace Go.Proofs.Ytcbagmeglbleaaa
open Go Go.Gol
set_option linter.unusedVariables false
set_option linter.unusedSimpArgs false
set_option linter.unnecessarySimpa false
set_option maxRecDepth 100000
namespace Crc
theorem adds_first : colophonlaw04_first.f = some true := by decide +kernel
def x3 : List (BitVec 8) → List (BitVec 8) → List (BitVec 8) → List (BitVec 8)
  | a :: xs, b :: ys, c :: zs => (a ^^^ b ^^^ c) :: x3 xs ys zs
  | _, _, _ => []
theorem x3_len : ∀ (a b c : List (BitVec 8)), a.length = b.length → b.length = c.length → (x3 a b c).length = a.length
  | [], _, _, _, _ => rfl
  | _ :: _, [], _, h, _ => by simp at h
  | _ :: _, _ :: _, [], _, h => by simp at h
  | a :: xs, b :: ys, c :: zs, h1, h2 => by
    simp only [x3, List.length_cons] at *
    rw [x3_len xs ys zs (by omega) (by omega)]
theorem x3_snoc : ∀ (a b c : List (BitVec 8)) (u v w : BitVec 8), a.length = b.length → b.length = c.length → x3 (a ++ [u]) (b ++ [v]) (c ++ [w]) = x3 a b c ++ [u ^^^ v ^^^ w]
  | [], [], [], _, _, _, _, _ => rfl
  | [], _ :: _, _, _, _, _, h, _ => by simp at h
  | [], [], _ :: _, _, _, _, _, h => by simp at h
  | _ :: _, [], _, _, _, _, h, _ => by simp at h
  | _ :: _, _ :: _, [], _, _, _, _, h => by simp at h
  | a :: xs, b :: ys, c :: zs, u, v, w, h1, h2 => by
    simp only [List.length_cons] at h1 h2
    simp only [List.cons_append, x3]
    rw [x3_snoc xs ys zs u v w (by omega) (by omega)]
theorem mix (a b c d e f : B32) : (a ^^^ b ^^^ c) ^^^ (d ^^^ e ^^^ f) = (a ^^^ d) ^^^ (b ^^^ e) ^^^ (c ^^^ f) := by
  apply BitVec.eq_of_getLsbD_eq
  intro i hi
  simp only [BitVec.getLsbD_xor]
  cases a.getLsbD i <;> cases b.getLsbD i <;> cases c.getLsbD i <;> cases d.getLsbD i <;> cases e.getLsbD i <;> cases f.getLsbD i <;> rfl
theorem nxt3 (r s t : B32) (a b c : BitVec 8) : nxt (r ^^^ s ^^^ t) (a ^^^ b ^^^ c) = nxt r a ^^^ nxt s b ^^^ nxt t c := by
  unfold nxt
  rw [BitVec.setWidth_xor, BitVec.setWidth_xor, mix, steps_xor, steps_xor]
theorem reg3 : ∀ (a b c : List (BitVec 8)) (r s t : B32), a.length = b.length → b.length = c.length → reg (r ^^^ s ^^^ t) (x3 a b c) = reg r a ^^^ reg s b ^^^ reg t c
  | [], [], [], _, _, _, _, _ => rfl
  | [], _ :: _, _, _, _, _, h, _ => by simp at h
  | [], [], _ :: _, _, _, _, _, h => by simp at h
  | _ :: _, [], _, _, _, _, h, _ => by simp at h
  | _ :: _, _ :: _, [], _, _, _, _, h => by simp at h
  | a :: xs, b :: ys, c :: zs, r, s, t, h1, h2 => by
    simp only [List.length_cons] at h1 h2
    show reg (nxt (r ^^^ s ^^^ t) (a ^^^ b ^^^ c)) (x3 xs ys zs) = reg (nxt r a) xs ^^^ reg (nxt s b) ys ^^^ reg (nxt t c) zs
    rw [nxt3]
    exact reg3 xs ys zs _ _ _ (by omega) (by omega)
theorem sum3 (a b c : List (BitVec 8)) (h1 : a.length = b.length) (h2 : b.length = c.length) : sum a ^^^ sum b ^^^ sum c = sum (x3 a b c) := by
  unfold sum
  have := reg3 a b c ones ones ones h1 h2
  rw [show ones ^^^ ones ^^^ ones = ones by rw [BitVec.xor_self, BitVec.zero_xor]] at this
  rw [this]
  apply BitVec.eq_of_getLsbD_eq
  intro i hi
  simp only [BitVec.getLsbD_xor, BitVec.getLsbD_not]
  cases (reg ones a).getLsbD i <;> cases (reg ones b).getLsbD i <;> cases (reg ones c).getLsbD i <;> simp [hi]
theorem take_snoc {L : List (BitVec 8)} {i : Nat} (h : i < L.length) : L.take (i + 1) = L.take i ++ [L[i]] := by
  rw [List.take_add_one, List.getElem?_eq_getElem h]; rfl
end Crc
open Crc
theorem pure_CrcAdds (l0 : List Int) (F0 : Fits (.slice 5 (.int .u8)) l0) (l1 : List Int) (F1 : Fits (.slice 5 (.int .u8)) l1) (l2 : List Int) (F2 : Fits (.slice 5 (.int .u8)) l2) : colophonlaw04_CrcAdds.f l0 l1 l2 = some true := by
  obtain ⟨A, rfl⟩ := bytes_ex F0
  obtain ⟨B, rfl⟩ := bytes_ex F1
  obtain ⟨C, rfl⟩ := bytes_ex F2
  obtain ⟨n, en, hn, hA, hB, hC⟩ : ∃ n : Nat, imin (imin (imin ((A.map ub).length : Int) ((B.map ub).length : Int)) ((C.map ub).length : Int)) 500 = (n : Int) ∧ n ≤ 500 ∧ n ≤ A.length ∧ n ≤ B.length ∧ n ≤ C.length := by
    refine ⟨min (min (min A.length B.length) C.length) 500, ?_, by omega, by omega, by omega, by omega⟩
    simp only [List.length_map]
    unfold imin; split <;> split <;> split <;> omega
  have at_b : ∀ (L : List (BitVec 8)) (i : Nat) (h : i < L.length), at? (L.map ub) (i : Int) = some (ub L[i]) := fun L i h => by
    rw [at?_nat, List.getElem?_map, List.getElem?_eq_getElem h]; rfl
  unfold colophonlaw04_CrcAdds.f
  rw [adds_first, Option.bind_some, if_neg (by simp), en]
  have key : ∀ (m k i : Nat), n - i = m → m < k → i ≤ n → colophonlaw04_CrcAdds.l1 (A.map ub) (B.map ub) (C.map ub) k ((x3 (A.take i) (B.take i) (C.take i)).map ub) (i : Int) = some ((x3 (A.take n) (B.take n) (C.take n)).map ub) := by
    intro m
    induction m with
    | zero => intro k i hm hk hi; cases k with
      | zero => omega
      | succ k => unfold colophonlaw04_CrcAdds.l1; rw [en, if_neg (by rw [decide_eq_true_eq]; omega), show i = n by omega]
    | succ m ih => intro k i hm hk hi; cases k with
      | zero => omega
      | succ k =>
        unfold colophonlaw04_CrcAdds.l1
        have hl := x3_len (A.take i) (B.take i) (C.take i) (by simp; omega) (by simp; omega)
        have hl' : (x3 (A.take i) (B.take i) (C.take i)).length ≤ 500 := by rw [hl, List.length_take]; omega
        rw [en, if_pos (by rw [decide_eq_true_eq]; omega), at_b A i (by omega), Option.bind_some, at_b B i (by omega), Option.bind_some, at_b C i (by omega), Option.bind_some, show ixor .u8 (ub A[i]) (ub B[i]) = ub (A[i] ^^^ B[i]) from un_xor8 _ _, show ixor .u8 (ub (A[i] ^^^ B[i])) (ub C[i]) = ub (A[i] ^^^ B[i] ^^^ C[i]) from un_xor8 _ _, app?_eq (by simp; omega), Option.bind_some, wi_eq (by omega) (by omega), show ((i : Int) + 1) = ((i + 1 : Nat) : Int) by omega]
        have := ih k (i + 1) (by omega) (by omega) (by omega)
        rw [take_snoc (show i < A.length by omega), take_snoc (show i < B.length by omega), take_snoc (show i < C.length by omega), x3_snoc _ _ _ _ _ _ (by simp; omega) (by simp; omega), List.map_append] at this
        exact this
  have e1 := key n FU 0 (by omega) (by show n < 4611686018427387904; omega) (by omega)
  rw [show ((0 : Nat) : Int) = 0 from rfl] at e1
  have e1' : colophonlaw04_CrcAdds.l1 (A.map ub) (B.map ub) (C.map ub) FU [] 0 = some ((x3 (A.take n) (B.take n) (C.take n)).map ub) := e1
  have hl := x3_len (A.take n) (B.take n) (C.take n) (by simp; omega) (by simp; omega)
  have hl' : (x3 (A.take n) (B.take n) (C.take n)).length ≤ 500 := by rw [hl, List.length_take]; omega
  rw [e1', Option.bind_some, sub?_pre (A.map ub) (by simp; omega), Option.bind_some, sub?_pre (B.map ub) (by simp; omega), Option.bind_some, sub?_pre (C.map ub) (by simp; omega), Option.bind_some, ← List.map_take, ← List.map_take, ← List.map_take,
    sum_one _ (by simp; omega), Option.bind_some, sum_one _ (by simp; omega), Option.bind_some, sum_one _ (by simp; omega), Option.bind_some, sum_one _ (by omega), Option.bind_some, un_xor32, un_xor32, sum3 _ _ _ (by simp; omega) (by simp; omega)]
  simp
end Go.Proofs.Ytcbagmeglbleaaa
