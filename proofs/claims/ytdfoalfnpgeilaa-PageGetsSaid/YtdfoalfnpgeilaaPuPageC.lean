/-
  The plain laws of layer page: pages as bytes and back; unlike pages. No condition.
-/
import Derived.Test.YtdfoalfnpgeilaaPuPageB
import Derived.Test.YtdfoalfnpgeilaaGPageApart
import Derived.Test.YtdfoalfnpgeilaaGPagePuts
import Derived.Test.YtdfoalfnpgeilaaGPageGets
namespace Go.Proofs.Ytdfoalfnpgeilaa
open Go Go.Gol
set_option linter.unusedVariables false
set_option linter.unusedSimpArgs false
set_option maxRecDepth 100000
namespace Page
open Crc
theorem put_all (a : Int) (L : List (BitVec 8)) : page_Put.f a (L.map ub) = some (if a < 0 ∨ 4096 ≤ a then ([], 2) else if 256 < L.length then ([], 80) else ((put (pg a.toNat L)).map ub, 0)) := by
  by_cases h : a < 0 ∨ 4096 ≤ a
  · rw [if_pos h]; unfold page_Put.f
    by_cases h1 : a < 0
    · rw [if_pos (by simpa using h1)]
    · rw [if_neg (by simpa using h1), if_pos (by simp; omega)]
  · rw [if_neg h]
    by_cases h2 : 256 < L.length
    · rw [if_pos h2]; unfold page_Put.f; rw [if_neg (by simp; omega), if_neg (by simp; omega), if_pos (by simp; omega)]
    · rw [if_neg h2]
      have := put_page a.toNat L (by omega) (by omega)
      rw [show ((a.toNat : Nat) : Int) = a by omega] at this; exact this
theorem put_inj {a b : List (BitVec 8)} (hl : a.length = b.length) (h : put a = put b) : a = b := (List.append_inj h hl).1
theorem byte_nat (n i : Nat) : (byteAt n i).toNat = n / 2 ^ (8 * i) % 256 := by simp [byteAt]
theorem pg_inj {n m : Nat} {L M : List (BitVec 8)} (hn : n < 4096) (hm : m < 4096) (hL : L.length ≤ 256) (hM : M.length = L.length) (h : pg n L = pg m M) : n = m ∧ L = M := by
  unfold pg at h
  obtain ⟨h1, h2⟩ := List.append_inj h (by rw [body_len L hL, body_len M (by omega)])
  constructor
  · simp only [List.cons.injEq] at h2
    have e0 := congrArg BitVec.toNat h2.1
    have e1 := congrArg BitVec.toNat h2.2.1
    rw [byte_nat, byte_nat] at e0 e1
    simp at e0 e1
    omega
  · exact (List.append_inj h1 hM.symm).1
theorem pg_len (n : Nat) (L : List (BitVec 8)) (h : L.length ≤ 256) : (pg n L).length = 260 := by simp [pg, body_len L h]
end Page
open Crc Page
theorem pure_PageApart (a0 : Int) (F0 : Fits (.int .i64) a0) (a1 : Int) (F1 : Fits (.int .i64) a1) (l2 : List Int) (F2 : Fits (.slice 5 (.int .u8)) l2) : colophonlaw05_PageApart.f a0 a1 l2 = some true := by
  obtain ⟨L, rfl⟩ := bytes_ex F2
  unfold colophonlaw05_PageApart.f
  rw [page_first, Option.bind_some, if_neg (by simp), put_all, Option.bind_some, put_all, Option.bind_some]
  by_cases h0 : a0 < 0 ∨ 4096 ≤ a0
  · simp [h0]
  by_cases hL : 256 < L.length
  · simp [h0, hL]
  by_cases h1 : a1 < 0 ∨ 4096 ≤ a1
  · simp [h0, hL, h1]
  rw [if_neg h0, if_neg hL, if_neg h1, if_neg hL]
  simp only [bne_self_eq_false, Bool.false_eq_true, if_false, bs_beq]
  have hiff : decide (put (pg a0.toNat L) = put (pg a1.toNat L)) = (a0 == a1) := by
    rw [Bool.eq_iff_iff]; simp only [decide_eq_true_eq, beq_iff_eq]
    constructor
    · intro h
      have := (pg_inj (by omega) (by omega) (by omega) rfl (put_inj (by rw [pg_len _ _ (by omega), pg_len _ _ (by omega)]) h)).1
      omega
    · intro h; rw [h]
  rw [hiff, if_neg (by simp), app?_eq (by simp; omega), Option.bind_some, List.nil_append]
  by_cases hz : L.length = 0
  · rw [if_pos (by simp; exact List.eq_nil_of_length_eq_zero hz)]
  · rw [if_neg (by simp; intro h; exact hz (by rw [h]; rfl))]
    have e1 : wi (Int.tdiv (((L.map ub).length : Nat) : Int) 2) = ((L.length / 2 : Nat) : Int) := by
      simp only [List.length_map]; rw [Int.tdiv_eq_ediv_of_nonneg (by omega), wi_eq (by omega) (by omega)]; omega
    have hm : L.length / 2 < L.length := by omega
    rw [e1, at?_nat, List.getElem?_map, List.getElem?_eq_getElem hm]
    simp only [Option.map_some, Option.bind_some]
    rw [show (1 : Int) = ((1#8).toNat : Int) from rfl, show ub L[L.length / 2] = ((L[L.length / 2]).toNat : Int) from rfl, un_xor8, set?_nat _ (by simpa using hm), Option.bind_some]
    have e2 : (L.map ub).set (L.length / 2) (((L[L.length / 2] ^^^ 1#8).toNat : Nat) : Int) = (L.set (L.length / 2) (L[L.length / 2] ^^^ 1#8)).map ub := by rw [List.map_set]
    have hL' : ¬ 256 < (L.set (L.length / 2) (L[L.length / 2] ^^^ 1#8)).length := by simpa using hL
    rw [e2, put_all, Option.bind_some, if_neg h0, if_neg hL']
    simp only [bs_beq]
    have hne : ¬ put (pg a0.toNat (L.set (L.length / 2) (L[L.length / 2] ^^^ 1#8))) = put (pg a0.toNat L) := by
      intro h
      have h3 := (pg_inj (by omega) (by omega) (by simp; omega) (by simp) (put_inj (by rw [pg_len _ _ (by simp; omega), pg_len _ _ (by omega)]) h)).2
      have h4 := congrArg (fun l => l[L.length / 2]?) h3
      simp only [List.getElem?_set_self hm, List.getElem?_eq_getElem hm, Option.some.injEq] at h4
      have h5 : ∀ x : BitVec 8, x ^^^ 1#8 ≠ x := by decide +kernel
      exact h5 _ h4
    rw [if_pos (by simp [hne])]
    simp [put_length, pg_len _ L (by omega), pg_len _ (L.set (L.length / 2) (L[L.length / 2] ^^^ 1#8)) (by simp; omega)]
end Go.Proofs.Ytdfoalfnpgeilaa
