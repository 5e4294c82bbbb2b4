/-
  Images in plain words: the document's Build answers the same. No condition.
-/
import Derived.Test.YtejjdfnelalnoaaPuImgA
namespace Go.Proofs.Ytejjdfnelalnoaa
open Go Go.Gol
set_option linter.unusedVariables false
set_option linter.unusedSimpArgs false
set_option maxRecDepth 100000
namespace Img
open Crc Page
theorem ub_byteAt (v i : Nat) : ub (byteAt v i) = ((v / 2 ^ (8 * i) % 256 : Nat) : Int) := by
  show ((byteAt v i).toNat : Int) = _
  rw [byte_nat]
theorem refb_l2 (v : Nat) (hv : v ≤ 1000000000) : ∀ (m k i : Nat) (out : List B8), 4 - i = m → m < k → i ≤ 4 → out.length ≤ 100000 + i →
    colophonref06_Build.l2 k (out.map ub) ((v / 2 ^ (8 * i) : Nat) : Int) (i : Int) = some ((out ++ (le4 v).drop i).map ub) := by
  intro m
  induction m with
  | zero => intro k i out hm hk hi ho; cases k with
    | zero => omega
    | succ k =>
      have e : i = 4 := by omega
      subst e
      rw [colophonref06_Build.l2, if_neg (by decide)]
      simp [le4]
  | succ m ih => intro k i out hm hk hi ho; cases k with
    | zero => omega
    | succ k =>
      have hle : v / 2 ^ (8 * i) ≤ v := Nat.div_le_self _ _
      have e1 : IntKind.wrap .u8 (Int.tmod ((v / 2 ^ (8 * i) : Nat) : Int) 256) = ub (byteAt v i) := by
        rw [ub_byteAt]
        generalize v / 2 ^ (8 * i) = q at *
        rw [Int.tmod_eq_emod_of_nonneg (by omega), wrap_u8_eq]; omega
      have e2 : wi (Int.tdiv ((v / 2 ^ (8 * i) : Nat) : Int) 256) = ((v / 2 ^ (8 * (i + 1)) : Nat) : Int) := by
        rw [show 2 ^ (8 * (i + 1)) = 2 ^ (8 * i) * 256 from by rw [show 8 * (i + 1) = 8 * i + 8 by omega, Nat.pow_add], ← Nat.div_div_eq_div_mul]
        generalize v / 2 ^ (8 * i) = q at *
        rw [Int.tdiv_eq_ediv_of_nonneg (by omega), wi_eq (by omega) (by omega)]; omega
      rw [colophonref06_Build.l2, if_pos (by rw [decide_eq_true_eq]; omega), e1, e2, app?_eq (by simp; omega), Option.bind_some, wi_eq (by omega) (by omega), show ((i : Int) + 1) = ((i + 1 : Nat) : Int) by omega]
      have := ih k (i + 1) (out ++ [byteAt v i]) (by omega) (by omega) (by omega) (by simp; omega)
      rw [List.map_append] at this
      rw [show ([ub (byteAt v i)] : List Int) = [byteAt v i].map ub from rfl, this]
      have hd : (le4 v).drop i = byteAt v i :: (le4 v).drop (i + 1) := by
        have hi4 : i < 4 := by omega
        match i, hi4 with
        | 0, _ => rfl
        | 1, _ => rfl
        | 2, _ => rfl
        | 3, _ => rfl
      rw [hd, List.append_assoc]; rfl
theorem refb_l2' (v : Nat) (hv : v ≤ 1000000000) (out : List B8) (ho : out.length ≤ 100000) : colophonref06_Build.l2 FU (out.map ub) (v : Int) 0 = some ((out ++ le4 v).map ub) := by
  have := refb_l2 v hv 4 FU 0 out (by omega) (by show 4 < 4611686018427387904; omega) (by omega) (by omega)
  rw [Nat.mul_zero, Nat.pow_zero, Nat.div_one] at this
  exact this
theorem refb_l1 (S : List (List B8)) (hS : ∀ s ∈ S, s.length ≤ 2000000) (hl : S.length ≤ 1000) : ∀ (m k i a : Nat) (out : List B8), S.length - i = m → m < k → i ≤ S.length → a ≤ 4096 → out.length ≤ 10 + 4 * i →
    colophonref06_Build.l1 (S.map (·.map ub)) k (out.map ub) (a : Int) (i : Int) = some (if a + total (S.drop i) ≤ 4096 then .inr ((out ++ ((S.drop i).map fun s => le4 s.length).flatten).map ub) else .inl ([], 80)) := by
  intro m
  induction m with
  | zero => intro k i a out hm hk hi ha ho; cases k with
    | zero => omega
    | succ k =>
      have e : i = S.length := by omega
      rw [colophonref06_Build.l1, if_neg (by rw [decide_eq_true_eq, List.length_map]; omega), e, List.drop_length, if_pos (by simpa [total] using ha)]
      simp
  | succ m ih => intro k i a out hm hk hi ha ho; cases k with
    | zero => omega
    | succ k =>
      have hil : i < S.length := by omega
      have hsi := hS _ (List.getElem_mem hil)
      have hms : many S[i].length = (S[i].length + 255) / 256 := rfl
      rw [colophonref06_Build.l1, if_pos (by rw [decide_eq_true_eq, List.length_map]; omega), at_sec hil, Option.bind_some, List.length_map, refb_l2' S[i].length (by omega) out (by omega), Option.bind_some]
      rw [Int.tmod_eq_emod_of_nonneg (by omega), Int.tdiv_eq_ediv_of_nonneg (by omega), wi_eq (n := (S[i].length : Int) / 256) (by omega) (by omega), wi_eq (n := (a : Int) + (S[i].length : Int) / 256) (by omega) (by omega), wi_eq (n := (a : Int) + (S[i].length : Int) / 256 + 1) (by omega) (by omega), wi_eq (n := (i : Int) + 1) (by omega) (by omega), show ((i : Int) + 1) = ((i + 1 : Nat) : Int) by omega, total_drop hil]
      have hgo : ∀ b : Int, b = ((a + many S[i].length : Nat) : Int) → (if decide (b > 4096) = true then some (.inl (([] : List Int), (80 : Int))) else colophonref06_Build.l1 (S.map (·.map ub)) k ((out ++ le4 S[i].length).map ub) b ((i + 1 : Nat) : Int)) = some (if a + (many S[i].length + total (S.drop (i + 1))) ≤ 4096 then .inr ((out ++ ((S.drop i).map fun s => le4 s.length).flatten).map ub) else .inl ([], 80)) := by
        rintro b rfl
        by_cases h : a + many S[i].length > 4096
        · rw [if_pos (by rw [decide_eq_true_eq]; omega), if_neg (by omega)]
        · rw [if_neg (by rw [decide_eq_true_eq]; omega), ih k (i + 1) (a + many S[i].length) _ (by omega) (by omega) (by omega) (by omega) (by simp [le4]; omega), List.drop_eq_getElem_cons hil, List.map_cons, List.flatten_cons, List.append_assoc, Nat.add_assoc]
      by_cases h0 : (S[i].length : Int) % 256 > 0
      · rw [if_pos (by rw [decide_eq_true_eq]; exact h0)]
        exact hgo _ (by rw [hms]; omega)
      · rw [if_neg (by rw [decide_eq_true_eq]; exact h0)]
        exact hgo _ (by rw [hms]; omega)
theorem sub_chunk (s : List B8) (o : Nat) (h : o < s.length) (hs : s.length ≤ 2000000) : sub? (s.map ub) (o : Int) (imin (wi ((o : Int) + 256)) ((s.map ub).length : Int)) = some (((s.drop o).take 256).map ub) := by
  rw [wi_eq (by omega) (by omega), List.length_map]
  have e : imin ((o : Int) + 256) (s.length : Int) = ((min (o + 256) s.length : Nat) : Int) := by unfold imin; split <;> omega
  rw [e, sub?_nat _ (by omega) (by rw [List.length_map]; omega), ← List.map_take, ← List.map_drop, List.drop_take]
  congr 2
  by_cases h2 : o + 256 ≤ s.length
  · rw [show min (o + 256) s.length - o = 256 by omega]
  · rw [List.take_of_length_le (by rw [List.length_drop]; omega), List.take_of_length_le (by rw [List.length_drop]; omega)]
theorem refput_page (n : Nat) (L : List B8) (hn : n < 4096) (hL : L.length ≤ 256) : colophonref05_Put.f (n : Int) (L.map ub) = some ((put (pg n L)).map ub, 0) := by
  rw [refput_all (n : Int) L (by omega), if_neg (by omega), if_neg (by omega), Int.toNat_natCast]
theorem refb_l4 (s : List B8) (hs : s.length ≤ 2000000) : ∀ (m k i n : Nat) (out : List B8), many s.length - i = m → m < k → i ≤ many s.length → n + m ≤ 4096 → out.length ≤ 264 * n →
    colophonref06_Build.l4 (s.map ub) k (out.map ub) (n : Int) ((256 * i : Nat) : Int) = some ((out ++ pgs n ((chs s).drop i)).map ub, ((n + m : Nat) : Int)) := by
  intro m
  have hmany : many s.length = (s.length + 255) / 256 := rfl
  induction m with
  | zero => intro k i n out hm hk hi hn ho; cases k with
    | zero => omega
    | succ k =>
      have e : i = many s.length := by omega
      rw [colophonref06_Build.l4, if_neg (by rw [decide_eq_true_eq, List.length_map]; omega), e, List.drop_of_length_le (by rw [chs_len]; omega)]
      simp [pgs]
  | succ m ih => intro k i n out hm hk hi hn ho; cases k with
    | zero => omega
    | succ k =>
      have hil : i < many s.length := by omega
      have hc : ((s.drop (256 * i)).take 256).length ≤ 256 := by simp; omega
      rw [colophonref06_Build.l4, if_pos (by rw [decide_eq_true_eq, List.length_map]; omega), sub_chunk s (256 * i) (by omega) hs, Option.bind_some, refput_page n _ (by omega) hc, Option.bind_some]
      have hpl : (put (pg n ((s.drop (256 * i)).take 256))).length = 264 := by rw [put_length, pg_len n _ hc]
      simp only []
      rw [app?_eq (by rw [List.length_map, List.length_map, hpl]; omega), Option.bind_some, wi_eq (by omega) (by omega), wi_eq (by omega) (by omega), show ((n : Int) + 1) = ((n + 1 : Nat) : Int) by omega, show (((256 * i : Nat) : Int) + 256) = ((256 * (i + 1) : Nat) : Int) by omega, ← List.map_append]
      rw [ih k (i + 1) (n + 1) _ (by omega) (by omega) (by omega) (by omega) (by rw [List.length_append, hpl]; omega), chs_drop hil, pgs, List.append_assoc]
      congr 3; omega
theorem refb_l3 (S : List (List B8)) (hS : ∀ s ∈ S, s.length ≤ 2000000) (hl : S.length ≤ 1000) : ∀ (m k i n : Nat) (out : List B8), S.length - i = m → m < k → i ≤ S.length → n + total (S.drop i) ≤ 4096 → out.length ≤ 264 * n →
    colophonref06_Build.l3 (S.map (·.map ub)) k (out.map ub) (n : Int) (i : Int) = some ((out ++ pgs n (cts (S.drop i))).map ub) := by
  intro m
  induction m with
  | zero => intro k i n out hm hk hi hn ho; cases k with
    | zero => omega
    | succ k =>
      have e : i = S.length := by omega
      rw [colophonref06_Build.l3, if_neg (by rw [decide_eq_true_eq, List.length_map]; omega), e, List.drop_length]
      simp [pgs, cts]
  | succ m ih => intro k i n out hm hk hi hn ho; cases k with
    | zero => omega
    | succ k =>
      have hil : i < S.length := by omega
      have hsi := hS _ (List.getElem_mem hil)
      rw [total_drop hil] at hn
      rw [colophonref06_Build.l3, if_pos (by rw [decide_eq_true_eq, List.length_map]; omega), at_sec hil, Option.bind_some]
      have h3 := refb_l4 S[i] hsi (many S[i].length) FU 0 n out (by omega) (by have : many S[i].length ≤ 8000 := by unfold many; omega
                                                                               show many S[i].length < 4611686018427387904; omega) (by omega) (by omega) ho
      rw [Nat.mul_zero, List.drop_zero, show ((0 : Nat) : Int) = 0 from rfl] at h3
      have hfl : (out ++ pgs n (chs S[i])).length ≤ 264 * (n + many S[i].length) := by
        rw [List.length_append, pgs_len n _ (chs_le _), chs_len]; omega
      rw [h3, Option.bind_some]
      simp only []
      rw [wi_eq (by omega) (by omega), show ((i : Int) + 1) = ((i + 1 : Nat) : Int) by omega, ih k (i + 1) (n + many S[i].length) _ (by omega) (by omega) (by omega) (by omega) hfl, cts_drop hil, pgs_append, chs_len, List.append_assoc]
theorem refbuild_f (S : List (List B8)) (hS : ∀ s ∈ S, s.length ≤ 2000000) : colophonref06_Build.f (S.map (·.map ub)) = some (if Valid S then ((img S).map ub, 0) else ([], 80)) := by
  unfold colophonref06_Build.f
  by_cases h60 : S.length > 60
  · rw [if_pos (by rw [decide_eq_true_eq, List.length_map]; omega), if_neg (fun h => by have := h.1; omega)]
  rw [if_neg (by rw [decide_eq_true_eq, List.length_map]; omega), List.length_map]
  have e0 : ([99, 111, 108, 111, IntKind.wrap .u8 (S.length : Int), 0] : List Int) = (colo ++ le2 S.length).map ub := by
    have h1 : ub (byteAt S.length 0) = IntKind.wrap .u8 (S.length : Int) := by rw [ub_byteAt, wrap_u8_eq]; simp
    have h2 : ub (byteAt S.length 1) = 0 := by rw [ub_byteAt]; omega
    show _ = [99, 111, 108, 111, ub (byteAt S.length 0), ub (byteAt S.length 1)]
    rw [h1, h2]
  rw [e0]
  have h1 := refb_l1 S hS (by omega) S.length FU 0 1 (colo ++ le2 S.length) (by omega) (by show S.length < 4611686018427387904; omega) (by omega) (by omega) (by simp [colo, le2])
  rw [show ((0 : Nat) : Int) = 0 from rfl, show ((1 : Nat) : Int) = 1 from rfl, List.drop_zero] at h1
  rw [h1, Option.bind_some]
  by_cases g1 : 1 + total S ≤ 4096
  · rw [if_pos g1, if_pos ⟨by omega, g1⟩]
    have hd256 : (hd S).length ≤ 256 := by rw [hd_len]; omega
    have hpl : (put (pg 0 (hd S))).length = 264 := by rw [put_length, pg_len 0 _ hd256]
    have hput := refput_page 0 (hd S) (by omega) hd256
    rw [show ((0 : Nat) : Int) = 0 from rfl] at hput
    simp only []
    show (colophonref05_Put.f 0 ((hd S).map ub)).bind _ = _
    rw [hput, Option.bind_some]
    have h2 := refb_l3 S hS (by omega) S.length FU 0 1 (put (pg 0 (hd S))) (by omega) (by show S.length < 4611686018427387904; omega) (by omega) (by rw [List.drop_zero]; omega) (by omega)
    rw [show ((0 : Nat) : Int) = 0 from rfl, show ((1 : Nat) : Int) = 1 from rfl, List.drop_zero] at h2
    simp only []
    rw [h2]; rfl
  · rw [if_neg g1, if_neg (fun h => g1 h.2)]
end Img
end Go.Proofs.Ytejjdfnelalnoaa
