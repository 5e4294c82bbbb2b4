/-
  Images in plain words: what Build made, Open reads back. No condition.
-/
import Derived.Test.YtbcdcpkofgfofaaPuImgD
namespace Go.Proofs.Ytbcdcpkofgfofaa
open Go Go.Gol
set_option linter.unusedVariables false
set_option linter.unusedSimpArgs false
set_option maxRecDepth 100000
namespace Img
open Crc Page
theorem getR_parts {n : Nat} {L : List B8} (hn : n < 4096) (hL : L.length ≤ 256) : put ((put (pg n L)).take 260) = put (pg n L) ∧ num (put (pg n L)) = n ∧ (put (pg n L)).take 256 = body L := by
  have h := get_pg n L hn hL
  have hl : (put (pg n L)).length = 264 := by rw [put_length, pg_len n L hL]
  unfold getR at h
  rw [if_neg (by omega), if_neg (by omega)] at h
  by_cases h1 : put ((put (pg n L)).take 260) = put (pg n L)
  · rw [if_pos h1] at h
    by_cases h2 : num (put (pg n L)) ≥ 4096
    · rw [if_pos h2] at h
      have : (10 : Int) = 0 := congrArg (fun x => x.2.2) h
      omega
    · rw [if_neg h2] at h
      have e1 : ((num (put (pg n L)) : Nat) : Int) = (n : Int) := congrArg (fun x => x.1) h
      have e2 : ((put (pg n L)).take 256).map ub = (body L).map ub := congrArg (fun x => x.2.1) h
      exact ⟨h1, by omega, map_ub_inj e2⟩
  · rw [if_neg h1] at h
    have : (40 : Int) = 0 := congrArg (fun x => x.2.2) h
    omega
theorem pgs_at : ∀ (cs : List (List B8)) (k j : Nat), (∀ c ∈ cs, c.length ≤ 256) → (h : j < cs.length) → ((pgs k cs).drop (264 * j)).take 264 = put (pg (k + j) cs[j])
  | [], _, _, _, h => by simp at h
  | c :: cs, k, 0, hc, _ => by
    have hl : (put (pg k c)).length = 264 := by rw [put_length, pg_len k c (hc c List.mem_cons_self)]
    rw [pgs, Nat.mul_zero, List.drop_zero, List.take_append_of_le_length (by omega), List.take_of_length_le (by omega)]; rfl
  | c :: cs, k, j + 1, hc, h => by
    have hl : (put (pg k c)).length = 264 := by rw [put_length, pg_len k c (hc c List.mem_cons_self)]
    have ih := pgs_at cs (k + 1) j (fun c hc' => hc c (List.mem_cons_of_mem _ hc')) (by simpa using h)
    rw [pgs, show 264 * (j + 1) = (put (pg k c)).length + 264 * j by omega, List.drop_length_add_append, ih]
    simp only [List.getElem_cons_succ]
    rw [show k + 1 + j = k + (j + 1) by omega]
theorem cont_le {S : List (List B8)} (h60 : S.length ≤ 60) : ∀ c ∈ cont S, c.length ≤ 256 := fun c hc => by
  unfold cont at hc
  rcases List.mem_cons.1 hc with rfl | hc
  · rw [hd_len]; omega
  · unfold cts at hc
    obtain ⟨l, hl, hc⟩ := List.mem_flatten.1 hc
    obtain ⟨s, hs, rfl⟩ := List.mem_map.1 hl
    exact chs_le s c hc
theorem cont_len (S : List (List B8)) : (cont S).length = 1 + total S := by unfold cont; rw [List.length_cons, cts_len]; omega
theorem img_len {S : List (List B8)} (h60 : S.length ≤ 60) : (img S).length = 264 * (1 + total S) := by unfold img; rw [pgs_len _ _ (cont_le h60), cont_len]
theorem img_at {S : List (List B8)} (hV : Valid S) {j : Nat} (h : j < (cont S).length) : pgAt (img S) j = put (pg j (cont S)[j]) := by
  unfold pgAt img
  rw [pgs_at _ _ _ (cont_le hV.1) h, Nat.zero_add]
theorem img_ok {S : List (List B8)} (hV : Valid S) {j : Nat} (h : j < 1 + total S) : pgOk (img S) j := by
  have hj : j < (cont S).length := by rw [cont_len]; exact h
  have := getR_parts (n := j) (L := (cont S)[j]) (by have := hV.2; omega) (cont_le hV.1 _ (List.getElem_mem hj))
  unfold pgOk
  rw [img_at hV hj]
  exact ⟨this.1, this.2.1⟩
theorem img_held {S : List (List B8)} (hV : Valid S) : held (img S) (1 + total S) 0 = (cont S).map body := by
  apply List.ext_getElem?
  intro j
  by_cases h : j < 1 + total S
  · have hj : j < (cont S).length := by rw [cont_len]; exact h
    have := getR_parts (n := j) (L := (cont S)[j]) (by have := hV.2; omega) (cont_le hV.1 _ (List.getElem_mem hj))
    unfold held
    rw [List.getElem?_map, List.getElem?_range (by omega), Option.map_some, Nat.zero_add, img_at hV hj, this.2.2, List.getElem?_map, List.getElem?_eq_getElem hj]; rfl
  · rw [List.getElem?_eq_none (by rw [held_len]; omega), List.getElem?_eq_none (by rw [List.length_map, cont_len]; omega)]
/-! ### the head reads back -/
theorem flat4_get {S : List (List B8)} : ∀ {i k : Nat}, (h : i < S.length) → k < 4 → ((S.map fun s => le4 s.length).flatten)[4 * i + k]? = some (byteAt S[i].length k) := by
  induction S with
  | nil => intro i k h; simp at h
  | cons s S ih =>
    intro i k h hk
    rw [List.map_cons, List.flatten_cons]
    cases i with
    | zero =>
      rw [List.getElem?_append_left (by simp [le4]; omega)]
      match k, hk with
      | 0, _ => rfl
      | 1, _ => rfl
      | 2, _ => rfl
      | 3, _ => rfl
    | succ i =>
      rw [List.getElem?_append_right (by simp [le4]; omega), show 4 * (i + 1) + k - (le4 s.length).length = 4 * i + k from by simp [le4]; omega]
      exact ih (by simpa using h) hk
theorem hd_get {S : List (List B8)} {i k : Nat} (h : i < S.length) (hk : k < 4) : (hd S)[6 + 4 * i + k]? = some (byteAt S[i].length k) := by
  unfold hd
  rw [List.getElem?_append_right (by simp [colo, le2]; omega), show 6 + 4 * i + k - (colo ++ le2 S.length).length = 4 * i + k from by simp [colo, le2]; omega]
  exact flat4_get h hk
theorem body_get {L : List B8} {j : Nat} (h : j < L.length) : (body L).getD j 0#8 = L.getD j 0#8 := by
  unfold body
  rw [List.getD_eq_getElem?_getD, List.getElem?_append_left h, List.getD_eq_getElem?_getD]
theorem head_cnt {S : List (List B8)} (h60 : S.length ≤ 60) : cnt (body (hd S)) = S.length := by
  have hl := hd_len S
  unfold cnt
  rw [body_get (by omega), body_get (by omega)]
  show (byteAt S.length 0).toNat + 256 * (byteAt S.length 1).toNat = _
  rw [byte_nat, byte_nat]; omega
theorem head_sz {S : List (List B8)} (h60 : S.length ≤ 60) {i : Nat} (hi : i < S.length) (hs : S[i].length < 4294967296) : szAt (body (hd S)) i = S[i].length := by
  have hl := hd_len S
  have g : ∀ k, k < 4 → (body (hd S)).getD (6 + 4 * i + k) 0#8 = byteAt S[i].length k := fun k hk => by
    rw [body_get (by omega), List.getD_eq_getElem?_getD, hd_get hi hk]; rfl
  have g0 := g 0 (by omega)
  rw [Nat.add_zero] at g0
  unfold szAt
  rw [g0, g 1 (by omega), g 2 (by omega), g 3 (by omega), byte_nat, byte_nat, byte_nat, byte_nat]
  simp only [Nat.mul_zero, Nat.pow_zero, Nat.div_one, show 2 ^ (8 * 1) = 256 from rfl, show 2 ^ (8 * 2) = 65536 from rfl, show 2 ^ (8 * 3) = 16777216 from rfl]
  omega
theorem head_sizes {S : List (List B8)} (h60 : S.length ≤ 60) (hS : ∀ s ∈ S, s.length < 4294967296) : sizes (body (hd S)) = lens S := by
  apply List.ext_getElem?
  intro i
  unfold sizes lens
  rw [head_cnt h60]
  by_cases h : i < S.length
  · rw [List.getElem?_map, List.getElem?_range h, Option.map_some, head_sz h60 h (hS _ (List.getElem_mem h)), List.getElem?_map, List.getElem?_eq_getElem h]; rfl
  · rw [List.getElem?_eq_none (by simp; omega), List.getElem?_eq_none (by simp; omega)]
theorem head_colo (S : List (List B8)) : (body (hd S)).take 4 = colo := by
  unfold body hd
  rw [List.append_assoc, List.append_assoc]; rfl
/-! ### the sections read back -/
theorem chs_cons {s : List B8} (h : 256 < s.length) : chs s = s.take 256 :: chs (s.drop 256) := by
  unfold chs
  rw [show many s.length = many (s.drop 256).length + 1 from by rw [List.length_drop]; unfold many; omega, List.range_succ_eq_map, List.map_cons, List.map_map, Nat.mul_zero, List.drop_zero]
  congr 1
  refine List.map_congr_left fun i _ => ?_
  simp only [Function.comp_def]
  rw [List.drop_drop, show 256 * (i + 1) = 256 + 256 * i by omega]
theorem chs_back : ∀ (m : Nat) (s : List B8), s.length ≤ m → (((chs s).map body).flatten).take s.length = s := by
  intro m
  induction m with
  | zero => intro s h; have : s = [] := List.eq_nil_of_length_eq_zero (by omega); subst this; rfl
  | succ m ih =>
    intro s h
    by_cases h1 : 256 < s.length
    · have hb : body (s.take 256) = s.take 256 := by
        unfold body; rw [List.length_take, show 256 - min 256 s.length = 0 by omega]; simp
      rw [chs_cons h1, List.map_cons, List.flatten_cons, hb]
      have := ih (s.drop 256) (by rw [List.length_drop]; omega)
      have hl : (s.take 256).length = 256 := by rw [List.length_take]; omega
      rw [show s.length = (s.take 256).length + (s.drop 256).length by rw [hl, List.length_drop]; omega, List.take_length_add_append, this, List.take_append_drop]
    · by_cases h0 : s = []
      · subst h0; rfl
      · have hp : 0 < s.length := List.length_pos_iff.2 h0
        have e : chs s = [s] := by
          unfold chs
          rw [show many s.length = 1 from by unfold many; omega]
          show [(s.drop (256 * 0)).take 256] = [s]
          rw [Nat.mul_zero, List.drop_zero, List.take_of_length_le (by omega)]
        rw [e]
        show ((body s) ++ []).take s.length = s
        rw [List.append_nil]
        unfold body
        rw [List.take_left]
theorem cts_take (S : List (List B8)) (i : Nat) : cts S = cts (S.take i) ++ cts (S.drop i) := by
  unfold cts
  conv => lhs; rw [← List.take_append_drop i S, List.map_append, List.flatten_append]
theorem cut_img {S : List (List B8)} (hV : Valid S) (hS : ∀ s ∈ S, s.length ≤ 2000000) : secs ((cont S).map body) (lens S) = S := by
  apply List.ext_getElem?
  intro i
  by_cases h : i < S.length
  · have hl : i < (lens S).length := by unfold lens; rw [List.length_map]; exact h
    rw [secs_get hl, List.getElem?_eq_getElem h]
    congr 1
    have e1 : (lens S)[i] = S[i].length := by simp [lens]
    have e2 : totZ ((lens S).take i) = total (S.take i) := by rw [← totZ_lens]; unfold lens; rw [List.map_take]
    have e3 : ((cont S).map body).drop (1 + totZ ((lens S).take i)) = (chs S[i] ++ cts (S.drop (i + 1))).map body := by
      rw [e2, Nat.add_comm]
      unfold cont
      rw [List.map_cons, List.drop_succ_cons, ← List.map_drop]
      congr 1
      rw [cts_take S i, ← cts_len (S.take i), List.drop_left, cts_drop h]
    unfold secAt
    rw [e3, e1, List.map_append, ← chs_len S[i], ← List.length_map (f := body), List.take_left]
    exact chs_back _ _ (Nat.le_refl _)
  · rw [List.getElem?_eq_none (by rw [secs_len]; unfold lens; rw [List.length_map]; omega), List.getElem?_eq_none (by omega)]
theorem img_paged {S : List (List B8)} (hV : Valid S) (hS : ∀ s ∈ S, s.length ≤ 2000000) : Paged (img S) (1 + total S) ∧ cut (img S) (1 + total S) = S ∧ (pgAt (img S) 0).take 256 = body (hd S) := by
  have h0 : (pgAt (img S) 0).take 256 = body (hd S) := by
    rw [img_at hV (by rw [cont_len]; omega)]
    exact (getR_parts (by omega) (cont_le hV.1 _ (List.getElem_mem _))).2.2
  have hsz : sizes (body (hd S)) = lens S := head_sizes hV.1 (fun s hs => by have := hS s hs; omega)
  refine ⟨⟨img_len hV.1, by omega, hV.2, fun j hj => img_ok hV hj, ?_⟩, ?_, h0⟩
  · rw [h0]
    exact ⟨head_colo S, by rw [head_cnt hV.1]; exact hV.1, by rw [hsz, totZ_lens]⟩
  · unfold cut
    rw [h0, hsz, img_held hV, cut_img hV hS]
theorem open_img {S : List (List B8)} (hV : Valid S) (hS : ∀ s ∈ S, s.length ≤ 2000000) : image_Open.f ((img S).map ub) = some (some (((cont S).map body).map (·.map ub), ints (lens S), ints (firsts 1 (lens S))), 0) := by
  obtain ⟨h1, h2, h3⟩ := img_paged hV hS
  have hl := img_len hV.1
  have hV2 := hV.2
  rcases open_f (img S) (by omega) with ⟨n, g1, g2, g3⟩ | ⟨g1, _⟩
  · have hn : n = 1 + total S := by have := g1.1; omega
    subst hn
    rw [g3]
    unfold obj
    rw [h3, head_sizes hV.1 (fun s hs => by have := hS s hs; omega), img_held hV]
  · exact absurd (by rw [h2]) (g1 _ h1)
end Img
end Go.Proofs.Ytbcdcpkofgfofaa
