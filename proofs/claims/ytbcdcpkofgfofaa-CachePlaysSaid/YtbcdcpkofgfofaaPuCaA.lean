/-
  Caches in plain words: the image that is looked at, the caches that are made. No condition.
-/
import Derived.Test.YtbcdcpkofgfofaaPuImgF
import Derived.Test.YtbcdcpkofgfofaaGP1d
namespace Go.Proofs.Ytbcdcpkofgfofaa
open Go Go.Gol
set_option linter.unusedVariables false
set_option linter.unusedSimpArgs false
set_option maxRecDepth 100000
namespace Ca
open Crc Page Img
theorem page_g {S : List (List B8)} (hV : Valid S) {n : Nat} (h : n < (cont S).length) : image_Image_Page.f (some (objS S)) (n : Int) = some ((body (cont S)[n]).map ub, 0) := by
  unfold image_Image_Page.f
  have hl : ((objS S).1.length : Int) = ((cont S).length : Int) := by show (((((cont S).map body).map (·.map ub)).length : Nat) : Int) = _; rw [List.length_map, List.length_map]
  have hb := body_len _ (cont_le hV.1 _ (List.getElem_mem h))
  show (if decide ((n : Int) < 0) then _ else _) = _
  rw [if_neg (by rw [decide_eq_true_eq]; omega), if_neg (by rw [decide_eq_true_eq, hl]; omega)]
  have ha : at? (objS S).1 (n : Int) = some ((body (cont S)[n]).map ub) := by
    show at? (((cont S).map body).map (·.map ub)) (n : Int) = _
    rw [at?_nat, List.getElem?_map, List.getElem?_map, List.getElem?_eq_getElem h]; rfl
  rw [ha, Option.bind_some, clone_f _ (by rw [List.length_map, hb]; omega)]; rfl
theorem page_no (S : List (List B8)) {i : Int} (h : i < 0 ∨ ((cont S).length : Int) ≤ i) : image_Image_Page.f (some (objS S)) i = some ([], 222) := by
  unfold image_Image_Page.f
  have hl : ((objS S).1.length : Int) = ((cont S).length : Int) := by show (((((cont S).map body).map (·.map ub)).length : Nat) : Int) = _; rw [List.length_map, List.length_map]
  show (if decide (i < 0) then _ else _) = _
  by_cases h0 : i < 0
  · rw [if_pos (by rw [decide_eq_true_eq]; exact h0)]
  · rw [if_neg (by rw [decide_eq_true_eq]; exact h0), if_pos (by rw [decide_eq_true_eq, hl]; omega)]
/-! ### the image -/
def blk (i : Nat) : List B8 := BitVec.ofNat 8 (i + 1) :: List.replicate 255 0#8
def sec (n : Nat) : List B8 := ((List.range n).map blk).flatten
theorem blk_len (i : Nat) : (blk i).length = 256 := by simp [blk]
theorem sec_succ (n : Nat) : sec (n + 1) = sec n ++ blk n := by
  unfold sec; rw [List.range_succ, List.map_append, List.flatten_append]; simp
theorem sec_len (n : Nat) : (sec n).length = 256 * n := by
  induction n with
  | zero => rfl
  | succ n ih => rw [sec_succ, List.length_append, ih, blk_len]; omega
theorem sec_chunk {n j : Nat} (h : j < n) : ((sec n).drop (256 * j)).take 256 = blk j := by
  induction n with
  | zero => omega
  | succ n ih =>
    have hl := sec_len n
    rw [sec_succ]
    by_cases hj : j = n
    · subst hj
      rw [← hl, List.drop_left, List.take_of_length_le (by rw [blk_len]; omega)]
    · rw [List.drop_append_of_le_length (by omega), List.take_append_of_le_length (by rw [List.length_drop]; omega)]
      exact ih (by omega)
theorem blk_ub (i : Nat) : set? (List.replicate 256 (0 : Int)) 0 (IntKind.wrap .u8 (wi ((i : Int) + 1))) = some ((blk i).map ub) ∨ ¬ i < 1000000 := by
  by_cases hi : i < 1000000
  · left
    have e : IntKind.wrap .u8 (wi ((i : Int) + 1)) = ub (BitVec.ofNat 8 (i + 1)) := by
      rw [wi_eq (by omega) (by omega), wrap_u8_eq]
      show _ = ((BitVec.ofNat 8 (i + 1)).toNat : Int)
      rw [BitVec.toNat_ofNat]; omega
    rw [e, show (0 : Int) = ((0 : Nat) : Int) from rfl, set?_nat _ (by simp)]
    unfold blk
    rw [List.map_cons, List.map_replicate]; rfl
  · exact .inr hi
theorem made_l1 (n : Nat) (hn : n ≤ 4000) : ∀ (m k i : Nat), n - i = m → m < k → i ≤ n → colophonlaw07_made.l1 (n : Int) k ((sec i).map ub) (i : Int) = some ((sec n).map ub) := by
  intro m
  induction m with
  | zero => intro k i h1 h2 h3; cases k with
    | zero => omega
    | succ k =>
      have e : i = n := by omega
      rw [colophonlaw07_made.l1, if_neg (by rw [decide_eq_true_eq]; omega), e]
  | succ m ih => intro k i h1 h2 h3; cases k with
    | zero => omega
    | succ k =>
      have hm : make? 140737488355328 (0 : Int) 256 = some (List.replicate 256 0) := by
        have := make?_nat (lim := 140737488355328) (0 : Int) (n := 256) (by decide)
        exact this
      have ha : at? (List.replicate 256 (0 : Int)) 0 = some 0 := by decide +kernel
      have hb := (blk_ub i).resolve_right (by omega)
      rw [colophonlaw07_made.l1, if_pos (by rw [decide_eq_true_eq]; omega), hm, Option.bind_some, ha, Option.bind_some, hb, Option.bind_some, app?_eq (by rw [List.length_map, List.length_map, sec_len, blk_len]; omega), Option.bind_some, ← List.map_append, ← sec_succ, wi_eq (by omega) (by omega), show ((i : Int) + 1) = ((i + 1 : Nat) : Int) by omega]
      exact ih k (i + 1) (by omega) (by omega) (by omega)
abbrev Fr := Int × List Int × Bool × Int
abbrev Cx := Option Obj3 × List Fr × Int × Int × Int
def fr0 : Fr := (-1, [], false, 0)
theorem made_l2 (y : Option Obj3) (n : Nat) (hn : n ≤ 4096) : ∀ (m k i : Nat), n - i = m → m < k → i ≤ n → colophonlaw07_made.l2 (n : Int) k (i : Int) (y, List.replicate i fr0, 0, 0, 0) = some (y, List.replicate n fr0, 0, 0, 0) := by
  intro m
  induction m with
  | zero => intro k i h1 h2 h3; cases k with
    | zero => omega
    | succ k =>
      have e : i = n := by omega
      rw [colophonlaw07_made.l2, if_neg (by rw [decide_eq_true_eq]; omega), e]
  | succ m ih => intro k i h1 h2 h3; cases k with
    | zero => omega
    | succ k =>
      rw [colophonlaw07_made.l2, if_pos (by rw [decide_eq_true_eq]; omega)]
      simp only []
      rw [app?_eq (by simp; omega), Option.bind_some, wi_eq (by omega) (by omega), show ((i : Int) + 1) = ((i + 1 : Nat) : Int) by omega]
      have := ih k (i + 1) (by omega) (by omega) (by omega)
      rw [List.replicate_succ'] at this
      exact this
theorem one_valid {n : Nat} (hn : n ≤ 4000) : Valid [sec n] ∧ (∀ s ∈ [sec n], s.length ≤ 2000000) ∧ total [sec n] = n := by
  have ht : total [sec n] = n := by
    unfold total
    rw [List.map_cons, List.map_nil, List.sum_cons, List.sum_nil, sec_len]
    unfold many; omega
  refine ⟨⟨by simp, by omega⟩, fun s hs => ?_, ht⟩
  rw [List.mem_singleton] at hs
  subst hs
  rw [sec_len]; omega
def theM (n : Nat) : Option Obj3 := some (objS [sec n])
theorem made_f (n : Nat) (hn : n ≤ 4000) (k : Int) : colophonlaw07_made.f (n : Int) k = some (if k < 1 ∨ 4096 < k then none else some (theM n, List.replicate k.toNat fr0, 0, 0, 0)) := by
  obtain ⟨hV, hS, ht⟩ := one_valid hn
  unfold colophonlaw07_made.f
  have h1 := made_l1 n hn n FU 0 (by omega) (by show n < 4611686018427387904; omega) (by omega)
  rw [show ((0 : Nat) : Int) = 0 from rfl, show (sec 0).map ub = [] from rfl] at h1
  have hb := build_f [sec n] hS
  rw [if_pos hV] at hb
  have hb' : image_Build.f [(sec n).map ub] = some ((img [sec n]).map ub, 0) := hb
  have ho : image_Open.f ((img [sec n]).map ub) = some (some (objS [sec n]), 0) := open_img hV hS
  rw [h1, Option.bind_some, hb', Option.bind_some, ho, Option.bind_some]
  simp only []
  by_cases k1 : k < 1
  · rw [if_pos (by rw [decide_eq_true_eq]; exact k1), if_pos (.inl k1)]
  rw [if_neg (by rw [decide_eq_true_eq]; exact k1)]
  by_cases k2 : k > 4096
  · rw [if_pos (by rw [decide_eq_true_eq]; exact k2), if_pos (.inr (by omega))]
  rw [if_neg (by rw [decide_eq_true_eq]; exact k2), if_neg (by omega)]
  have h2 := made_l2 (some (objS [sec n])) k.toNat (by omega) k.toNat FU 0 (by omega) (by show k.toNat < 4611686018427387904; omega) (by omega)
  rw [show ((0 : Nat) : Int) = 0 from rfl, show ((k.toNat : Nat) : Int) = k by omega] at h2
  have h2' : colophonlaw07_made.l2 k FU 0 (some (objS [sec n]), [], 0, 0, 0) = some (some (objS [sec n]), List.replicate k.toNat fr0, 0, 0, 0) := h2
  rw [h2', Option.bind_some]; rfl
/-- an image with the pages 0 to N, each but the first of its number -/
def PgOk (m : Option Obj3) (N : Nat) : Prop :=
  (∀ k : Int, 0 ≤ k → k ≤ N → ∃ b, image_Image_Page.f m k = some (b, 0) ∧ b.length = 256 ∧ (0 < k → b[0]? = some k)) ∧ ∀ k : Int, (k < 0 ∨ (N : Int) < k) → image_Image_Page.f m k = some ([], 222)
theorem theM_ok {n : Nat} (hn : n ≤ 200) : PgOk (theM n) n := by
  obtain ⟨hV, hS, ht⟩ := one_valid (n := n) (by omega)
  have hc : (cont [sec n]).length = 1 + n := by rw [cont_len, ht]
  refine ⟨fun k h0 h1 => ?_, fun k h => page_no [sec n] (by rw [hc]; omega)⟩
  obtain ⟨j, rfl⟩ : ∃ j : Nat, k = (j : Int) := ⟨k.toNat, by omega⟩
  have hj : j < (cont [sec n]).length := by omega
  refine ⟨_, page_g hV hj, by rw [List.length_map, body_len _ (cont_le hV.1 _ (List.getElem_mem hj))], fun hp => ?_⟩
  obtain ⟨i, rfl⟩ : ∃ i, j = i + 1 := ⟨j - 1, by omega⟩
  have e1 : (cont [sec n])[i + 1]? = some (blk i) := by
    unfold cont cts
    rw [List.getElem?_cons_succ]
    show ((chs (sec n) ++ []))[i]? = _
    rw [List.append_nil, chs_get (by unfold many; rw [sec_len]; omega), sec_chunk (by omega)]
  have e2 : (cont [sec n])[i + 1] = blk i := by
    rw [List.getElem?_eq_getElem hj] at e1
    exact Option.some.inj e1
  rw [e2]
  have e3 : ub (BitVec.ofNat 8 (i + 1)) = ((i + 1 : Nat) : Int) := by
    show ((BitVec.ofNat 8 (i + 1)).toNat : Int) = _
    rw [BitVec.toNat_ofNat]; omega
  rw [← e3]; rfl
end Ca
end Go.Proofs.Ytbcdcpkofgfofaa
