/-
  Sections as an image, and back, in plain words. No condition.
-/
import Derived.Test.YtejjdfnelalnoaaPuImgF
import Derived.Test.YtejjdfnelalnoaaGImageBuilds
namespace Go.Proofs.Ytejjdfnelalnoaa
open Go Go.Gol
set_option linter.unusedVariables false
set_option linter.unusedSimpArgs false
set_option maxRecDepth 100000
namespace Img
open Crc Page
theorem read_l1 {S : List (List B8)} (hV : Valid S) (hS : ∀ s ∈ S, s.length ≤ 2000000) : ∀ (m k i : Nat) (acc : List (List Int)), S.length - i = m → m < k → i ≤ S.length → acc.length = i →
    colophonlaw06_read.l1 (some (objS S)) (S.length : Int) k acc (i : Int) = some (acc ++ (S.drop i).map (·.map ub)) := by
  have h60 := hV.1
  intro m
  induction m with
  | zero => intro k i acc h1 h2 h3 h4; cases k with
    | zero => omega
    | succ k =>
      rw [colophonlaw06_read.l1, if_neg (by rw [decide_eq_true_eq]; omega), List.drop_of_length_le (by omega)]; simp
  | succ m ih => intro k i acc h1 h2 h3 h4; cases k with
    | zero => omega
    | succ k =>
      have hil : i < S.length := by omega
      rw [colophonlaw06_read.l1, if_pos (by rw [decide_eq_true_eq]; omega), sec_g hV hS hil, Option.bind_some, app?_eq (by simp; omega), Option.bind_some, wi_eq (by omega) (by omega), show ((i : Int) + 1) = ((i + 1 : Nat) : Int) by omega, ih k (i + 1) _ (by omega) (by omega) (by omega) (by simp; omega), List.drop_eq_getElem_cons hil, List.append_assoc]; rfl
theorem read_g {S : List (List B8)} (hV : Valid S) (hS : ∀ s ∈ S, s.length ≤ 2000000) : colophonlaw06_read.f (some (objS S)) = some (S.map (·.map ub)) := by
  unfold colophonlaw06_read.f
  have h := read_l1 hV hS S.length FU 0 [] (by omega) (by have := hV.1; show S.length < 4611686018427387904; omega) (by omega) rfl
  rw [show ((0 : Nat) : Int) = 0 from rfl, List.drop_zero, List.nil_append] at h
  rw [sections_g, Option.bind_some, h]; rfl
theorem first_no (S : List (List B8)) {i : Int} (h : i < 0 ∨ (S.length : Int) ≤ i) : image_Image_First.f (some (objS S)) i = some 0 := by
  unfold image_Image_First.f; rw [has_no S h, Option.bind_some]; rfl
theorem size_no (S : List (List B8)) {i : Int} (h : i < 0 ∨ (S.length : Int) ≤ i) : image_Image_Size.f (some (objS S)) i = some 0 := by
  unfold image_Image_Size.f; rw [has_no S h, Option.bind_some]; rfl
theorem sec_no (S : List (List B8)) {i : Int} (h : i < 0 ∨ (S.length : Int) ≤ i) : image_Image_Section.f (some (objS S)) i = some [] := by
  unfold image_Image_Section.f; rw [has_no S h, Option.bind_some]; rfl
theorem page_g {S : List (List B8)} (hV : Valid S) {n : Nat} (h : n < (cont S).length) : image_Image_Page.f (some (objS S)) (n : Int) = some ((body (cont S)[n]).map ub, 0) := by
  unfold image_Image_Page.f
  have hl : ((objS S).1.length : Int) = ((cont S).length : Int) := by show (((((cont S).map body).map (·.map ub)).length : Nat) : Int) = _; rw [List.length_map, List.length_map]
  have hb := body_len _ (cont_le hV.1 _ (List.getElem_mem h))
  show (if decide ((n : Int) < 0) then _ else _) = _
  rw [if_neg (by rw [decide_eq_true_eq]; omega), if_neg (by rw [decide_eq_true_eq, hl]; omega)]
  have ha : at? (objS S).1 (n : Int) = some ((body (cont S)[n]).map ub) := by
    show at? (((cont S).map body).map (·.map ub)) (n : Int) = _
    rw [at?_nat, List.getElem?_map, List.getElem?_map, List.getElem?_eq_getElem h]; rfl
  rw [ha, Option.bind_some, clone_f _ (by rw [List.length_map, hb]; omega)]; rfl
theorem page_no (S : List (List B8)) {i : Int} (h : i < 0 ∨ ((cont S).length : Int) ≤ i) : image_Image_Page.f (some (objS S)) i = some ([], 222) := by
  unfold image_Image_Page.f
  have hl : ((objS S).1.length : Int) = ((cont S).length : Int) := by show (((((cont S).map body).map (·.map ub)).length : Nat) : Int) = _; rw [List.length_map, List.length_map]
  show (if decide (i < 0) then _ else _) = _
  by_cases h0 : i < 0
  · rw [if_pos (by rw [decide_eq_true_eq]; exact h0)]
  · rw [if_neg (by rw [decide_eq_true_eq]; exact h0), if_pos (by rw [decide_eq_true_eq, hl]; omega)]
theorem total_take' {S : List (List B8)} {i : Nat} (h : i < S.length) : total (S.take (i + 1)) = total (S.take i) + many S[i].length := by
  unfold total
  rw [List.take_add_one, List.getElem?_eq_getElem h, Option.toList_some, List.map_append, List.sum_append, List.map_cons, List.map_nil, List.sum_cons, List.sum_nil, Nat.add_zero]
theorem total_le' (S : List (List B8)) (i : Nat) : total (S.take i) ≤ total S := by
  unfold total
  conv => rhs; rw [← List.take_append_drop i S, List.map_append, List.sum_append]
  omega
theorem builds_l1 {S : List (List B8)} (a2 : Int) (hV : Valid S) (hS : ∀ s ∈ S, s.length ≤ 2000000) : ∀ (m k i : Nat), S.length - i = m → m < k → i ≤ S.length →
    colophonlaw06_ImageBuilds.l1 (S.map (·.map ub)) a2 (objS S) k ((1 + total (S.take i) : Nat) : Int) (i : Int) = some (.inr ()) := by
  have h60 := hV.1
  have hv := hV.2
  intro m
  induction m with
  | zero => intro k i h1 h2 h3; cases k with
    | zero => omega
    | succ k =>
      rw [colophonlaw06_ImageBuilds.l1, if_neg (by rw [decide_eq_true_eq, List.length_map]; omega)]
  | succ m ih => intro k i h1 h2 h3; cases k with
    | zero => omega
    | succ k =>
      have hil : i < S.length := by omega
      have hsi := hS _ (List.getElem_mem hil)
      have ht := total_le' S i
      have hm : many S[i].length = (S[i].length + 255) / 256 := rfl
      have e1 : wi (((1 + total (S.take i) : Nat) : Int) + wi (Int.tdiv (wi (((S[i].map ub).length : Int) + 255)) 256)) = ((1 + total (S.take (i + 1)) : Nat) : Int) := by
        rw [List.length_map, wi_eq (n := (S[i].length : Int) + 255) (by omega) (by omega), Int.tdiv_eq_ediv_of_nonneg (by omega), wi_eq (n := ((S[i].length : Int) + 255) / 256) (by omega) (by omega), wi_eq (by omega) (by omega), total_take' hil, hm]; omega
      rw [colophonlaw06_ImageBuilds.l1, if_pos (by rw [decide_eq_true_eq, List.length_map]; omega), at_sec hil, Option.bind_some, e1, wi_eq (n := (i : Int) + 1) (by omega) (by omega), show ((i : Int) + 1) = ((i + 1 : Nat) : Int) by omega, ih k (i + 1) (by omega) (by omega) (by omega)]
      by_cases ha : (i : Int) = a2
      · subst ha
        rw [if_pos (by simp), first_g S hil, Option.bind_some, if_neg (by simp), size_g S hil, Option.bind_some, if_neg (by simp)]
      · rw [if_neg (by simpa using ha)]
end Img
open Img Crc Page
theorem pure_ImageBuilds (l0 : List (List Int)) (F0 : Fits (.slice 22 (.slice 5 (.int .u8))) l0) (S0 : l0.length * 24 ≤ 140737488351232) (a1 : Int) (F1 : Fits (.int .i64) a1) (a2 : Int) (F2 : Fits (.int .i64) a2) : colophonlaw06_ImageBuilds.f l0 a1 a2 = some true := by
  obtain ⟨S, rfl⟩ := rows_ex (e := 22) (f := 5) F0.2
  rw [List.length_map] at S0
  unfold colophonlaw06_ImageBuilds.f
  rw [Img.first_f, Option.bind_some, if_neg (by simp)]
  obtain ⟨z, hz, hz2⟩ := size_f S (by omega)
  rw [hz, Option.bind_some]
  by_cases h1 : z > 1200000
  · rw [if_pos (by rw [decide_eq_true_eq]; exact h1)]
  rw [if_neg (by rw [decide_eq_true_eq]; exact h1)]
  obtain ⟨hS, _⟩ := hz2 (by omega)
  rw [build_f S hS, Option.bind_some, refbuild_f S hS, Option.bind_some]
  by_cases hV : ¬ Valid S
  · rw [if_neg hV, if_neg (by simp), if_neg (by simp), if_pos (by simp)]; rfl
  replace hV : Valid S := Classical.byContradiction hV
  have h60 := hV.1
  have hv := hV.2
  have hl := img_len hV.1
  have ho : image_Open.f ((img S).map ub) = some (some (objS S), 0) := open_img hV hS
  rw [if_pos hV, if_neg (by simp), if_neg (by simp), if_neg (by simp)]
  simp only []
  rw [ho, Option.bind_some, if_neg (by simp)]
  simp only []
  rw [read_g hV hS, Option.bind_some, same_f S S (by omega) (by omega), Option.bind_some, if_neg (by simp), pages_g, Option.bind_some]
  have hq : wi (Int.tdiv (((img S).map ub).length : Int) 264) = ((1 + total S : Nat) : Int) := by
    rw [List.length_map, hl, Int.tdiv_eq_ediv_of_nonneg (by omega), wi_eq (by omega) (by omega)]; omega
  rw [if_neg (by rw [hq]; simp)]
  have hcl := cont_len S
  by_cases g1 : a1 < 0
  · rw [page_no S (.inl g1), Option.bind_some, if_pos (by rw [decide_eq_true_eq]; exact g1)]; rfl
  by_cases g2 : a1 ≥ ((1 + total S : Nat) : Int)
  · rw [page_no S (.inr (by omega)), Option.bind_some, if_neg (by rw [decide_eq_true_eq]; exact g1), Option.bind_some, if_pos (by rw [decide_eq_true_eq]; exact g2)]; rfl
  obtain ⟨n, rfl⟩ : ∃ n : Nat, a1 = (n : Int) := ⟨a1.toNat, by omega⟩
  have hn : n < (cont S).length := by omega
  rw [page_g hV hn, Option.bind_some, if_neg (by rw [decide_eq_true_eq]; exact g1), Option.bind_some, if_neg (by rw [decide_eq_true_eq]; exact g2), if_neg (by simp)]
  have hsub : sub? ((img S).map ub) (wi (264 * (n : Int))) (wi (wi (264 * (n : Int)) + 256)) = some ((body (cont S)[n]).map ub) := by
    rw [wi_eq (n := 264 * (n : Int)) (by omega) (by omega), wi_eq (by omega) (by omega), show 264 * (n : Int) = ((264 * n : Nat) : Int) by omega, show ((264 * n : Nat) : Int) + 256 = ((264 * n + 256 : Nat) : Int) by omega, sub?_nat _ (by omega) (by rw [List.length_map, hl]; omega), ← List.map_take, ← List.map_drop, List.drop_take, Nat.add_sub_cancel_left]
    have hp := img_at hV hn
    have h3 := (getR_parts (n := n) (L := (cont S)[n]) (by omega) (cont_le hV.1 _ (List.getElem_mem hn))).2.2
    rw [← hp] at h3
    unfold pgAt at h3
    rw [List.take_take] at h3
    rw [← h3]; rfl
  rw [hsub, Option.bind_some, if_neg (by simp), Option.bind_some]
  have hb := builds_l1 a2 hV hS S.length FU 0 (by omega) (by show S.length < 4611686018427387904; omega) (by omega)
  rw [List.take_zero, show ((1 + total ([] : List (List B8)) : Nat) : Int) = 1 from rfl, show ((0 : Nat) : Int) = 0 from rfl] at hb
  rw [hb, Option.bind_some]
  simp only []
  by_cases k1 : a2 ≥ 0
  · rw [if_pos (by rw [decide_eq_true_eq]; exact k1)]
    by_cases k2 : a2 < (S.length : Int)
    · rw [if_pos (by rw [decide_eq_true_eq, List.length_map]; exact k2)]
    · rw [if_neg (by rw [decide_eq_true_eq, List.length_map]; exact k2), first_no S (.inr (by omega)), Option.bind_some, if_pos (by simp), size_no S (.inr (by omega)), Option.bind_some, if_pos (by simp), sec_no S (.inr (by omega))]; rfl
  · rw [if_neg (by rw [decide_eq_true_eq]; exact k1), first_no S (.inl (by omega)), Option.bind_some, if_pos (by simp), size_no S (.inl (by omega)), Option.bind_some, if_pos (by simp), sec_no S (.inl (by omega))]; rfl
end Go.Proofs.Ytejjdfnelalnoaa
