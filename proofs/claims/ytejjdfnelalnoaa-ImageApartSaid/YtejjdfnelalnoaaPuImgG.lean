/-
  Images are alike just if their sections are, in plain words. No condition.
-/
import Derived.Test.YtejjdfnelalnoaaPuImgF
import Derived.Test.YtejjdfnelalnoaaGImageApart
namespace Go.Proofs.Ytejjdfnelalnoaa
open Go Go.Gol
set_option linter.unusedVariables false
set_option linter.unusedSimpArgs false
set_option maxRecDepth 100000
namespace Img
open Crc Page
theorem total_take {S : List (List B8)} {i : Nat} (h : i < S.length) : total (S.take (i + 1)) = total (S.take i) + many S[i].length := by
  unfold total
  rw [List.take_add_one, List.getElem?_eq_getElem h, Option.toList_some, List.map_append, List.sum_append, List.map_cons, List.map_nil, List.sum_cons, List.sum_nil, Nat.add_zero]
theorem total_le (S : List (List B8)) (i : Nat) : total (S.take i) ≤ total S := by
  unfold total
  conv => rhs; rw [← List.take_append_drop i S, List.map_append, List.sum_append]
  omega
theorem apart_l2 {S : List (List B8)} (hV : Valid S) {i : Nat} (h : i < S.length) (hs : S[i].length ≤ 2000000) : ∀ (m k a : Nat), 1 + total (S.take i) + many S[i].length - a = m → m < k → 1 + total (S.take i) ≤ a → a ≤ 1 + total (S.take i) + many S[i].length →
    colophonlaw06_ImageApart.l2 (objS S) (i : Int) k (a : Int) = some ((1 + total (S.take i) + many S[i].length : Nat) : Int) := by
  have hm : many S[i].length = (S[i].length + 255) / 256 := rfl
  have ht := total_le S i
  have hv := hV.2
  intro m
  induction m with
  | zero => intro k a h1 h2 h3 h4; cases k with
    | zero => omega
    | succ k =>
      rw [colophonlaw06_ImageApart.l2, first_g S h, Option.bind_some, size_g S h, Option.bind_some, wi_eq (n := (a : Int) * 256) (by omega) (by omega), wi_eq (n := 256 * _) (by omega) (by omega), wi_eq (by omega) (by omega), if_neg (by rw [decide_eq_true_eq]; omega), show a = 1 + total (S.take i) + many S[i].length by omega]
  | succ m ih => intro k a h1 h2 h3 h4; cases k with
    | zero => omega
    | succ k =>
      rw [colophonlaw06_ImageApart.l2, first_g S h, Option.bind_some, size_g S h, Option.bind_some, wi_eq (n := (a : Int) * 256) (by omega) (by omega), wi_eq (n := 256 * _) (by omega) (by omega), wi_eq (n := _ + ((S[i].length : Nat) : Int)) (by omega) (by omega), if_pos (by rw [decide_eq_true_eq]; omega), wi_eq (by omega) (by omega), show ((a : Int) + 1) = ((a + 1 : Nat) : Int) by omega]
      exact ih k (a + 1) (by omega) (by omega) (by omega) (by omega)
theorem apart_l1 (T : List (List Int)) {S : List (List B8)} (hV : Valid S) (hS : ∀ s ∈ S, s.length ≤ 2000000) : ∀ (m k i : Nat), S.length - i = m → m < k → i ≤ S.length →
    colophonlaw06_ImageApart.l1 T (S.length : Int) (objS S) k ((1 + total (S.take i) : Nat) : Int) (i : Int) = some (.inr ((1 + total S : Nat) : Int)) := by
  have h60 := hV.1
  intro m
  induction m with
  | zero => intro k i h1 h2 h3; cases k with
    | zero => omega
    | succ k =>
      rw [colophonlaw06_ImageApart.l1, if_neg (by rw [decide_eq_true_eq]; omega), List.take_of_length_le (by omega)]
  | succ m ih => intro k i h1 h2 h3; cases k with
    | zero => omega
    | succ k =>
      have hil : i < S.length := by omega
      have hsi := hS _ (List.getElem_mem hil)
      have hmF : many S[i].length < FU := by
        have : many S[i].length ≤ 8000 := by unfold many; omega
        show many S[i].length < 4611686018427387904; omega
      rw [colophonlaw06_ImageApart.l1, if_pos (by rw [decide_eq_true_eq]; omega), first_g S hil, Option.bind_some, if_neg (by simp), apart_l2 hV hil hsi (many S[i].length) FU (1 + total (S.take i)) (by omega) hmF (by omega) (by omega), Option.bind_some, wi_eq (by omega) (by omega), show ((i : Int) + 1) = ((i + 1 : Nat) : Int) by omega]
      have := ih k (i + 1) (by omega) (by omega) (by omega)
      rw [total_take hil, ← Nat.add_assoc] at this
      exact this
theorem secs_of {e f : TypeId} {l : List (List Int)} (F : Fits (.slice e (.slice f (.int .u8))) l) : ∃ S : List (List B8), l = S.map (·.map ub) := rows_ex (e := e) (f := f) F.2
end Img
open Img
theorem pure_ImageApart (l0 : List (List Int)) (F0 : Fits (.slice 22 (.slice 5 (.int .u8))) l0) (S0 : l0.length * 24 ≤ 140737488351232) (l1 : List (List Int)) (F1 : Fits (.slice 22 (.slice 5 (.int .u8))) l1) (S1 : l1.length * 24 ≤ 140737488351232) : colophonlaw06_ImageApart.f l0 l1 = some true := by
  obtain ⟨A, rfl⟩ := secs_of F0
  obtain ⟨B, rfl⟩ := secs_of F1
  rw [List.length_map] at S0 S1
  unfold colophonlaw06_ImageApart.f
  rw [Img.first_f, Option.bind_some, if_neg (by simp)]
  obtain ⟨x, hx, hx2⟩ := size_f A (by omega)
  obtain ⟨y, hy, hy2⟩ := size_f B (by omega)
  rw [hx, Option.bind_some, hy, Option.bind_some]
  by_cases h1 : imax x y > 50000
  · rw [if_pos (by rw [decide_eq_true_eq]; exact h1)]
  rw [if_neg (by rw [decide_eq_true_eq]; exact h1)]
  have hxy : x ≤ 50000 ∧ y ≤ 50000 := by unfold imax at h1; split at h1 <;> omega
  obtain ⟨hA, _⟩ := hx2 (by omega)
  obtain ⟨hB, _⟩ := hy2 (by omega)
  rw [build_f A hA, Option.bind_some, build_f B hB, Option.bind_some]
  by_cases vA : ¬ Valid A
  · rw [if_neg vA, if_pos (by simp)]
  replace vA : Valid A := Classical.byContradiction vA
  by_cases vB : ¬ Valid B
  · rw [if_pos vA, if_neg vB, if_neg (by simp), if_pos (by simp)]
  replace vB : Valid B := Classical.byContradiction vB
  rw [if_pos vA, if_pos vB, if_neg (by simp), if_neg (by simp), same_f A B (by omega) (by omega), Option.bind_some]
  have e : ((bs ((img A).map ub)).toList == (bs ((img B).map ub)).toList) = decide (A = B) := by
    rw [bs_beq]
    by_cases h : A = B
    · rw [h, decide_eq_true rfl, decide_eq_true rfl]
    · rw [decide_eq_false h, decide_eq_false (fun e => h (img_inj vA hA vB hB e))]
  have ho : image_Open.f ((img A).map ub) = some (some (objS A), 0) := open_img vA hA
  simp only []
  rw [e, if_neg (by simp), ho, Option.bind_some]
  simp only []
  rw [sections_g, Option.bind_some, Option.bind_some]
  have hl := apart_l1 (B.map (·.map ub)) vA hA A.length FU 0 (by omega) (by have := vA.1; show A.length < 4611686018427387904; omega) (by omega)
  rw [List.take_zero, show ((1 + total ([] : List (List B8)) : Nat) : Int) = 1 from rfl, show ((0 : Nat) : Int) = 0 from rfl] at hl
  rw [hl, Option.bind_some]
  simp only []
  rw [pages_g, Option.bind_some]
  simp
end Go.Proofs.Ytejjdfnelalnoaa
