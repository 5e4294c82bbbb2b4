/-
  Images with pages in one another's place, in plain words. No condition.
-/
import Derived.Test.YtejjdfnelalnoaaPuImgF
import Derived.Test.YtejjdfnelalnoaaGImageMoves
namespace Go.Proofs.Ytejjdfnelalnoaa
open Go Go.Gol
set_option linter.unusedVariables false
set_option linter.unusedSimpArgs false
set_option maxRecDepth 100000
namespace Img
open Crc Page
theorem no_open {B : List B8} (hB : B.length ≤ 100000000) (h : ∀ n, ¬ Paged B n) : image_Open.f (B.map ub) = some (none, 10) := by
  rcases open_f B hB with ⟨n, g, _⟩ | ⟨_, g⟩
  · exact absurd g (h n)
  · exact g
theorem pgAt_take {B : List B8} {x j : Nat} (h : j < x) : pgAt (B.take (264 * x)) j = pgAt B j := by
  unfold pgAt
  rw [List.drop_take, List.take_take, Nat.min_eq_left (by omega)]
theorem pgAt_left {A B : List B8} {x j : Nat} (hA : A.length = 264 * x) (h : j < x) : pgAt (A ++ B) j = pgAt A j := by
  unfold pgAt
  rw [List.drop_append_of_le_length (by omega), List.take_append_of_le_length (by rw [List.length_drop]; omega)]
theorem pgAt_right {A B : List B8} {x j : Nat} (hA : A.length = 264 * x) : pgAt (A ++ B) (x + j) = pgAt B j := by
  unfold pgAt
  rw [show 264 * (x + j) = A.length + 264 * j by omega, List.drop_length_add_append]
theorem pgAt_drop (B : List B8) (x j : Nat) : pgAt (B.drop (264 * x)) j = pgAt B (x + j) := by
  unfold pgAt
  rw [List.drop_drop, show 264 * x + 264 * j = 264 * (x + j) by omega]
/-- a page is gone -/
theorem gone_no {S : List (List B8)} (hV : Valid S) (hS : ∀ s ∈ S, s.length ≤ 2000000) {x : Nat} (hx : x < 1 + total S) : ∀ n, ¬ Paged ((img S).take (264 * x) ++ (img S).drop (264 * x + 264)) n := by
  intro m hm
  obtain ⟨hP, _, _⟩ := img_paged hV hS
  have hl := img_len hV.1
  have h1 := hm.1
  have h2 := hm.2.1
  have hxl : ((img S).take (264 * x)).length = 264 * x := by rw [List.length_take]; omega
  rw [List.length_append, hxl, List.length_drop] at h1
  have hm' : m = total S := by omega
  by_cases hlast : x = total S
  · have h5 := hm.2.2.2.2
    have e : pgAt ((img S).take (264 * x) ++ (img S).drop (264 * x + 264)) 0 = pgAt (img S) 0 := by rw [pgAt_left hxl (by omega), pgAt_take (by omega)]
    rw [e] at h5
    have a := h5.2.2
    have b := hP.2.2.2.2.2.2
    omega
  · have h4 := hm.2.2.2.1 x (by omega)
    have e : pgAt ((img S).take (264 * x) ++ (img S).drop (264 * x + 264)) x = pgAt (img S) (x + 1) := by
      have this : pgAt ((img S).take (264 * x) ++ (img S).drop (264 * x + 264)) x = pgAt ((img S).drop (264 * x + 264)) 0 := pgAt_right (j := 0) hxl
      rw [this, show 264 * x + 264 = 264 * (x + 1) by omega, pgAt_drop, Nat.add_zero]
    unfold pgOk at h4
    rw [e] at h4
    have := (img_ok hV (j := x + 1) (by omega)).2
    omega
/-- a page is doubled -/
theorem more_no {S : List (List B8)} (hV : Valid S) (hS : ∀ s ∈ S, s.length ≤ 2000000) {x : Nat} (hx : x < 1 + total S) : ∀ n, ¬ Paged (img S ++ pgAt (img S) x) n := by
  intro m hm
  have hl := img_len hV.1
  have h1 := hm.1
  have hp := pgAt_len hl hx
  rw [List.length_append, hp] at h1
  have hm' : m = 1 + total S + 1 := by omega
  have h4 := hm.2.2.2.1 (1 + total S) (by omega)
  have e : pgAt (img S ++ pgAt (img S) x) (1 + total S) = pgAt (img S) x := by
    have := pgAt_right (B := pgAt (img S) x) (j := 0) hl
    rw [Nat.add_zero] at this
    rw [this]
    generalize pgAt (img S) x = Y at *
    unfold pgAt
    rw [Nat.mul_zero, List.drop_zero, List.take_of_length_le (by omega)]
  unfold pgOk at h4
  rw [e] at h4
  have := (img_ok hV hx).2
  omega
/-- a page in another's place -/
theorem moved_no {S : List (List B8)} (hV : Valid S) (hS : ∀ s ∈ S, s.length ≤ 2000000) {x y : Nat} (hx : x < 1 + total S) (hy : y < 1 + total S) (hxy : x ≠ y) {Z : List B8} (hZ : Z.length = (img S).length) (hz : pgAt Z x = pgAt (img S) y) : ∀ n, ¬ Paged Z n := by
  intro m hm
  have hl := img_len hV.1
  have h1 := hm.1
  have h4 := hm.2.2.2.1 x (by omega)
  unfold pgOk at h4
  rw [hz] at h4
  have := (img_ok hV hy).2
  omega
theorem cpyIn_all {α : Type} (xs : List α) {lo hi : Nat} (h : lo ≤ hi) (h2 : hi ≤ xs.length) (ys zs : List α) (hy : ys.length = hi - lo) (hzl : zs.length = hi - lo) : cpyIn xs lo hi ys zs = xs.take lo ++ zs ++ xs.drop hi := by
  unfold cpyIn cpy
  rw [show min zs.length ys.length = hi - lo by omega, List.take_of_length_le (l := zs) (by omega), List.drop_of_length_le (l := ys) (by omega), List.append_nil]
theorem nil_m : image_Image_Page.f none 0 = some ([], 1) ∧ image_Image_Sections.f none = some 0 ∧ image_Image_Pages.f none = some 0 ∧ image_Image_Size.f none 0 = some 0 ∧ image_Image_First.f none 0 = some 0 ∧ image_Image_Section.f none 0 = some [] := ⟨rfl, rfl, rfl, rfl, rfl, rfl⟩
def rep (Y : List B8) (x : Nat) (P : List B8) : List B8 := Y.take (264 * x) ++ P ++ Y.drop (264 * x + 264)
theorem rep_len {Y P : List B8} {n x : Nat} (hY : Y.length = 264 * n) (hx : x < n) (hP : P.length = 264) : (rep Y x P).length = 264 * n := by
  unfold rep; rw [List.length_append, List.length_append, List.length_take, List.length_drop]; omega
theorem rep_same {Y P : List B8} {n x : Nat} (hY : Y.length = 264 * n) (hx : x < n) (hP : P.length = 264) : pgAt (rep Y x P) x = P := by
  unfold rep
  have hl : (Y.take (264 * x)).length = 264 * x := by rw [List.length_take]; omega
  rw [List.append_assoc]
  have h1 : pgAt (Y.take (264 * x) ++ (P ++ Y.drop (264 * x + 264))) x = pgAt (P ++ Y.drop (264 * x + 264)) 0 := pgAt_right (j := 0) hl
  rw [h1]
  unfold pgAt
  rw [Nat.mul_zero, List.drop_zero, List.take_append_of_le_length (by omega), List.take_of_length_le (by omega)]
theorem rep_other {Y P : List B8} {n x j : Nat} (hY : Y.length = 264 * n) (hx : x < n) (hP : P.length = 264) (hj : j ≠ x) : pgAt (rep Y x P) j = pgAt Y j := by
  unfold rep
  have hl : (Y.take (264 * x)).length = 264 * x := by rw [List.length_take]; omega
  by_cases h : j < x
  · rw [List.append_assoc, pgAt_left hl h, pgAt_take h]
  · have hl2 : (Y.take (264 * x) ++ P).length = 264 * (x + 1) := by rw [List.length_append]; omega
    obtain ⟨k, rfl⟩ : ∃ k, j = x + 1 + k := ⟨j - (x + 1), by omega⟩
    rw [pgAt_right hl2, show 264 * x + 264 = 264 * (x + 1) by omega, pgAt_drop]
end Img
open Img
theorem pure_ImageMoves (l0 : List (List Int)) (F0 : Fits (.slice 22 (.slice 5 (.int .u8))) l0) (S0 : l0.length * 24 ≤ 140737488351232) (a1 : Int) (F1 : Fits (.int .i64) a1) (a2 : Int) (F2 : Fits (.int .i64) a2) : colophonlaw06_ImageMoves.f l0 a1 a2 = some true := by
  obtain ⟨S, rfl⟩ := rows_ex (e := 22) (f := 5) F0.2
  rw [List.length_map] at S0
  unfold colophonlaw06_ImageMoves.f
  rw [Img.first_f, Option.bind_some, if_neg (by simp)]
  obtain ⟨z, hz, hz2⟩ := size_f S (by omega)
  rw [hz, Option.bind_some]
  by_cases h1 : z > 50000
  · rw [if_pos (by rw [decide_eq_true_eq]; exact h1)]
  rw [if_neg (by rw [decide_eq_true_eq]; exact h1)]
  obtain ⟨hS, _⟩ := hz2 (by omega)
  rw [build_f S hS, Option.bind_some]
  by_cases hV : ¬ Valid S
  · rw [if_neg hV, if_pos (by simp)]; rfl
  replace hV : Valid S := Classical.byContradiction hV
  rw [if_pos hV, if_neg (by simp)]
  simp only []
  have hl := img_len hV.1
  have hv := hV.2
  have hml : (((img S).map Gol.ub).length : Int) = ((264 * (1 + total S) : Nat) : Int) := by rw [List.length_map, hl]
  have hn : IntKind.wrap .u64 (wi (Int.tdiv (((img S).map Gol.ub).length : Int) 264)) = ((1 + total S : Nat) : Int) := by
    rw [hml, Int.tdiv_eq_ediv_of_nonneg (by omega), wi_eq (by omega) (by omega), wrap_u64_eq]; omega
  have hX : ∀ a : Int, ∃ x : Nat, x < 1 + total S ∧ wi (Int.tmod (IntKind.wrap .u64 a) (IntKind.wrap .u64 (wi (Int.tdiv (((img S).map Gol.ub).length : Int) 264)))) = (x : Int) := fun a => by
    rw [hn]
    have h0 : 0 ≤ IntKind.wrap .u64 a := by rw [wrap_u64_eq]; omega
    rw [Int.tmod_eq_emod_of_nonneg h0]
    have h2 := Int.emod_nonneg (IntKind.wrap .u64 a) (b := ((1 + total S : Nat) : Int)) (by omega)
    have h3 := Int.emod_lt_of_pos (IntKind.wrap .u64 a) (b := ((1 + total S : Nat) : Int)) (by omega)
    refine ⟨(IntKind.wrap .u64 a % ((1 + total S : Nat) : Int)).toNat, by omega, ?_⟩
    rw [wi_eq (by omega) (by omega)]; omega
  obtain ⟨x, hx, ex⟩ := hX a1
  obtain ⟨y, hy, ey⟩ := hX a2
  rw [chk?_eq (by rw [decide_eq_true_eq, hn]; omega), Option.bind_some, Option.bind_some, ex, ey]
  rw [wi_eq (n := 264 * (x : Int)) (by omega) (by omega), wi_eq (n := 264 * (x : Int) + 264) (by omega) (by omega), wi_eq (n := 264 * (y : Int)) (by omega) (by omega), wi_eq (n := 264 * (y : Int) + 264) (by omega) (by omega)]
  rw [show (264 * (x : Int) + 264) = ((264 * x + 264 : Nat) : Int) by omega, show (264 * (x : Int)) = ((264 * x : Nat) : Int) by omega, show (264 * (y : Int) + 264) = ((264 * y + 264 : Nat) : Int) by omega, show (264 * (y : Int)) = ((264 * y : Nat) : Int) by omega]
  have hb : (img S).length ≤ 2000000 := by omega
  have s1 : sub? ((img S).map Gol.ub) 0 ((264 * x : Nat) : Int) = some (((img S).take (264 * x)).map Gol.ub) := by rw [sub?_pre _ (by rw [List.length_map]; omega), List.map_take]
  have s2 : sub? ((img S).map Gol.ub) ((264 * x + 264 : Nat) : Int) (((img S).map Gol.ub).length : Int) = some (((img S).drop (264 * x + 264)).map Gol.ub) := by rw [sub?_nat _ (by rw [List.length_map]; omega) (Nat.le_refl _), List.take_length, List.map_drop]
  have sp : ∀ (Y : List B8) (j : Nat), Y.length = (img S).length → j < 1 + total S → sub? (Y.map Gol.ub) ((264 * j : Nat) : Int) ((264 * j + 264 : Nat) : Int) = some ((pgAt Y j).map Gol.ub) := fun Y j hY hj => by
    rw [sub?_nat _ (by omega) (by rw [List.length_map]; omega), List.drop_take, Nat.add_sub_cancel_left, ← List.map_drop, ← List.map_take]; rfl
  have a0 : ∀ Y : List Int, Y.length ≤ 3000000 → app? 140737488355328 ([] : List Int) Y = some Y := fun Y hY => by rw [app?_eq (by simp; omega), List.nil_append]
  have hpx := pgAt_len hl hx
  have hpy := pgAt_len hl hy
  rw [s1, Option.bind_some, s2, Option.bind_some, a0 _ (by rw [List.length_map, List.length_take]; omega), Option.bind_some, app?_eq (by rw [List.length_map, List.length_map, List.length_take, List.length_drop]; omega), Option.bind_some, sp _ x rfl hx, Option.bind_some, a0 _ (by rw [List.length_map]; omega), Option.bind_some, app?_eq (by rw [List.length_map, List.length_map]; omega), Option.bind_some, ← List.map_append, ← List.map_append, no_open (by rw [List.length_append, List.length_take, List.length_drop]; omega) (gone_no hV hS hx), Option.bind_some, no_open (by rw [List.length_append]; omega) (more_no hV hS hx), Option.bind_some, if_neg (by simp), if_neg (by simp)]
  by_cases hxy : x = y
  · rw [if_pos (by rw [beq_iff_eq]; omega)]
  rw [if_neg (by rw [beq_iff_eq]; omega), Option.bind_some, sp _ x rfl hx, Option.bind_some, sp _ y rfl hy, Option.bind_some]
  have hc : ∀ (Y P : List B8) (j : Nat), Y.length = 264 * (1 + total S) → j < 1 + total S → P.length = 264 → cpyIn (Y.map Gol.ub) (((264 * j : Nat) : Int)).toNat (((264 * j + 264 : Nat) : Int)).toNat ((pgAt Y j).map Gol.ub) (P.map Gol.ub) = (rep Y j P).map Gol.ub := fun Y P j hY hj hP => by
    rw [Int.toNat_natCast, Int.toNat_natCast, cpyIn_all _ (by omega) (by rw [List.length_map]; omega) _ _ (by rw [List.length_map, pgAt_len hY hj]; omega) (by rw [List.length_map]; omega)]
    unfold rep
    rw [List.map_append, List.map_append, List.map_take, List.map_drop]
  have hr1 := rep_len hl hx hpy
  have hr2 := rep_len hr1 hy hpx
  rw [hc _ _ x hl hx hpy, sp _ y (by rw [hr1, hl]) hy, Option.bind_some, Option.bind_some, hc _ _ y hr1 hy hpx, no_open (by omega) (moved_no hV hS hx hy hxy (by rw [hr2, hl]) (by rw [rep_other hr1 hy hpx hxy, rep_same hl hx hpy])), Option.bind_some]
  rfl
end Go.Proofs.Ytejjdfnelalnoaa
