/-
  Images in plain words: sizes, sameness, the first test. No condition.
-/
import Derived.Test.YtbcdcpkofgfofaaPuImgE
namespace Go.Proofs.Ytbcdcpkofgfofaa
open Go Go.Gol
set_option linter.unusedVariables false
set_option linter.unusedSimpArgs false
set_option maxRecDepth 100000
namespace Img
open Crc Page
theorem rows_ex {e f : TypeId} : ∀ {l : List (List Int)}, (∀ x ∈ l, Fits (.slice f (.int .u8)) x) → ∃ S : List (List B8), l = S.map (·.map ub)
  | [], _ => ⟨[], rfl⟩
  | x :: l, h => by
    obtain ⟨s, hs⟩ := bytes_ex (h x List.mem_cons_self)
    obtain ⟨S, hS⟩ := rows_ex (e := e) (f := f) (l := l) (fun y hy => h y (List.mem_cons_of_mem _ hy))
    exact ⟨s :: S, by rw [List.map_cons, ← hs, ← hS]⟩
/-! ### what an image answers -/
def objS (S : List (List B8)) : Obj3 := (((cont S).map body).map (·.map ub), ints (lens S), ints (firsts 1 (lens S)))
theorem lens_len (S : List (List B8)) : (lens S).length = S.length := by unfold lens; rw [List.length_map]
theorem sections_g (S : List (List B8)) : image_Image_Sections.f (some (objS S)) = some (S.length : Int) := by
  show some (((ints (lens S)).length : Nat) : Int) = _
  rw [List.length_map, lens_len]
theorem has_g (S : List (List B8)) (i : Nat) : image_Image_has.f (some (objS S)) (i : Int) = some (decide (i < S.length)) := by
  unfold image_Image_has.f
  rw [if_pos (by rw [decide_eq_true_eq]; omega), sections_g, Option.bind_some]
  congr 1
  rw [Bool.eq_iff_iff, decide_eq_true_eq, decide_eq_true_eq]; omega
theorem has_no (S : List (List B8)) {i : Int} (h : i < 0 ∨ (S.length : Int) ≤ i) : image_Image_has.f (some (objS S)) i = some false := by
  unfold image_Image_has.f
  by_cases h1 : i ≥ 0
  · rw [if_pos (by rw [decide_eq_true_eq]; omega), sections_g, Option.bind_some, decide_eq_false (by omega)]
  · rw [if_neg (by rw [decide_eq_true_eq]; omega)]
theorem sec_g {S : List (List B8)} (hV : Valid S) (hS : ∀ s ∈ S, s.length ≤ 2000000) {i : Nat} (h : i < S.length) : image_Image_Section.f (some (objS S)) (i : Int) = some (S[i].map ub) := by
  have hl : i < (lens S).length := by rw [lens_len]; exact h
  have hv := hV.2
  have hb : ∀ x ∈ (cont S).map body, x.length = 256 := fun x hx => by
    obtain ⟨c, hc, rfl⟩ := List.mem_map.1 hx
    exact body_len c (cont_le hV.1 c hc)
  have h1 := section_f (R := (cont S).map body) (Z := lens S) hb (by rw [List.length_map, cont_len]; omega) (by rw [List.length_map, cont_len, totZ_lens]) (by rw [lens_len]; have := hV.1; omega) hl
  have h2 := secs_get (R := (cont S).map body) hl
  rw [cut_img hV hS, List.getElem?_eq_getElem h] at h2
  rw [← Option.some.inj h2] at h1
  exact h1
def S0 : List (List B8) := [[97#8, 98#8], [], List.replicate 300 0#8]
theorem S0_valid : Valid S0 := by decide
theorem S0_small : ∀ s ∈ S0, s.length ≤ 2000000 := by
  intro s hs
  simp only [S0, List.mem_cons, List.not_mem_nil, or_false] at hs
  rcases hs with rfl | rfl | rfl
  · decide
  · decide
  · rw [List.length_replicate]; decide
end Img
end Go.Proofs.Ytbcdcpkofgfofaa
