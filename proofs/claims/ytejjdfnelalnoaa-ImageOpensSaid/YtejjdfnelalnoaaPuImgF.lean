/-
  Images in plain words: sizes, sameness, the first test. No condition.
-/
import Derived.Test.YtejjdfnelalnoaaPuImgE
namespace Go.Proofs.Ytejjdfnelalnoaa
open Go Go.Gol
set_option linter.unusedVariables false
set_option linter.unusedSimpArgs false
set_option maxRecDepth 100000
namespace Img
open Crc Page
theorem rows_ex {e f : TypeId} : ∀ {l : List (List Int)}, (∀ x ∈ l, Fits (.slice f (.int .u8)) x) → ∃ S : List (List B8), l = S.map (·.map ub)
  | [], _ => ⟨[], rfl⟩
  | x :: l, h => by
    obtain ⟨s, hs⟩ := bytes_ex (h x List.mem_cons_self)
    obtain ⟨S, hS⟩ := rows_ex (e := e) (f := f) (l := l) (fun y hy => h y (List.mem_cons_of_mem _ hy))
    exact ⟨s :: S, by rw [List.map_cons, ← hs, ← hS]⟩
def szs (S : List (List B8)) : Nat := (S.map fun s => s.length + 1).sum
theorem szs_drop {S : List (List B8)} {i : Nat} (h : i < S.length) : szs (S.drop i) = S[i].length + 1 + szs (S.drop (i + 1)) := by
  unfold szs; rw [List.drop_eq_getElem_cons h, List.map_cons, List.sum_cons]
theorem size_l1 (S : List (List B8)) (hl : S.length < 4611686018427387904) : ∀ (m k i a : Nat), S.length - i = m → m < k → i ≤ S.length → a ≤ 4000002 →
    ∃ r, colophonref06_Size.l1 (S.map (·.map ub)) k (a : Int) (i : Int) = some r ∧ ((r = .inl 2000001) ∨ (r = .inr ((a + szs (S.drop i) : Nat) : Int))) := by
  intro m
  induction m with
  | zero => intro k i a hm hk hi ha; cases k with
    | zero => omega
    | succ k =>
      refine ⟨_, by rw [colophonref06_Size.l1, if_neg (by rw [decide_eq_true_eq, List.length_map]; omega)], .inr ?_⟩
      rw [List.drop_of_length_le (by omega)]; rfl
  | succ m ih => intro k i a hm hk hi ha; cases k with
    | zero => omega
    | succ k =>
      have hil : i < S.length := by omega
      rw [colophonref06_Size.l1, if_pos (by rw [decide_eq_true_eq, List.length_map]; omega), at_sec hil, Option.bind_some, List.length_map]
      by_cases h1 : a > 2000000
      · rw [if_pos (by rw [decide_eq_true_eq]; omega)]; exact ⟨_, rfl, .inl rfl⟩
      rw [if_neg (by rw [decide_eq_true_eq]; omega)]
      by_cases h2 : S[i].length > 2000000
      · rw [if_pos (by rw [decide_eq_true_eq]; omega)]; exact ⟨_, rfl, .inl rfl⟩
      rw [if_neg (by rw [decide_eq_true_eq]; omega), wi_eq (n := (S[i].length : Int) + 1) (by omega) (by omega), wi_eq (n := (a : Int) + _) (by omega) (by omega), wi_eq (by omega) (by omega), show ((i : Int) + 1) = ((i + 1 : Nat) : Int) by omega, show ((a : Int) + ((S[i].length : Int) + 1)) = ((a + (S[i].length + 1) : Nat) : Int) by omega]
      obtain ⟨r, h3, h4⟩ := ih k (i + 1) (a + (S[i].length + 1)) (by omega) (by omega) (by omega) (by omega)
      refine ⟨r, h3, ?_⟩
      rw [szs_drop hil, show a + (S[i].length + 1 + szs (S.drop (i + 1))) = a + (S[i].length + 1) + szs (S.drop (i + 1)) by omega]
      exact h4
theorem szs_le {S : List (List B8)} {s : List B8} (h : s ∈ S) : s.length ≤ szs S := by
  induction S with
  | nil => cases h
  | cons x S ih =>
    unfold szs at *
    rw [List.map_cons, List.sum_cons]
    rcases List.mem_cons.1 h with rfl | h
    · omega
    · have := ih h; omega
theorem szs_len (S : List (List B8)) : S.length ≤ szs S := by
  induction S with
  | nil => simp
  | cons x S ih => unfold szs at *; rw [List.map_cons, List.sum_cons, List.length_cons]; omega
theorem size_f (S : List (List B8)) (hl : S.length < 4611686018427387904) : ∃ z, colophonref06_Size.f (S.map (·.map ub)) = some z ∧ (z ≤ 2000000 → (∀ s ∈ S, s.length ≤ 2000000) ∧ S.length ≤ 2000000) := by
  unfold colophonref06_Size.f
  obtain ⟨r, h1, h2⟩ := size_l1 S hl S.length FU 0 0 (by omega) (by show S.length < 4611686018427387904; exact hl) (by omega) (by omega)
  rw [show ((0 : Nat) : Int) = 0 from rfl] at h1
  rw [h1, Option.bind_some]
  rcases h2 with rfl | rfl
  · exact ⟨_, rfl, fun h => by omega⟩
  · refine ⟨_, rfl, fun h => ?_⟩
    rw [List.drop_zero] at h
    exact ⟨fun s hs => by have := szs_le hs; omega, by have := szs_len S; omega⟩
theorem same_l1 (S T : List (List B8)) (hST : S.length = T.length) (hl : S.length < 4611686018427387904) : ∀ (m k i : Nat), S.length - i = m → m < k → i ≤ S.length →
    colophonref06_Same.l1 (S.map (·.map ub)) (T.map (·.map ub)) k (i : Int) = some (if S.drop i = T.drop i then .inr () else .inl false) := by
  intro m
  induction m with
  | zero => intro k i hm hk hi; cases k with
    | zero => omega
    | succ k =>
      rw [colophonref06_Same.l1, if_neg (by rw [decide_eq_true_eq, List.length_map]; omega), List.drop_of_length_le (by omega), List.drop_of_length_le (by omega), if_pos rfl]
  | succ m ih => intro k i hm hk hi; cases k with
    | zero => omega
    | succ k =>
      have hil : i < S.length := by omega
      rw [colophonref06_Same.l1, if_pos (by rw [decide_eq_true_eq, List.length_map]; omega), at_sec hil, Option.bind_some, at_sec (S := T) (by omega), Option.bind_some, bs_beq, List.drop_eq_getElem_cons hil, List.drop_eq_getElem_cons (l := T) (by omega)]
      by_cases h : S[i] = T[i]
      · rw [if_neg (by simp [h]), wi_eq (by omega) (by omega), show ((i : Int) + 1) = ((i + 1 : Nat) : Int) by omega, ih k (i + 1) (by omega) (by omega) (by omega)]
        by_cases h2 : S.drop (i + 1) = T.drop (i + 1)
        · rw [if_pos h2, if_pos (by rw [h, h2])]
        · rw [if_neg h2, if_neg (fun e => h2 (List.cons.inj e).2)]
      · rw [if_pos (by simp [h]), if_neg (fun e => h (List.cons.inj e).1)]
theorem same_f (S T : List (List B8)) (hl : S.length < 4611686018427387904) (hl2 : T.length < 4611686018427387904) : colophonref06_Same.f (S.map (·.map ub)) (T.map (·.map ub)) = some (decide (S = T)) := by
  unfold colophonref06_Same.f
  rw [List.length_map, List.length_map]
  by_cases h : S.length = T.length
  · rw [if_neg (by rw [bne_iff_ne]; omega)]
    have := same_l1 S T h hl S.length FU 0 (by omega) (by show S.length < 4611686018427387904; exact hl) (by omega)
    rw [show ((0 : Nat) : Int) = 0 from rfl, List.drop_zero, List.drop_zero] at this
    rw [this, Option.bind_some]
    by_cases h2 : S = T
    · rw [if_pos h2, decide_eq_true h2]
    · rw [if_neg h2, decide_eq_false h2]
  · rw [if_pos (by rw [bne_iff_ne]; omega), decide_eq_false (fun e => h (by rw [e]))]
/-! ### what an image answers -/
def objS (S : List (List B8)) : Obj3 := (((cont S).map body).map (·.map ub), ints (lens S), ints (firsts 1 (lens S)))
theorem lens_len (S : List (List B8)) : (lens S).length = S.length := by unfold lens; rw [List.length_map]
theorem sections_g (S : List (List B8)) : image_Image_Sections.f (some (objS S)) = some (S.length : Int) := by
  show some (((ints (lens S)).length : Nat) : Int) = _
  rw [List.length_map, lens_len]
theorem has_g (S : List (List B8)) (i : Nat) : image_Image_has.f (some (objS S)) (i : Int) = some (decide (i < S.length)) := by
  unfold image_Image_has.f
  rw [if_pos (by rw [decide_eq_true_eq]; omega), sections_g, Option.bind_some]
  congr 1
  rw [Bool.eq_iff_iff, decide_eq_true_eq, decide_eq_true_eq]; omega
theorem has_no (S : List (List B8)) {i : Int} (h : i < 0 ∨ (S.length : Int) ≤ i) : image_Image_has.f (some (objS S)) i = some false := by
  unfold image_Image_has.f
  by_cases h1 : i ≥ 0
  · rw [if_pos (by rw [decide_eq_true_eq]; omega), sections_g, Option.bind_some, decide_eq_false (by omega)]
  · rw [if_neg (by rw [decide_eq_true_eq]; omega)]
theorem first_g (S : List (List B8)) {i : Nat} (h : i < S.length) : image_Image_First.f (some (objS S)) (i : Int) = some ((1 + total (S.take i) : Nat) : Int) := by
  unfold image_Image_First.f
  rw [has_g, Option.bind_some, decide_eq_true h]
  show ((at? (ints (firsts 1 (lens S))) (i : Int)).bind _) = _
  rw [at?_nat, List.getElem?_map, firsts_get (by rw [lens_len]; exact h), Option.map_some, Option.bind_some]
  unfold lens; rw [← List.map_take]
  show some (((1 + totZ (lens (S.take i)) : Nat) : Int)) = _
  rw [totZ_lens]
theorem size_g (S : List (List B8)) {i : Nat} (h : i < S.length) : image_Image_Size.f (some (objS S)) (i : Int) = some ((S[i].length : Nat) : Int) := by
  unfold image_Image_Size.f
  rw [has_g, Option.bind_some, decide_eq_true h]
  show ((at? (ints (lens S)) (i : Int)).bind _) = _
  rw [at?_nat, List.getElem?_map, show (lens S)[i]? = some S[i].length from by unfold lens; rw [List.getElem?_map, List.getElem?_eq_getElem h]; rfl]; rfl
theorem pages_g (S : List (List B8)) : image_Image_Pages.f (some (objS S)) = some ((1 + total S : Nat) : Int) := by
  show some (((((cont S).map body).map (·.map ub)).length : Nat) : Int) = _
  rw [List.length_map, List.length_map, cont_len]
theorem sec_g {S : List (List B8)} (hV : Valid S) (hS : ∀ s ∈ S, s.length ≤ 2000000) {i : Nat} (h : i < S.length) : image_Image_Section.f (some (objS S)) (i : Int) = some (S[i].map ub) := by
  have hl : i < (lens S).length := by rw [lens_len]; exact h
  have hv := hV.2
  have hb : ∀ x ∈ (cont S).map body, x.length = 256 := fun x hx => by
    obtain ⟨c, hc, rfl⟩ := List.mem_map.1 hx
    exact body_len c (cont_le hV.1 c hc)
  have h1 := section_f (R := (cont S).map body) (Z := lens S) hb (by rw [List.length_map, cont_len]; omega) (by rw [List.length_map, cont_len, totZ_lens]) (by rw [lens_len]; have := hV.1; omega) hl
  have h2 := secs_get (R := (cont S).map body) hl
  rw [cut_img hV hS, List.getElem?_eq_getElem h] at h2
  rw [← Option.some.inj h2] at h1
  exact h1
def S0 : List (List B8) := [[97#8, 98#8], [], List.replicate 300 0#8]
theorem S0_valid : Valid S0 := by decide
theorem S0_small : ∀ s ∈ S0, s.length ≤ 2000000 := by
  intro s hs
  simp only [S0, List.mem_cons, List.not_mem_nil, or_false] at hs
  rcases hs with rfl | rfl | rfl
  · decide
  · decide
  · rw [List.length_replicate]; decide
theorem first_f : colophonlaw06_first.f = some true := by
  unfold colophonlaw06_first.f
  have e0 : ([([97, 98] : List Int), ([] : List Int), List.replicate 300 0] : List (List Int)) = S0.map (·.map ub) := by
    show _ = [[ub 97#8, ub 98#8], [], (List.replicate 300 0#8).map ub]
    rw [List.map_replicate]; rfl
  have hl : (img S0).length = 1056 := by rw [img_len S0_valid.1]; decide
  have ho : image_Open.f ((img S0).map ub) = some (some (objS S0), 0) := open_img S0_valid S0_small
  have hb := build_f S0 S0_small
  rw [if_pos S0_valid] at hb
  have hm : make? 140737488355328 (0 : Int) 300 = some (List.replicate 300 0) := by
    have := make?_nat (lim := 140737488355328) (0 : Int) (n := 300) (by decide)
    exact this
  rw [hm, Option.bind_some, e0, hb, Option.bind_some]
  simp only []
  rw [ho, Option.bind_some, if_neg (by decide)]
  simp only []
  rw [if_neg (by decide), if_neg (by rw [List.length_map, hl]; decide)]
  have hs : sub? ((img S0).map ub) 1 ((((img S0).map ub).length : Nat) : Int) = some (((img S0).drop 1).map ub) := by
    have := sub?_nat ((img S0).map ub) (a := 1) (b := ((img S0).map ub).length) (by rw [List.length_map, hl]; decide) (Nat.le_refl _)
    rw [List.take_length, ← List.map_drop] at this
    exact this
  rw [hs, Option.bind_some]
  have ho2 : image_Open.f (((img S0).drop 1).map ub) = some (none, 10) := by
    rcases open_f ((img S0).drop 1) (by rw [List.length_drop, hl]; decide) with ⟨n, g1, _⟩ | ⟨_, g⟩
    · have := g1.1
      rw [List.length_drop, hl] at this
      omega
    · exact g
  rw [ho2, Option.bind_some, sections_g, Option.bind_some, if_pos (by decide)]
  have f2 := first_g S0 (i := 2) (by decide)
  have z2 := size_g S0 (i := 2) (by decide)
  have s0 := sec_g S0_valid S0_small (i := 0) (by decide)
  rw [show ((2 : Nat) : Int) = 2 from rfl] at f2 z2
  rw [show ((0 : Nat) : Int) = 0 from rfl] at s0
  rw [f2, Option.bind_some, if_pos (by decide), z2, Option.bind_some, if_pos (by
    rw [show S0[2] = List.replicate 300 0#8 from rfl, List.length_replicate]; decide), pages_g, Option.bind_some, if_pos (by decide), s0, Option.bind_some]
  have hbs : ((bs (S0[0].map ub)).toList == (⟨#[97, 98]⟩ : ByteArray).toList) = true := by
    have := bs_beq [97#8, 98#8] [97#8, 98#8]
    rw [decide_eq_true rfl] at this
    exact this
  rw [if_pos hbs]
  rfl
end Img
end Go.Proofs.Ytejjdfnelalnoaa
