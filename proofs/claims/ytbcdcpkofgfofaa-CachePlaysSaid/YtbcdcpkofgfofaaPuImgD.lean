/-
  Images in plain words: what Open answers, whole. No condition.
-/
import Derived.Test.YtbcdcpkofgfofaaPuImgC
namespace Go.Proofs.Ytbcdcpkofgfofaa
open Go Go.Gol
set_option linter.unusedVariables false
set_option linter.unusedSimpArgs false
set_option maxRecDepth 100000
namespace Img
open Crc Page
/-- the sections out of what pages hold -/
def secs (R : List (List B8)) (Z : List Nat) : List (List B8) := (List.range Z.length).map fun i => secAt R (1 + totZ (Z.take i)) (Z.getD i 0)
theorem secs_len (R : List (List B8)) (Z : List Nat) : (secs R Z).length = Z.length := by simp [secs]
theorem secs_get {R : List (List B8)} {Z : List Nat} {i : Nat} (h : i < Z.length) : (secs R Z)[i]? = some (secAt R (1 + totZ (Z.take i)) Z[i]) := by
  unfold secs
  rw [List.getElem?_map, List.getElem?_range h, Option.map_some, List.getD_eq_getElem?_getD, List.getElem?_eq_getElem h]; rfl
theorem secs_drop {R : List (List B8)} {Z : List Nat} {i : Nat} (h : i < Z.length) : (secs R Z).drop i = secAt R (1 + totZ (Z.take i)) Z[i] :: (secs R Z).drop (i + 1) := by
  have hl : i < (secs R Z).length := by rw [secs_len]; exact h
  rw [List.drop_eq_getElem_cons hl]
  have := secs_get (R := R) h
  rw [List.getElem?_eq_getElem hl] at this
  rw [Option.some.inj this]
theorem open_l2 {R : List (List B8)} {Z : List Nat} {b : Bool} (hR : ∀ x ∈ R, x.length = 256) (hl : R.length ≤ 4096) (hZ : 1 + totZ Z = R.length) (hZl : Z.length ≤ 1000) : ∀ (m k i : Nat) (acc : List (List Int)), Z.length - i = m → m < k → i ≤ Z.length → acc.length = i →
    image_Open.l2 (b, (R.map (·.map ub), ints Z, ints (firsts 1 Z))) k acc (i : Int) = some (acc ++ ((secs R Z).drop i).map (·.map ub)) := by
  intro m
  induction m with
  | zero => intro k i acc hm hk hi ha; cases k with
    | zero => omega
    | succ k =>
      rw [image_Open.l2, if_neg (by rw [decide_eq_true_eq]; show ¬ (i : Int) < ((ints Z).length : Int); rw [List.length_map]; omega), List.drop_of_length_le (by rw [secs_len]; omega)]; simp
  | succ m ih => intro k i acc hm hk hi ha; cases k with
    | zero => omega
    | succ k =>
      have hil : i < Z.length := by omega
      rw [image_Open.l2, if_pos (by rw [decide_eq_true_eq]; show (i : Int) < ((ints Z).length : Int); rw [List.length_map]; omega)]
      show (image_Image_Section.f (some (R.map (·.map ub), ints Z, ints (firsts 1 Z))) (i : Int)).bind _ = _
      rw [section_f hR hl hZ hZl hil, Option.bind_some, app?_eq (by simp; omega), Option.bind_some, wi_eq (by omega) (by omega), show ((i : Int) + 1) = ((i + 1 : Nat) : Int) by omega, ih k (i + 1) _ (by omega) (by omega) (by omega) (by simp; omega), secs_drop hil, List.append_assoc]; rfl
theorem held_len (B : List B8) (n i : Nat) : (held B n i).length = n - i := by simp [held]
theorem held_256 {B : List B8} {n : Nat} (hB : B.length = 264 * n) : ∀ x ∈ held B n 0, x.length = 256 := fun x hx => by
  unfold held at hx
  obtain ⟨j, hj, rfl⟩ := List.mem_map.1 hx
  have := List.mem_range.1 hj
  rw [List.length_take, pgAt_len hB (by omega)]; rfl
theorem secAt_len {R : List (List B8)} (hR : ∀ x ∈ R, x.length = 256) {a z : Nat} (h : a + many z ≤ R.length) : (secAt R a z).length = z := by
  unfold secAt
  have hx : ∀ x ∈ (R.drop a).take (many z), x.length = 256 := fun x hx => hR x (List.mem_of_mem_drop (List.mem_of_mem_take hx))
  have e : ((R.drop a).take (many z)).length = many z := by rw [List.length_take, List.length_drop]; omega
  have hfl : (((R.drop a).take (many z)).flatten).length = 256 * ((R.drop a).take (many z)).length := by
    generalize (R.drop a).take (many z) = X at *
    clear e
    induction X with
    | nil => rfl
    | cons x X ih => rw [List.flatten_cons, List.length_append, hx x List.mem_cons_self, ih (fun y hy => hx y (List.mem_cons_of_mem _ hy)), List.length_cons]; omega
  rw [List.length_take, hfl, e]
  unfold many; omega
/-- pages of which each is sealed and in its place, with a head for so many -/
def Paged (B : List B8) (n : Nat) : Prop := B.length = 264 * n ∧ 0 < n ∧ n ≤ 4096 ∧ (∀ j, j < n → pgOk B j) ∧ hdOk ((pgAt B 0).take 256) n
def cut (B : List B8) (n : Nat) : List (List B8) := secs (held B n 0) (sizes ((pgAt B 0).take 256))
def obj (B : List B8) (n : Nat) : Obj3 := ((held B n 0).map (·.map ub), ints (sizes ((pgAt B 0).take 256)), ints (firsts 1 (sizes ((pgAt B 0).take 256))))
theorem cut_lens {B : List B8} {n : Nat} (h : Paged B n) : lens (cut B n) = sizes ((pgAt B 0).take 256) := by
  obtain ⟨h1, h2, h3, h4, h5, h6, h7⟩ := h
  apply List.ext_getElem?
  intro i
  unfold lens cut
  rw [List.getElem?_map]
  by_cases hi : i < (sizes ((pgAt B 0).take 256)).length
  · rw [secs_get hi, Option.map_some, List.getElem?_eq_getElem hi]
    have hs := totZ_split (sizes ((pgAt B 0).take 256)) i
    rw [totZ_drop hi] at hs
    rw [secAt_len (held_256 h1) (by rw [held_len]; omega)]
  · rw [List.getElem?_eq_none (by rw [secs_len]; omega), List.getElem?_eq_none (by omega)]; rfl
theorem cut_valid {B : List B8} {n : Nat} (h : Paged B n) : Valid (cut B n) ∧ 1 + total (cut B n) = n ∧ ∀ s ∈ cut B n, s.length ≤ 2000000 := by
  have hl := cut_lens h
  obtain ⟨h1, h2, h3, h4, h5, h6, h7⟩ := h
  have ht : total (cut B n) = totZ (sizes ((pgAt B 0).take 256)) := by rw [← totZ_lens, hl]
  have hn : (cut B n).length = cnt ((pgAt B 0).take 256) := by
    unfold cut; rw [secs_len]; simp [sizes]
  refine ⟨⟨by omega, by omega⟩, by omega, fun s hs => ?_⟩
  obtain ⟨i, hi, rfl⟩ := List.getElem_of_mem hs
  have hm : many (cut B n)[i].length ≤ total (cut B n) := by
    have := totZ_split (lens (cut B n)) i
    rw [totZ_drop (i := i) (by unfold lens; rw [List.length_map]; exact hi), totZ_lens] at this
    have e : (lens (cut B n))[i]'(by unfold lens; rw [List.length_map]; exact hi) = (cut B n)[i].length := by simp [lens]
    rw [e] at this
    omega
  unfold many at hm
  omega
theorem open_f (B : List B8) (hB : B.length ≤ 100000000) :
    (∃ n, Paged B n ∧ B = img (cut B n) ∧ image_Open.f (B.map ub) = some (some (obj B n), 0)) ∨ ((∀ n, Paged B n → B ≠ img (cut B n)) ∧ image_Open.f (B.map ub) = some (none, 10)) := by
  unfold image_Open.f
  rw [List.length_map]
  by_cases g1 : B.length % 264 ≠ 0
  · right
    refine ⟨fun n h => by have := h.1; omega, ?_⟩
    rw [if_pos]
    rw [Int.tmod_eq_emod_of_nonneg (by omega), bne_iff_ne]; omega
  rw [if_neg (by rw [Int.tmod_eq_emod_of_nonneg (by omega), bne_iff_ne]; omega)]
  by_cases g2 : B.length = 0
  · right
    refine ⟨fun n h => by have := h.1; have := h.2.1; omega, ?_⟩
    rw [if_pos (by rw [beq_iff_eq]; omega)]
  rw [if_neg (by rw [beq_iff_eq]; omega), Int.tdiv_eq_ediv_of_nonneg (by omega), wi_eq (by omega) (by omega)]
  obtain ⟨n, hn⟩ : ∃ n, B.length = 264 * n := ⟨B.length / 264, by omega⟩
  by_cases g3 : n > 4096
  · right
    refine ⟨fun n' h => by have := h.1; have := h.2.2.1; omega, ?_⟩
    rw [if_pos (by rw [decide_eq_true_eq]; omega)]
  rw [if_neg (by rw [decide_eq_true_eq]; omega), chk?_eq (by rw [decide_eq_true_eq]; omega), Option.bind_some]
  have hun : ∀ n', Paged B n' → n' = n := fun n' h => by have := h.1; omega
  have hl1 := open_l1 hn (by omega) n FU 0 [] (by omega) (by show n < 4611686018427387904; omega) (by omega) rfl
  rw [Nat.mul_zero, List.nil_append] at hl1
  rcases hl1.symm with ⟨⟨j, _, p1, p2⟩, z, p3⟩ | ⟨p1, p2⟩
  · right
    refine ⟨fun n' h => absurd (h.2.2.2.1 j (by rw [hun n' h]; exact p1)) p2, ?_⟩
    rw [p3]; rfl
  rw [p2, Option.bind_some]
  simp only []
  have hP : ((pgAt B 0).take 256).length = 256 := by rw [List.length_take, pgAt_len hn (by omega)]; rfl
  have hr0 : ((held B n 0).map (·.map ub))[0]? = some (((pgAt B 0).take 256).map ub) := by
    rw [held_cons (by omega)]; rfl
  have hlr : ((held B n 0).map (·.map ub)).length = n := by rw [List.length_map, held_len]; omega
  rcases (head_f hP hr0 (by omega)).symm with ⟨q1, o, q2⟩ | ⟨q1, q2⟩
  · right
    rw [hlr] at q1
    refine ⟨fun n' h => absurd (by have := h.2.2.2.2; rwa [hun n' h] at this) q1, ?_⟩
    rw [q2]; rfl
  rw [hlr] at q1
  have hpg : Paged B n := ⟨hn, by omega, by omega, fun j hj => p1 j (by omega) hj, q1⟩
  obtain ⟨v1, v2, v3⟩ := cut_valid hpg
  have hl2 := open_l2 (b := true) (held_256 hn) (by rw [held_len]; omega) (Z := sizes ((pgAt B 0).take 256)) (by rw [held_len]; have := q1.2.2; omega) (by have := q1.2.1; simp [sizes]; omega) _ FU 0 [] rfl (by have := q1.2.1; show (sizes ((pgAt B 0).take 256)).length - 0 < 4611686018427387904; simp [sizes]; omega) (by omega) rfl
  rw [show ((0 : Nat) : Int) = 0 from rfl, List.drop_zero, List.nil_append] at hl2
  rw [q2, Option.bind_some]
  simp only [Bool.not_true, Bool.false_eq_true, if_false]
  rw [hl2, Option.bind_some]
  have hb : image_Build.f (((secs (held B n 0) (sizes ((pgAt B 0).take 256)))).map (·.map ub)) = some ((img (cut B n)).map ub, 0) := by
    have := build_f (cut B n) v3
    rw [if_pos v1] at this
    exact this
  rw [hb, Option.bind_some, if_neg (by simp)]
  simp only []
  have hil : (img (cut B n)).length = 264 * n := by
    unfold img cont
    rw [pgs_len _ _ (fun c hc => by
      rcases List.mem_cons.1 hc with rfl | hc
      · rw [hd_len]; have := v1.1; omega
      · unfold cts at hc
        obtain ⟨l, hl, hc⟩ := List.mem_flatten.1 hc
        obtain ⟨s, hs, rfl⟩ := List.mem_map.1 hl
        exact chs_le s c hc), List.length_cons, cts_len]
    omega
  rw [equal_f _ _ (by rw [List.length_map]; omega), Option.bind_some]
  by_cases he : img (cut B n) = B
  · left
    refine ⟨n, hpg, he.symm, ?_⟩
    rw [he, decide_eq_true rfl]; rfl
  · right
    refine ⟨fun n' h => by rw [hun n' h]; exact fun e => he e.symm, ?_⟩
    rw [decide_eq_false (fun e => he (map_ub_inj e))]; rfl
end Img
end Go.Proofs.Ytbcdcpkofgfofaa
