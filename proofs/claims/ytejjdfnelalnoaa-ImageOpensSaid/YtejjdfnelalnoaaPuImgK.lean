/-
  Which bytes are an image, in plain words: the document's Open and the program's. No condition.
-/
import Derived.Test.YtejjdfnelalnoaaPuImgF
import Derived.Test.YtejjdfnelalnoaaGImageOpens
namespace Go.Proofs.Ytejjdfnelalnoaa
open Go Go.Gol
set_option linter.unusedVariables false
set_option linter.unusedSimpArgs false
set_option maxRecDepth 100000
namespace Img
open Crc Page
theorem read_l1 {S : List (List B8)} (hV : Valid S) (hS : ∀ s ∈ S, s.length ≤ 2000000) : ∀ (m k i : Nat) (acc : List (List Int)), S.length - i = m → m < k → i ≤ S.length → acc.length = i →
    colophonlaw06_read.l1 (some (objS S)) (S.length : Int) k acc (i : Int) = some (acc ++ (S.drop i).map (·.map ub)) := by
  have h60 := hV.1
  intro m
  induction m with
  | zero => intro k i acc h1 h2 h3 h4; cases k with
    | zero => omega
    | succ k =>
      rw [colophonlaw06_read.l1, if_neg (by rw [decide_eq_true_eq]; omega), List.drop_of_length_le (by omega)]; simp
  | succ m ih => intro k i acc h1 h2 h3 h4; cases k with
    | zero => omega
    | succ k =>
      have hil : i < S.length := by omega
      rw [colophonlaw06_read.l1, if_pos (by rw [decide_eq_true_eq]; omega), sec_g hV hS hil, Option.bind_some, app?_eq (by simp; omega), Option.bind_some, wi_eq (by omega) (by omega), show ((i : Int) + 1) = ((i + 1 : Nat) : Int) by omega, ih k (i + 1) _ (by omega) (by omega) (by omega) (by simp; omega), List.drop_eq_getElem_cons hil, List.append_assoc]; rfl
theorem read_g {S : List (List B8)} (hV : Valid S) (hS : ∀ s ∈ S, s.length ≤ 2000000) : colophonlaw06_read.f (some (objS S)) = some (S.map (·.map ub)) := by
  unfold colophonlaw06_read.f
  have h := read_l1 hV hS S.length FU 0 [] (by omega) (by have := hV.1; show S.length < 4611686018427387904; omega) (by omega) rfl
  rw [show ((0 : Nat) : Int) = 0 from rfl, List.drop_zero, List.nil_append] at h
  rw [sections_g, Option.bind_some, h]; rfl
/-! ### the document's Open -/
theorem ro_sub (B : List B8) (hB : B.length ≤ 100000) {i : Nat} (h : 264 * i ≤ B.length) : sub? (B.map ub) ((264 * i : Nat) : Int) (imin (wi (((264 * i : Nat) : Int) + 264)) ((B.map ub).length : Int)) = some ((pgAt B i).map ub) := by
  rw [wi_eq (by omega) (by omega), List.length_map]
  have e : imin (((264 * i : Nat) : Int) + 264) (B.length : Int) = ((min (264 * i + 264) B.length : Nat) : Int) := by unfold imin; split <;> omega
  rw [e, sub?_nat _ (by omega) (by rw [List.length_map]; omega), ← List.map_take, ← List.map_drop, List.drop_take]
  congr 2
  unfold pgAt
  by_cases h2 : 264 * i + 264 ≤ B.length
  · rw [show min (264 * i + 264) B.length - 264 * i = 264 by omega]
  · rw [List.take_of_length_le (by rw [List.length_drop]; omega), List.take_of_length_le (by rw [List.length_drop]; omega)]
theorem ro_l1 {B : List B8} (hB : B.length ≤ 100000) {q : Nat} (hq : q = B.length / 264) : ∀ (m k i : Nat) (acc : List (List Int)), q - i = m → m + 1 < k → i ≤ q → acc.length = i →
    ((∀ j, i ≤ j → j < q → pgOk B j) ∧ B.length = 264 * q ∧ colophonref06_Open.l1 (B.map ub) k acc ((264 * i : Nat) : Int) = some (.inr (acc ++ (held B q i).map (·.map ub)))) ∨
    (((∃ j, i ≤ j ∧ j < q ∧ ¬ pgOk B j) ∨ B.length ≠ 264 * q) ∧ colophonref06_Open.l1 (B.map ub) k acc ((264 * i : Nat) : Int) = some (.inl ([], false))) := by
  intro m
  induction m with
  | zero => intro k i acc hm hk hi ha; cases k with
    | zero => omega
    | succ k =>
      have e : i = q := by omega
      subst e
      by_cases h : B.length = 264 * i
      · left
        refine ⟨fun j h1 h2 => by omega, h, ?_⟩
        rw [colophonref06_Open.l1, if_neg (by rw [decide_eq_true_eq, List.length_map]; omega)]
        simp [held]
      · right
        refine ⟨.inr h, ?_⟩
        have hl : (pgAt B i).length < 264 := by unfold pgAt; rw [List.length_take, List.length_drop]; omega
        rw [colophonref06_Open.l1, if_pos (by rw [decide_eq_true_eq, List.length_map]; omega), ro_sub B hB (by omega), Option.bind_some, refget_f _ (by omega), Option.bind_some]
        unfold getR
        rw [if_pos hl, if_pos (by decide)]
  | succ m ih => intro k i acc hm hk hi ha; cases k with
    | zero => omega
    | succ k =>
      have hil : i < q := by omega
      have hl : (pgAt B i).length = 264 := by unfold pgAt; rw [List.length_take, List.length_drop]; omega
      have e1 : wi (Int.tdiv ((264 * i : Nat) : Int) 264) = (i : Int) := by rw [Int.tdiv_eq_ediv_of_nonneg (by omega), wi_eq (by omega) (by omega)]; omega
      have e2 : wi (((264 * i : Nat) : Int) + 264) = ((264 * (i + 1) : Nat) : Int) := by rw [wi_eq (by omega) (by omega)]; omega
      have e3 : colophonref06_Open.l1 (B.map ub) (k + 1) acc ((264 * i : Nat) : Int) = if ((getR (pgAt B i)).2.2 != 0) = true then some (.inl ([], false)) else if ((getR (pgAt B i)).1 != (i : Int)) = true then some (.inl ([], false)) else ((app? 5864062014805 acc ([(getR (pgAt B i)).2.1] : List (List Int))).bind fun y24 => colophonref06_Open.l1 (B.map ub) k y24 ((264 * (i + 1) : Nat) : Int)) := by
        rw [colophonref06_Open.l1, if_pos (by rw [decide_eq_true_eq, List.length_map]; omega), ro_sub B hB (by omega), Option.bind_some, refget_f _ (by omega), Option.bind_some, e1, e2]
      rw [e3]
      by_cases hok : pgOk B i
      · have hr : getR (pgAt B i) = ((i : Int), ((pgAt B i).take 256).map ub, 0) := by
          unfold getR
          have h2 := hok.2
          rw [if_neg (by omega), if_neg (by omega), if_pos hok.1, if_neg (by omega), h2]
        rw [hr]
        simp only []
        rw [if_neg (by simp), if_neg (by simp), app?_eq (by simp; omega), Option.bind_some]
        rcases ih k (i + 1) (acc ++ [((pgAt B i).take 256).map ub]) (by omega) (by omega) (by omega) (by simp; omega) with ⟨g1, g0, g2⟩ | ⟨g1, g2⟩
        · left
          refine ⟨fun j h3 h4 => ?_, g0, ?_⟩
          · by_cases hj : j = i
            · rw [hj]; exact hok
            · exact g1 j (by omega) h4
          · rw [g2, held_cons hil, List.append_assoc]; rfl
        · right
          refine ⟨?_, g2⟩
          rcases g1 with ⟨j, a, b, c⟩ | g1
          · exact .inl ⟨j, by omega, b, c⟩
          · exact .inr g1
      · right
        refine ⟨.inl ⟨i, Nat.le_refl _, hil, hok⟩, ?_⟩
        by_cases h1 : put ((pgAt B i).take 260) = pgAt B i
        · by_cases h2 : num (pgAt B i) ≥ 4096
          · have hr : getR (pgAt B i) = (0, [], 10) := by
              unfold getR
              rw [if_neg (by omega), if_neg (by omega), if_pos h1, if_pos h2]
            rw [hr, if_pos (by decide)]
          · have hr : getR (pgAt B i) = ((num (pgAt B i) : Int), ((pgAt B i).take 256).map ub, 0) := by
              unfold getR
              rw [if_neg (by omega), if_neg (by omega), if_pos h1, if_neg h2]
            have h3 : num (pgAt B i) ≠ i := fun h => hok ⟨h1, h⟩
            rw [hr, if_neg (by simp), if_pos (by rw [bne_iff_ne]; simp only []; omega)]
        · have hr : getR (pgAt B i) = (0, [], 40) := by
            unfold getR
            rw [if_neg (by omega), if_neg (by omega), if_neg h1]
          rw [hr, if_pos (by decide)]
/-- the pages of a section -/
theorem pages_len {R : List (List B8)} (hR : ∀ x ∈ R, x.length = 256) {a j : Nat} (h : a + j ≤ R.length) : (((R.drop a).take j).flatten).length = 256 * j := by
  have hx : ∀ x ∈ (R.drop a).take j, x.length = 256 := fun x hx => hR x (List.mem_of_mem_drop (List.mem_of_mem_take hx))
  have e : ((R.drop a).take j).length = j := by rw [List.length_take, List.length_drop]; omega
  generalize (R.drop a).take j = X at *
  rw [← e]
  clear e h
  induction X with
  | nil => rfl
  | cons x X ih => rw [List.flatten_cons, List.length_append, hx x List.mem_cons_self, ih (fun y hy => hx y (List.mem_cons_of_mem _ hy)), List.length_cons]; omega
theorem ro_l3 {R : List (List B8)} (hR : ∀ x ∈ R, x.length = 256) (hl : R.length ≤ 4096) {v0 v1 v2 v3 : Int} {z : Nat} (hz : z < 4294967296) (he : wi ((wi v0) + (wi (256 * (wi ((wi v1) + (wi (256 * (wi ((wi v2) + (wi (256 * (wi v3)))))))))))) = (z : Int)) {a : Nat} : ∀ (m k j : Nat), many z - j = m → m < k → j ≤ many z → a + j ≤ R.length →
    colophonref06_Open.l3 (R.map (·.map ub)) v0 v1 v2 v3 k ((a + j : Nat) : Int) ((((R.drop a).take j).flatten).map ub) = some (if a + many z ≤ R.length then .inr (((a + many z : Nat) : Int), (((R.drop a).take (many z)).flatten).map ub) else .inl ([], false)) := by
  have hmz : many z = (z + 255) / 256 := rfl
  intro m
  induction m with
  | zero => intro k j hm hk hj ha; cases k with
    | zero => omega
    | succ k =>
      have e : j = many z := by omega
      rw [colophonref06_Open.l3, he, if_neg (by rw [decide_eq_true_eq, List.length_map, pages_len hR ha]; omega), e, if_pos (by omega)]
  | succ m ih => intro k j hm hk hj ha; cases k with
    | zero => omega
    | succ k =>
      have hjl : j < many z := by omega
      rw [colophonref06_Open.l3, he, if_pos (by rw [decide_eq_true_eq, List.length_map, pages_len hR ha]; omega)]
      by_cases hn : a + j = R.length
      · rw [if_pos (by rw [decide_eq_true_eq, List.length_map]; omega), if_neg (by omega)]
      · have hlt : a + j < R.length := by omega
        rw [if_neg (by rw [decide_eq_true_eq, List.length_map]; omega), at_sec hlt, Option.bind_some, app?_eq (by rw [List.length_map, List.length_map, pages_len hR ha, hR _ (List.getElem_mem hlt)]; omega), Option.bind_some, wi_eq (by omega) (by omega), show (((a + j : Nat) : Int) + 1) = ((a + (j + 1) : Nat) : Int) by omega, ← List.map_append]
        have e : ((R.drop a).take j).flatten ++ R[a + j] = ((R.drop a).take (j + 1)).flatten := by
          rw [List.take_add_one, List.getElem?_drop, List.getElem?_eq_getElem hlt, Option.toList_some, List.flatten_append]; simp
        rw [e, ih k (j + 1) (by omega) (by omega) (by omega) (by omega)]
theorem sz_eq {P : List B8} (i : Nat) {v0 v1 v2 v3 : Nat} (h0 : v0 < 256) (h1 : v1 < 256) (h2 : v2 < 256) (h3 : v3 < 256) : wi ((wi (v0 : Int)) + (wi (256 * (wi ((wi (v1 : Int)) + (wi (256 * (wi ((wi (v2 : Int)) + (wi (256 * (wi (v3 : Int)))))))))))) ) = ((v0 + 256 * (v1 + 256 * (v2 + 256 * v3)) : Nat) : Int) := by
  rw [wi_eq (n := (v0 : Int)) (by omega) (by omega), wi_eq (n := (v1 : Int)) (by omega) (by omega), wi_eq (n := (v2 : Int)) (by omega) (by omega), wi_eq (n := (v3 : Int)) (by omega) (by omega), wi_eq (n := 256 * (v3 : Int)) (by omega) (by omega), wi_eq (n := (v2 : Int) + _) (by omega) (by omega), wi_eq (n := 256 * ((v2 : Int) + _)) (by omega) (by omega), wi_eq (n := (v1 : Int) + _) (by omega) (by omega), wi_eq (n := 256 * ((v1 : Int) + _)) (by omega) (by omega), wi_eq (by omega) (by omega)]; omega
theorem ro_l2 {R : List (List B8)} (hR : ∀ x ∈ R, x.length = 256) (hl : R.length ≤ 4096) {P : List B8} (hP : P.length = 256) (h0 : R[0]? = some P) (h5 : (P.getD 5 0#8).toNat = 0) (h60 : cnt P ≤ 60) : ∀ (m k i : Nat) (acc : List (List Int)), cnt P - i = m → m < k → i ≤ cnt P → acc.length = i → 1 + totZ ((sizes P).take i) ≤ R.length →
    colophonref06_Open.l2 (R.map (·.map ub)) k acc ((1 + totZ ((sizes P).take i) : Nat) : Int) (i : Int) = some (if 1 + totZ (sizes P) ≤ R.length then .inr (acc ++ ((secs R (sizes P)).drop i).map (·.map ub)) else .inl ([], false)) := by
  have hzl : (sizes P).length = cnt P := by simp [sizes]
  have hc : cnt P = (P.getD 4 0#8).toNat := by unfold cnt; rw [h5]; omega
  have hr0 : at? (R.map (·.map ub)) 0 = some (P.map ub) := by rw [show (0 : Int) = ((0 : Nat) : Int) from rfl, at?_nat, List.getElem?_map, h0]; rfl
  have ha4 : at? (P.map ub) 4 = some (((P.getD 4 0#8).toNat : Nat) : Int) := atu (i := 4) (by omega)
  intro m
  induction m with
  | zero => intro k i acc hm hk hi ha ht; cases k with
    | zero => omega
    | succ k =>
      rw [colophonref06_Open.l2, hr0, Option.bind_some, ha4, Option.bind_some, wi_eq (by omega) (by omega), if_neg (by rw [decide_eq_true_eq]; omega), List.drop_of_length_le (by rw [secs_len]; omega)]
      rw [List.take_of_length_le (by omega)] at ht
      rw [if_pos ht]; simp
  | succ m ih => intro k i acc hm hk hi ha ht; cases k with
    | zero => omega
    | succ k =>
      have hil : i < cnt P := by omega
      have hiz : i < (sizes P).length := by omega
      have hz : (sizes P)[i] = szAt P i := by simp [sizes]
      have hzz := szAt_lt P i
      have hts : totZ ((sizes P).take (i + 1)) = totZ ((sizes P).take i) + many (szAt P i) := by
        unfold totZ
        rw [List.take_add_one, List.getElem?_eq_getElem hiz, Option.toList_some, List.map_append, List.sum_append, hz]; simp
      have htot := totZ_split (sizes P) (i + 1)
      have hs : sub? (P.map ub) (wi (6 + (wi (4 * (i : Int))))) (wi (10 + (wi (4 * (i : Int))))) = some (((P.drop (6 + 4 * i)).take 4).map ub) := by
        rw [wi_eq (n := 4 * (i : Int)) (by omega) (by omega), wi_eq (n := 6 + 4 * (i : Int)) (by omega) (by omega), wi_eq (by omega) (by omega), show 6 + 4 * (i : Int) = ((6 + 4 * i : Nat) : Int) by omega, show 10 + 4 * (i : Int) = ((10 + 4 * i : Nat) : Int) by omega, sub?_nat _ (by omega) (by rw [List.length_map]; omega), ← List.map_take, ← List.map_drop, List.drop_take, show 10 + 4 * i - (6 + 4 * i) = 4 by omega]
      have hq : ((P.drop (6 + 4 * i)).take 4).length = 4 := by rw [List.length_take, List.length_drop]; omega
      have hg : ∀ j, j < 4 → ((P.drop (6 + 4 * i)).take 4).getD j 0#8 = P.getD (6 + 4 * i + j) 0#8 := fun j hj => by
        rw [List.getD_eq_getElem?_getD, List.getElem?_take, if_pos hj, List.getElem?_drop, List.getD_eq_getElem?_getD]
      have q0 : at? (((P.drop (6 + 4 * i)).take 4).map ub) 0 = some (((P.getD (6 + 4 * i) 0#8).toNat : Nat) : Int) := by have := atu (P := (P.drop (6 + 4 * i)).take 4) (i := 0) (by omega); rwa [hg 0 (by omega)] at this
      have q1 : at? (((P.drop (6 + 4 * i)).take 4).map ub) 1 = some (((P.getD (6 + 4 * i + 1) 0#8).toNat : Nat) : Int) := by have := atu (P := (P.drop (6 + 4 * i)).take 4) (i := 1) (by omega); rwa [hg 1 (by omega)] at this
      have q2 : at? (((P.drop (6 + 4 * i)).take 4).map ub) 2 = some (((P.getD (6 + 4 * i + 2) 0#8).toNat : Nat) : Int) := by have := atu (P := (P.drop (6 + 4 * i)).take 4) (i := 2) (by omega); rwa [hg 2 (by omega)] at this
      have q3 : at? (((P.drop (6 + 4 * i)).take 4).map ub) 3 = some (((P.getD (6 + 4 * i + 3) 0#8).toNat : Nat) : Int) := by have := atu (P := (P.drop (6 + 4 * i)).take 4) (i := 3) (by omega); rwa [hg 3 (by omega)] at this
      have he := sz_eq (P := P) i (P.getD (6 + 4 * i) 0#8).isLt (P.getD (6 + 4 * i + 1) 0#8).isLt (P.getD (6 + 4 * i + 2) 0#8).isLt (P.getD (6 + 4 * i + 3) 0#8).isLt
      replace he : wi ((wi (((P.getD (6 + 4 * i) 0#8).toNat : Nat) : Int)) + (wi (256 * (wi ((wi (((P.getD (6 + 4 * i + 1) 0#8).toNat : Nat) : Int)) + (wi (256 * (wi ((wi (((P.getD (6 + 4 * i + 2) 0#8).toNat : Nat) : Int)) + (wi (256 * (wi (((P.getD (6 + 4 * i + 3) 0#8).toNat : Nat) : Int))))))))))))) = ((szAt P i : Nat) : Int) := he
      have hmF : many (szAt P i) < FU := by
        have : many (szAt P i) ≤ 16777216 := by unfold many; omega
        show many (szAt P i) < 4611686018427387904; omega
      have h3 := ro_l3 hR hl hzz he (a := 1 + totZ ((sizes P).take i)) (many (szAt P i)) FU 0 (by omega) hmF (by omega) (by omega)
      rw [show 1 + totZ ((sizes P).take i) + 0 = 1 + totZ ((sizes P).take i) from rfl, List.take_zero, List.flatten_nil, List.map_nil] at h3
      rw [colophonref06_Open.l2, hr0, Option.bind_some, ha4, Option.bind_some, wi_eq (n := (((P.getD 4 0#8).toNat : Nat) : Int)) (by omega) (by omega), if_pos (by rw [decide_eq_true_eq]; omega), hs, Option.bind_some, q0, Option.bind_some, q1, Option.bind_some, q2, Option.bind_some, q3, Option.bind_some, h3, Option.bind_some]
      by_cases hg2 : 1 + totZ ((sizes P).take i) + many (szAt P i) ≤ R.length
      · rw [if_pos hg2]
        simp only []
        rw [he, sub?_pre _ (by rw [List.length_map, pages_len hR hg2]; unfold many; omega), Option.bind_some, app?_eq (by simp; omega), Option.bind_some, wi_eq (by omega) (by omega), show ((i : Int) + 1) = ((i + 1 : Nat) : Int) by omega, show 1 + totZ ((sizes P).take i) + many (szAt P i) = 1 + totZ ((sizes P).take (i + 1)) by omega, ih k (i + 1) _ (by omega) (by omega) (by omega) (by simp; omega) (by omega)]
        by_cases hg3 : 1 + totZ (sizes P) ≤ R.length
        · rw [if_pos hg3, if_pos hg3, secs_drop hiz, List.append_assoc, hz]
          unfold secAt
          rw [← List.map_take]; rfl
        · rw [if_neg hg3, if_neg hg3]
      · rw [if_neg hg2, if_neg (by omega)]
theorem secs_lens {R : List (List B8)} (hR : ∀ x ∈ R, x.length = 256) {Z : List Nat} (h : 1 + totZ Z ≤ R.length) : lens (secs R Z) = Z := by
  apply List.ext_getElem?
  intro i
  unfold lens
  rw [List.getElem?_map]
  by_cases hi : i < Z.length
  · rw [secs_get hi, Option.map_some, List.getElem?_eq_getElem hi]
    have hs := totZ_split Z i
    rw [totZ_drop hi] at hs
    rw [secAt_len hR (by omega)]
  · rw [List.getElem?_eq_none (by rw [secs_len]; omega), List.getElem?_eq_none (by omega)]; rfl
theorem many_le {Z : List Nat} {z : Nat} (h : z ∈ Z) : many z ≤ totZ Z := by
  induction Z with
  | nil => cases h
  | cons x Z ih =>
    unfold totZ at *
    rw [List.map_cons, List.sum_cons]
    rcases List.mem_cons.1 h with rfl | h
    · omega
    · have := ih h; omega
/-- the document's Open, at all bytes -/
theorem refopen_f (B : List B8) (hB : B.length ≤ 100000) :
    (∃ n, Paged B n ∧ B = img (cut B n) ∧ colophonref06_Open.f (B.map ub) = some ((cut B n).map (·.map ub), true)) ∨ ((∀ n, Paged B n → B ≠ img (cut B n)) ∧ colophonref06_Open.f (B.map ub) = some ([], false)) := by
  unfold colophonref06_Open.f
  obtain ⟨n, hn⟩ : ∃ n, n = B.length / 264 := ⟨_, rfl⟩
  have hl1 := ro_l1 hB hn n FU 0 [] (by omega) (by show n + 1 < 4611686018427387904; omega) (by omega) rfl
  rw [Nat.mul_zero, List.nil_append, show ((0 : Nat) : Int) = 0 from rfl] at hl1
  rcases hl1.symm with ⟨p1, p2⟩ | ⟨p1, p0, p2⟩
  · right
    refine ⟨fun n' h => ?_, ?_⟩
    · have e1 := h.1
      rcases p1 with ⟨j, _, a, b⟩ | p1
      · exact absurd (h.2.2.2.1 j (by omega)) b
      · omega
    · rw [p2]; rfl
  rw [p2, Option.bind_some]
  simp only []
  have hlr : (held B n 0).length = n := by rw [held_len]; omega
  by_cases hn0 : n = 0
  · right
    refine ⟨fun n' h => by have := h.1; have := h.2.1; omega, ?_⟩
    rw [if_pos (by rw [beq_iff_eq, List.length_map]; omega)]
  rw [if_neg (by rw [beq_iff_eq, List.length_map]; omega)]
  have hun : ∀ n', Paged B n' → n' = n := fun n' h => by have := h.1; omega
  have hP : ((pgAt B 0).take 256).length = 256 := by rw [List.length_take, pgAt_len p0 (by omega)]; rfl
  have hr0 : (held B n 0)[0]? = some ((pgAt B 0).take 256) := by rw [held_cons (by omega)]; rfl
  generalize hPP : (pgAt B 0).take 256 = P at *
  have ha0 : at? ((held B n 0).map (·.map ub)) 0 = some (P.map ub) := by rw [show (0 : Int) = ((0 : Nat) : Int) from rfl, at?_nat, List.getElem?_map, hr0]; rfl
  have a4 : at? (P.map ub) 4 = some (((P.getD 4 0#8).toNat : Nat) : Int) := atu (i := 4) (by omega)
  have a5 : at? (P.map ub) 5 = some (((P.getD 5 0#8).toNat : Nat) : Int) := atu (i := 5) (by omega)
  have hcolo : ((bs ((P.take 4).map ub)).toList == (⟨#[99, 111, 108, 111]⟩ : ByteArray).toList) = decide (P.take 4 = colo) := by
    have := bs_beq (P.take 4) colo
    rw [← this]; rfl
  have s4 : sub? (P.map ub) 0 4 = some ((P.take 4).map ub) := by
    have := sub?_pre (P.map ub) (b := 4) (by rw [List.length_map]; omega)
    rw [← List.map_take] at this; exact this
  have hno : ¬ hdOk P n → ∀ n', Paged B n' → B ≠ img (cut B n') := fun h n' hp => absurd (by have := hp.2.2.2.2; rw [hun n' hp, hPP] at this; exact this) h
  rw [ha0, Option.bind_some, s4, Option.bind_some, hcolo]
  by_cases g1 : ¬ P.take 4 = colo
  · right
    refine ⟨hno (fun h => g1 h.1), ?_⟩
    rw [if_pos (by simpa using g1)]
  replace g1 : P.take 4 = colo := Classical.byContradiction g1
  rw [if_neg (by simpa using g1), a4, Option.bind_some]
  by_cases g2 : (P.getD 4 0#8).toNat > 60
  · right
    refine ⟨hno (fun h => by have := h.2.1; unfold cnt at this; omega), ?_⟩
    rw [if_pos (by rw [decide_eq_true_eq]; omega)]
  rw [if_neg (by rw [decide_eq_true_eq]; omega), a5, Option.bind_some]
  by_cases g3 : (P.getD 5 0#8).toNat > 0
  · right
    refine ⟨hno (fun h => by have := h.2.1; unfold cnt at this; omega), ?_⟩
    rw [if_pos (by rw [decide_eq_true_eq]; omega)]
  rw [if_neg (by rw [decide_eq_true_eq]; omega)]
  have h60 : cnt P ≤ 60 := by unfold cnt; omega
  have hzl : (sizes P).length = cnt P := by simp [sizes]
  have hR := held_256 p0
  have h2 := ro_l2 hR (by omega) hP hr0 (by omega) h60 (cnt P) FU 0 [] (by omega) (by show cnt P < 4611686018427387904; omega) (by omega) rfl (by rw [List.take_zero]; show 1 + 0 ≤ _; omega)
  rw [List.take_zero, show ((1 + totZ [] : Nat) : Int) = 1 from rfl, show ((0 : Nat) : Int) = 0 from rfl, List.drop_zero, List.nil_append] at h2
  rw [h2, Option.bind_some]
  by_cases g4 : ¬ 1 + totZ (sizes P) ≤ (held B n 0).length
  · right
    refine ⟨hno (fun h => by have := h.2.2; omega), ?_⟩
    rw [if_neg g4]
  replace g4 : 1 + totZ (sizes P) ≤ (held B n 0).length := Classical.byContradiction g4
  rw [if_pos g4]
  simp only []
  have hll := secs_lens hR g4
  have hsl : ∀ s ∈ secs (held B n 0) (sizes P), s.length ≤ 2000000 := fun s hs => by
    have h5 : s.length ∈ sizes P := by rw [← hll]; exact List.mem_map.2 ⟨s, hs, rfl⟩
    have h6 := many_le h5
    unfold many at h6
    omega
  have ht : total (secs (held B n 0) (sizes P)) = totZ (sizes P) := by rw [← totZ_lens, hll]
  have hv : Valid (secs (held B n 0) (sizes P)) := ⟨by rw [secs_len]; omega, by omega⟩
  rw [refbuild_f _ hsl, Option.bind_some, if_pos hv, if_neg (by simp)]
  simp only []
  rw [bs_beq]
  have hil := img_len hv.1
  by_cases he : img (secs (held B n 0) (sizes P)) = B
  · left
    have hpg : Paged B n := ⟨p0, by omega, by omega, fun j hj => p1 j (by omega) hj, by rw [hPP]; exact ⟨g1, h60, by rw [he] at hil; omega⟩⟩
    have hcut : cut B n = secs (held B n 0) (sizes P) := by unfold cut; rw [hPP]
    refine ⟨n, hpg, by rw [hcut, he], ?_⟩
    rw [if_neg (by simp [he]), hcut]
  · right
    refine ⟨fun n' hp => ?_, ?_⟩
    · rw [hun n' hp]
      have hcut : cut B n = secs (held B n 0) (sizes P) := by unfold cut; rw [hPP]
      rw [hcut]; exact fun e => he e.symm
    · rw [if_pos (by simp [he])]
/-! ### pages sealed anew -/
theorem cpyIn_map (X Y Z : List B8) (lo hi : Nat) : cpyIn (X.map ub) lo hi (Y.map ub) (Z.map ub) = (cpyIn X lo hi Y Z).map ub := by
  unfold cpyIn cpy
  rw [List.map_append, List.map_append, List.map_append, List.map_take, List.map_drop, List.map_take, List.map_drop, List.length_map, List.length_map]
theorem seal_l1 (a1 : Bool) (len : Nat) (hlen : len ≤ 100000) : ∀ (m k j : Nat) (X : List B8), len / 264 - j = m → m < k → j ≤ len / 264 → X.length = len → ∃ Y : List B8, colophonlaw06_ImageOpens.l1 a1 k (X.map ub) ((264 * j : Nat) : Int) = some (Y.map ub) ∧ Y.length = len := by
  intro m
  induction m with
  | zero => intro k j X hm hk hj hX; cases k with
    | zero => omega
    | succ k =>
      refine ⟨X, ?_, hX⟩
      rw [colophonlaw06_ImageOpens.l1]
      cases a1 with
      | false => rfl
      | true => rw [if_pos rfl, if_neg (by rw [decide_eq_true_eq, List.length_map, wi_eq (by omega) (by omega)]; omega)]
  | succ m ih => intro k j X hm hk hj hX; cases k with
    | zero => omega
    | succ k =>
      rw [colophonlaw06_ImageOpens.l1]
      cases a1 with
      | false => exact ⟨X, rfl, hX⟩
      | true =>
        have hl : (pgAt X j).length = 264 := by unfold pgAt; rw [List.length_take, List.length_drop]; omega
        have e1 : wi (((264 * j : Nat) : Int) + 264) = ((264 * j + 264 : Nat) : Int) := by rw [wi_eq (by omega) (by omega)]; omega
        have e2 : wi (((264 * j : Nat) : Int) + 260) = ((264 * j + 260 : Nat) : Int) := by rw [wi_eq (by omega) (by omega)]; omega
        have s1 : sub? (X.map ub) ((264 * j : Nat) : Int) ((264 * j + 264 : Nat) : Int) = some ((pgAt X j).map ub) := by
          rw [sub?_nat _ (by omega) (by rw [List.length_map]; omega), ← List.map_take, ← List.map_drop, List.drop_take, Nat.add_sub_cancel_left]; rfl
        have s2 : sub? (X.map ub) ((264 * j : Nat) : Int) ((264 * j + 260 : Nat) : Int) = some (((X.drop (264 * j)).take 260).map ub) := by
          rw [sub?_nat _ (by omega) (by rw [List.length_map]; omega), ← List.map_take, ← List.map_drop, List.drop_take, Nat.add_sub_cancel_left]
        have h260 : ((X.drop (264 * j)).take 260).length = 260 := by rw [List.length_take, List.length_drop]; omega
        rw [if_pos rfl, e1, e2, if_pos (by rw [decide_eq_true_eq, List.length_map]; omega), s1, Option.bind_some, s2, Option.bind_some, ref_put _ (by omega), Option.bind_some, Int.toNat_natCast, Int.toNat_natCast, cpyIn_map, show 264 * j + 264 = 264 * (j + 1) by omega]
        refine ih k (j + 1) _ (by omega) (by omega) (by omega) ?_
        unfold cpyIn
        rw [List.length_append, List.length_append, cpy_len, hl, List.length_take, List.length_drop]; omega
end Img
open Img Crc Page
theorem pure_ImageOpens (l0 : List Int) (F0 : Fits (.slice 5 (.int .u8)) l0) (a1 : Bool) (F1 : Fits .bool a1) : colophonlaw06_ImageOpens.f l0 a1 = some true := by
  obtain ⟨B, rfl⟩ := bytes_ex F0
  unfold colophonlaw06_ImageOpens.f
  rw [Img.first_f, Option.bind_some, if_neg (by simp)]
  by_cases h1 : B.length > 100000
  · rw [if_pos (by rw [decide_eq_true_eq, List.length_map]; omega)]
  rw [if_neg (by rw [decide_eq_true_eq, List.length_map]; omega), app?_eq (by rw [List.length_map]; simp; omega), Option.bind_some, List.nil_append]
  obtain ⟨X, hX, hXl⟩ := seal_l1 a1 B.length (by omega) (B.length / 264) FU 0 B (by omega) (by show B.length / 264 < 4611686018427387904; omega) (by omega) rfl
  rw [Nat.mul_zero, show ((0 : Nat) : Int) = 0 from rfl] at hX
  rw [hX, Option.bind_some, app?_eq (by rw [List.length_map]; simp; omega), Option.bind_some, List.nil_append]
  have x2 : colophonlaw06_ImageOpens.l2 (X.map ub) FU (X.map ub) 0 = some () := xor_loop (colophonlaw06_ImageOpens.l2 (X.map ub)) (X.map ub).length (by rw [List.length_map]; omega) (fun k x i => rfl) _ rfl
  have x3 : colophonlaw06_ImageOpens.l3 (X.map ub) FU (X.map ub) 0 = some () := xor_loop (colophonlaw06_ImageOpens.l3 (X.map ub)) (X.map ub).length (by rw [List.length_map]; omega) (fun k x i => rfl) _ rfl
  rcases open_f X (by omega) with ⟨n, g1, g2, g3⟩ | ⟨g1, g2⟩
  · rcases refopen_f X (by omega) with ⟨n', k1, k2, k3⟩ | ⟨k1, k3⟩
    · have hnn : n' = n := by have := g1.1; have := k1.1; omega
      subst hnn
      obtain ⟨v1, v2, v3⟩ := cut_valid g1
      have v4 : (cut X n').length ≤ 60 := v1.1
      have ho : image_Open.f (X.map ub) = some (some (objS (cut X n')), 0) := by
        have := open_img v1 v3
        rw [← g2] at this; exact this
      rw [ho, Option.bind_some]
      simp only []
      rw [x2, Option.bind_some, k3, Option.bind_some, if_neg (by simp), if_pos (by simp), read_g v1 v3, Option.bind_some, same_f _ _ (by omega) (by omega), Option.bind_some, decide_eq_true rfl]
    · exact absurd g2 (k1 n g1)
  · rcases refopen_f X (by omega) with ⟨n', k1, k2, k3⟩ | ⟨k1, k3⟩
    · exact absurd k2 (g1 n' k1)
    · rw [g2, Option.bind_some]
      simp only []
      rw [x3, Option.bind_some, k3, Option.bind_some, if_pos (by simp), if_pos (by simp)]
end Go.Proofs.Ytejjdfnelalnoaa
