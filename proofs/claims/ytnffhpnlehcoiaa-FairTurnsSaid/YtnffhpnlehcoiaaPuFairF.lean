/-
  Every job has its turn, in plain words. No condition.
-/
import Derived.Test.YtnffhpnlehcoiaaPuFairB
import Derived.Test.YtnffhpnlehcoiaaGFairTurns
namespace Go.Proofs.Ytnffhpnlehcoiaa
open Go Go.Gol
set_option linter.unusedVariables false
set_option linter.unusedSimpArgs false
set_option linter.unnecessarySimpa false
set_option maxRecDepth 100000
open Fair
namespace FairT
theorem first_f : colophonlaw23_first.f = some true := by decide +kernel
theorem tmod_eq {a b : Int} (ha : 0 ≤ a) : Int.tmod a b = a % b := Int.tmod_eq_emod_of_nonneg ha
theorem at_d {l : List Int} {i : Nat} (h : i < l.length) : at? l (i : Int) = some (l.getD i 0) := by
  rw [at?_nat, List.getElem?_eq_getElem h]; simp [List.getD_eq_getElem?_getD, List.getElem?_eq_getElem h]
theorem getD_set_i {l : List Int} {i j : Nat} {x : Int} : (l.set i x).getD j 0 = if i = j ∧ j < l.length then x else l.getD j 0 := by
  simp only [List.getD_eq_getElem?_getD, List.getElem?_set]
  by_cases h : i = j
  · subst h
    by_cases h2 : i < l.length
    · simp [h2]
    · simp [h2]
  · simp [h]
/-- a line is told anew -/
theorem Inv.set {C C' q : Int} {L : List Line} {t : Nat} {o : Bool} (hI : Fair.Inv C q L t o) {s : Nat} {l' : Line} (hC : C ≤ C') (hC2 : C' ≤ 1000000) (h1 : l'.1 = (L.getD s l0).1) (h2 : l'.2.1 ≤ (L.getD s l0).2.1) (h3 : -C' ≤ l'.2.1) (h4 : l'.2.2.2.length ≤ 1000000) : Fair.Inv C' q (L.set s l') t o := by
  have hg : ∀ j, (L.set s l').getD j l0 = if s = j ∧ j < L.length then l' else L.getD j l0 := fun j => getD_set
  refine ⟨⟨hI.ok.q1, hI.ok.q2, by rw [List.length_set]; exact hI.ok.len, fun j => ?_, fun j hj => ?_, fun j => ?_⟩, by rw [List.length_set]; exact hI.ht, fun j hj => ?_, fun ho => ?_, fun j => ?_, ?_⟩
  · rw [hg]; split
    · exact h4
    · exact hI.ok.jobs j
  · rw [List.length_set] at hj
    rw [hg]; split
    · rename_i e; rw [h1, e.1]; exact hI.ok.wt j hj
    · exact hI.ok.wt j hj
  · have := hI.ok.cr j
    rw [hg]; split
    · rename_i e; rw [e.1] at h2; omega
    · exact this
  · have := hI.oth j hj
    rw [hg]; split
    · rename_i e; rw [e.1] at h2; omega
    · exact this
  · have := hI.opn ho
    rw [hg]; split
    · rename_i e; rw [e.1] at h2; omega
    · exact this
  · have := hI.low j
    rw [hg]; split
    · exact h3
    · omega
  · have := hI.top
    rw [hg]; split
    · rename_i e; rw [h1, e.1]; rw [e.1] at h2; omega
    · exact this
/-! ### lists of jobs of which the numbers are unlike -/
theorem spl {J : List Job} {i : Nat} {x : Job} (h : J[i]? = some x) : J = J.take i ++ x :: J.drop (i + 1) := by
  have hi : i < J.length := by
    rcases Nat.lt_or_ge i J.length with h' | h'
    · exact h'
    · rw [List.getElem?_eq_none h'] at h; cases h
  have e : J[i] = x := by rw [List.getElem?_eq_getElem hi] at h; exact Option.some.inj h
  rw [← e, ← List.drop_eq_getElem_cons hi, List.take_append_drop]
theorem stay {q : Int} {L L' : List Line} {t t' : Nat} {o o' : Bool} (h : Fair.Steps q L t o L' t' o') (hs : stop (L.getD t l0) o = true) : L' = L ∧ t' = t ∧ o' = o := by
  cases h with
  | refl => exact ⟨rfl, rfl, rfl⟩
  | step h1 _ => rw [hs] at h1; cases h1
theorem find_at {L : List Line} {p : Job → Bool} : ∀ {t i : Nat}, t < L.length → fix p (L.getD t l0).2.2.2 = some i → (∀ s, s < t → fix p (L.getD s l0).2.2.2 = none) → find p L = some (t, i) := by
  induction L with
  | nil => intro t i ht; simp at ht
  | cons l L ih =>
    intro t i ht h1 h2
    unfold find
    cases t with
    | zero => rw [show (List.getD (l :: L) 0 l0) = l from rfl] at h1; rw [h1]
    | succ t =>
      have h0 := h2 0 (by omega)
      rw [show (List.getD (l :: L) 0 l0) = l from rfl] at h0
      rw [h0]
      simp only []
      rw [ih (t := t) (i := i) (by simpa using ht) (by simpa using h1) (fun s hs => by have := h2 (s + 1) (by omega); simpa using this)]; rfl
theorem find_no {L : List Line} {p : Job → Bool} (h : ∀ l ∈ L, fix p l.2.2.2 = none) : find p L = none := by
  induction L with
  | nil => rfl
  | cons l L ih => unfold find; rw [h l List.mem_cons_self]; simp only []; rw [ih (fun l hl => h l (List.mem_cons_of_mem _ hl))]; rfl
theorem fix_no {p : Job → Bool} {l : List Job} (h : ∀ j ∈ l, p j = false) : fix p l = none := by
  induction l with
  | nil => rfl
  | cons a l ih => unfold fix; rw [if_neg (by rw [h a List.mem_cons_self]; simp), ih (fun j hj => h j (List.mem_cons_of_mem _ hj))]; rfl
/-! ### the jobs as they came in -/
def cnt (l : List Int) (s : Nat) : Nat := (l.getD s 0 % 5).toNat
def off (l : List Int) : Nat → Nat
  | 0 => 0
  | s + 1 => off l s + cnt l s
theorem cnt_le (l : List Int) (s : Nat) : cnt l s ≤ 4 := by unfold cnt; omega
theorem off_succ (l : List Int) (s : Nat) : off l (s + 1) = off l s + cnt l s := rfl
theorem off_mono (l : List Int) {s t : Nat} (h : s ≤ t) : off l s ≤ off l t := by
  induction h with
  | refl => exact Nat.le_refl _
  | step _ ih => rw [off_succ]; omega
theorem off_le (l : List Int) (s : Nat) : off l s ≤ 4 * s := by
  induction s with
  | zero => exact Nat.le_refl _
  | succ s ih => have := cnt_le l s; rw [off_succ]; omega
theorem off_find (l : List Int) {n x : Nat} (h : x < off l n) : ∃ s, s < n ∧ off l s ≤ x ∧ x < off l (s + 1) := by
  induction n with
  | zero => simp [off] at h
  | succ n ih =>
    by_cases h2 : x < off l n
    · obtain ⟨s, a, b, c⟩ := ih h2
      exact ⟨s, by omega, b, c⟩
    · exact ⟨n, by omega, by omega, h⟩
def base (l : List Int) (h : Int) (s : Nat) : List Job := (List.range (cnt l s)).map fun p => (((off l s + p : Nat) : Int), decide (((off l s + p : Nat) : Int) = h))
theorem base_len (l : List Int) (h : Int) (s : Nat) : (base l h s).length = cnt l s := by simp [base]
theorem base_get {l : List Int} {h : Int} {s p : Nat} (hp : p < cnt l s) : (base l h s)[p]? = some (((off l s + p : Nat) : Int), decide (((off l s + p : Nat) : Int) = h)) := by
  unfold base; rw [List.getElem?_map, List.getElem?_range hp]; rfl
theorem base_mem {l : List Int} {h : Int} {s : Nat} {y : Job} (hy : y ∈ base l h s) : ∃ x : Nat, y = ((x : Int), decide ((x : Int) = h)) ∧ off l s ≤ x ∧ x < off l (s + 1) := by
  unfold base at hy
  obtain ⟨p, hp, rfl⟩ := List.mem_map.1 hy
  have := List.mem_range.1 hp
  exact ⟨_, rfl, by omega, by rw [off_succ]; omega⟩
theorem base_nd (l : List Int) (h : Int) (s : Nat) : ((base l h s).map (·.1)).Nodup := by
  unfold base
  rw [List.map_map]
  unfold List.Nodup
  rw [List.pairwise_map]
  refine List.Pairwise.imp ?_ (List.nodup_range (n := cnt l s))
  intro a b hab e
  apply hab
  simp only [Function.comp_def] at e
  omega
/-- the lines while the jobs come in -/
def ln (l : List Int) (n i p : Nat) : List Line := (List.range n).map fun j => (((1 + j : Nat) : Int), 0, 0, if j < i then base l (-1) j else if j = i then (base l (-1) j).take p else [])
theorem ln_len (l : List Int) (n i p : Nat) : (ln l n i p).length = n := by simp [ln]
theorem ln_get {l : List Int} {n i p j : Nat} (h : j < n) : (ln l n i p)[j]? = some (((1 + j : Nat) : Int), 0, 0, if j < i then base l (-1) j else if j = i then (base l (-1) j).take p else []) := by
  unfold ln; rw [List.getElem?_map, List.getElem?_range h]; rfl
theorem ln_sm {l : List Int} {n i p : Nat} (hn : n ≤ 6) : Sm (ln l n i p) := ⟨by rw [ln_len]; omega, fun x hx => by
  unfold ln at hx
  obtain ⟨j, hj, rfl⟩ := List.mem_map.1 hx
  have := cnt_le l j
  simp only []
  split
  · rw [base_len]; omega
  · split
    · rw [List.length_take, base_len]; omega
    · simp⟩
theorem ln_next (l : List Int) (n i : Nat) : ln l n i (cnt l i) = ln l n (i + 1) 0 := by
  unfold ln
  refine List.map_congr_left fun j hj => ?_
  congr 3
  by_cases h1 : j < i
  · rw [if_pos h1, if_pos (by omega)]
  · rw [if_neg h1]
    by_cases h2 : j = i
    · rw [if_pos h2, if_pos (by omega), h2, List.take_of_length_le (by rw [base_len]; omega)]
    · rw [if_neg h2, if_neg (by omega)]
      split
      · rw [List.take_zero]
      · rfl
theorem ln_add {l : List Int} {n i p : Nat} (hn : n ≤ 6) (hi : i < n) (hp : p < cnt l i) {q : Int} {t : Int} {o : Bool} {told : Int} {hh : Bool} :
    fair_Ring_Add.f (rg q (ln l n i p) t o told hh) (i : Int) ((off l i + p : Nat) : Int) = some (true, rg q (ln l n i (p + 1)) t o told hh) := by
  have he := add_eq (q := q) (L := ln l n i p) (t := t) (o := o) (told := told) (h := hh) (a := i) (id := ((off l i + p : Nat) : Int)) (ln_sm hn) (by rw [ln_len]; omega)
  rw [find_no (fun x hx => by
    unfold ln at hx
    obtain ⟨j, hj, rfl⟩ := List.mem_map.1 hx
    refine fix_no fun y hy => ?_
    simp only [] at hy
    split at hy
    · rename_i h1
      obtain ⟨x, rfl, h3, h4⟩ := base_mem hy
      have := off_mono l (show j + 1 ≤ i by omega)
      simp [has]; omega
    · split at hy
      · rename_i h1 h2
        subst h2
        obtain ⟨z, hz2⟩ := List.mem_iff_getElem?.1 hy
        rcases Nat.lt_or_ge z p with h5 | h5
        · rw [List.getElem?_take, if_pos h5, base_get (by omega)] at hz2
          simp only [Option.some.injEq] at hz2
          subst hz2
          simp [has]; omega
        · rw [List.getElem?_take, if_neg (by omega)] at hz2
          exact absurd hz2 (by simp)
      · cases hy)] at he
  rw [he]
  have hg : (ln l n i p)[i]'(by rw [ln_len]; omega) = (((1 + i : Nat) : Int), 0, 0, (base l (-1) i).take p) := by
    have := ln_get (l := l) (i := i) (p := p) hi
    rw [List.getElem?_eq_getElem (by rw [ln_len]; omega), if_neg (by omega), if_pos rfl] at this
    exact Option.some.inj this
  rw [hg]
  have : (ln l n i p).set i (addJ (((1 + i : Nat) : Int), 0, 0, (base l (-1) i).take p) ((off l i + p : Nat) : Int)) = ln l n i (p + 1) := by
    apply List.ext_getElem?
    intro j
    rw [List.getElem?_set]
    by_cases hj : j < n
    · by_cases e : i = j
      · subst e
        rw [if_pos rfl, if_pos (by rw [ln_len]; omega), ln_get hi, if_neg (by omega), if_pos rfl, List.take_add_one, base_get hp]
        unfold addJ
        simp only [Option.toList_some]
        rw [decide_eq_false (show ¬ ((off l i + p : Nat) : Int) = -1 by omega)]
      · rw [if_neg e, ln_get hj, ln_get hj]
        by_cases h2 : j < i
        · rw [if_pos h2, if_pos h2]
        · rw [if_neg h2, if_neg h2, if_neg (fun h => e h.symm), if_neg (fun h => e h.symm)]
    · rw [if_neg (by omega), List.getElem?_eq_none (by rw [ln_len]; omega), List.getElem?_eq_none (by rw [ln_len]; omega)]
  rw [this]
theorem wu8 {n : Int} (h0 : 0 ≤ n) (h1 : n ≤ 255) : IntKind.wrap .u8 n = n := by rw [wrap_u8_eq]; omega
theorem ids {l : List Int} {n i : Nat} (hn : n ≤ 6) (hi : i < n) {v : Int} (hv : Int.tmod v 5 = (cnt l i : Int)) {q : Int} {t : Int} {o : Bool} {told : Int} {hh : Bool} : ∀ (m k p : Nat), cnt l i - p = m → m < k → p ≤ cnt l i →
    colophonlaw23_FairTurns.l3 (i : Int) v k ((off l i + p : Nat) : Int) (p : Int) (rg q (ln l n i p) t o told hh) = some (((off l (i + 1) : Nat) : Int), rg q (ln l n (i + 1) 0) t o told hh) := by
  have hc := cnt_le l i
  have ho := off_le l i
  intro m
  induction m with
  | zero => intro k p hm hk hp; cases k with
    | zero => omega
    | succ k =>
      have e : p = cnt l i := by omega
      rw [colophonlaw23_FairTurns.l3, hv, if_neg (by rw [decide_eq_true_eq]; omega), e, ln_next]; rfl
  | succ m ih => intro k p hm hk hp; cases k with
    | zero => omega
    | succ k =>
      rw [colophonlaw23_FairTurns.l3, hv, if_pos (by rw [decide_eq_true_eq]; omega), ln_add hn hi (by omega), Option.bind_some]
      simp only []
      rw [wi_eq (by omega) (by omega), wu8 (by omega) (by omega), show (((off l i + p : Nat) : Int) + 1) = ((off l i + (p + 1) : Nat) : Int) by omega, show ((p : Int) + 1) = ((p + 1 : Nat) : Int) by omega]
      exact ih k (p + 1) (by omega) (by omega) (by omega)
theorem cnt_eq {l : List Int} (hl : ∀ c ∈ l, 0 ≤ c ∧ c ≤ 255) {i : Nat} (h : i < l.length) : Int.tmod l[i] 5 = (cnt l i : Int) := by
  have := hl _ (List.getElem_mem h)
  unfold cnt
  rw [List.getD_eq_getElem?_getD, List.getElem?_eq_getElem h, tmod_eq this.1]
  simp only [Option.getD_some]
  omega
def wts (n : Nat) : List Int := (List.range n).map fun j => ((1 + j : Nat) : Int)
theorem wts_len (n : Nat) : (wts n).length = n := by simp [wts]
theorem all {l : List Int} (hl : ∀ c ∈ l, 0 ≤ c ∧ c ≤ 255) {n : Nat} (hn : n ≤ 6) (hnl : n ≤ l.length) {jb : Int} {q : Int} {t : Int} {o : Bool} {told : Int} {hh : Bool} : ∀ (m k i : Nat), n - i = m → m < k → i ≤ n →
    colophonlaw23_FairTurns.l2 l (wts n, jb) k ((off l i : Nat) : Int) (i : Int) (rg q (ln l n i 0) t o told hh) = some (rg q (ln l n n 0) t o told hh) := by
  intro m
  induction m with
  | zero => intro k i hm hk hi; cases k with
    | zero => omega
    | succ k =>
      have e : i = n := by omega
      rw [colophonlaw23_FairTurns.l2, if_neg (by rw [decide_eq_true_eq, wts_len]; omega), e]
  | succ m ih => intro k i hm hk hi; cases k with
    | zero => omega
    | succ k =>
      have hc := cnt_le l i
      have := ids (q := q) (t := t) (o := o) (told := told) (hh := hh) hn (show i < n by omega) (cnt_eq hl (show i < l.length by omega)) (cnt l i) FU 0 (by omega) (by show cnt l i < 4611686018427387904; omega) (by omega)
      rw [Nat.add_zero, show ((0 : Nat) : Int) = 0 from rfl] at this
      rw [colophonlaw23_FairTurns.l2, if_pos (by rw [decide_eq_true_eq, wts_len]; omega), at?_nat, List.getElem?_eq_getElem (show i < l.length by omega), Option.bind_some, this, Option.bind_some]
      simp only []
      rw [wi_eq (by omega) (by omega), show ((i : Int) + 1) = ((i + 1 : Nat) : Int) by omega]
      exact ih k (i + 1) (by omega) (by omega) (by omega)
theorem weights {l : List Int} (hl : ∀ c ∈ l, 0 ≤ c ∧ c ≤ 255) (hll : l.length ≤ 140737488351232) : ∀ (m k i : Nat), l.length - i = m → m < k → i ≤ l.length →
    colophonlaw23_FairTurns.l1 l k (wts (min i 6)) ((off l (min i 6) : Nat) : Int) (i : Int) = some (wts (min l.length 6), ((off l (min l.length 6) : Nat) : Int)) := by
  intro m
  induction m with
  | zero => intro k i hm hk hi; cases k with
    | zero => omega
    | succ k =>
      have e : i = l.length := by omega
      rw [colophonlaw23_FairTurns.l1, if_neg (by rw [decide_eq_true_eq]; omega), e]
  | succ m ih => intro k i hm hk hi; cases k with
    | zero => omega
    | succ k =>
      have hil : i < l.length := by omega
      rw [colophonlaw23_FairTurns.l1, if_pos (by rw [decide_eq_true_eq]; omega)]
      have := ih k (i + 1) (by omega) (by omega) (by omega)
      by_cases h : i < 6
      · have hc := cnt_le l i
        have ho := off_le l i
        rw [Nat.min_eq_left (show i + 1 ≤ 6 by omega)] at this
        rw [if_pos (by rw [decide_eq_true_eq]; omega), Nat.min_eq_left (show i ≤ 6 by omega), app?_eq (by rw [wts_len]; simp; omega), Option.bind_some, at?_nat, List.getElem?_eq_getElem hil, Option.bind_some, cnt_eq hl hil, wi_eq (n := (cnt l i : Int)) (by omega) (by omega), wi_eq (n := 1 + (i : Int)) (by omega) (by omega), wi_eq (n := (off l i : Int) + _) (by omega) (by omega), wi_eq (by omega) (by omega), show ((i : Int) + 1) = ((i + 1 : Nat) : Int) by omega, ← this]
        congr 1
        unfold wts
        rw [List.range_succ, List.map_append]
        simp only [List.map_cons, List.map_nil]
        congr 2
      · rw [Nat.min_eq_right (show 6 ≤ i + 1 by omega)] at this
        rw [if_neg (by rw [decide_eq_true_eq]; omega), Nat.min_eq_right (show 6 ≤ i by omega), wi_eq (by omega) (by omega), show ((i : Int) + 1) = ((i + 1 : Nat) : Int) by omega, ← this]
/-! ### turns until all were told -/
def psi (n s : Nat) (L : List Line) (t : Nat) : Nat := (L.getD t l0).2.1.toNat + 121 * dd n s t
theorem qw {q w : Int} (hq : 1 ≤ q ∧ q ≤ 20) (hw : w ≤ 6) : q * w ≤ 120 := by
  have : q * w ≤ q * 6 := Int.mul_le_mul_of_nonneg_left hw (by omega)
  omega
theorem psi_le {q : Int} {L : List Line} {t : Nat} {o : Bool} (hI : Fair.Inv 0 q L t o) (hq : q ≤ 20) (hw : ∀ j, (L.getD j l0).1 ≤ 6) {n s : Nat} (hn : n ≤ 6) (hs : s < n) (hl : L.length = n) : psi n s L t ≤ 846 := by
  have := hI.top
  have h1 := qw ⟨hI.ok.q1, hq⟩ (hw t)
  have ht := hI.ht
  have : dd n s t ≤ n := by unfold dd; split <;> omega
  unfold psi
  omega
theorem steps_psi {q : Int} {L L' : List Line} {t t' : Nat} {o o' : Bool} {n s : Nat} (h : Fair.Steps q L t o L' t' o') : Fair.Inv 0 q L t o → L.length = n → s < n → (rdy (L.getD s l0)).isSome = true → (∀ j, (L.getD j l0).1 ≤ 6) → q ≤ 20 → n ≤ 6 → t' = s ∨ psi n s L' t' ≤ psi n s L t := by
  induction h with
  | refl L t o => intros; right; exact Nat.le_refl _
  | @step L t o L' t' o' hst hrest ih =>
    intro hI hl hs hr hw hq hn
    have ht := hI.ht
    have hI' := hI.step (by omega) (by omega) hst
    have hw' : ∀ j, ((stepL q L t o).getD j l0).1 ≤ 6 := fun j => by rw [(stepL_same q L t o j).1]; exact hw j
    rcases dd_step (n := n) hs (by omega : t < n) with ⟨e1, e2, e3⟩ | ⟨e1, e2⟩
    · left
      have hup : (upd L t o).getD s l0 = L.getD s l0 := by
        rw [upd_get, if_neg]
        rintro ⟨⟨e, _⟩, h2⟩
        rw [e, hr] at h2; simp at h2
      have hqw : 1 ≤ q * (L.getD s l0).1 := by
        have := (hI.ok.wt s (by omega)).1
        have := Int.mul_le_mul hI.ok.q1 this (by omega) (by have := hI.ok.q1; omega)
        omega
      have hc : stop ((stepL q L t o).getD (nxt L.length t) l0) true = true := by
        rw [hl, e1]
        unfold stop
        rw [(stepL_same q L t o s).rdy, hr, stepL_get q L t o ht, hl, if_pos ⟨e1, hr⟩, hup]
        have := hI.low s
        show (true && (true && decide (_ + _ > (0 : Int)))) = true
        simp only [Bool.true_and, decide_eq_true_eq]
        omega
      have := (stay hrest hc).2.1
      rw [this, hl, e1]
    · rcases ih hI' (by rw [stepL_len]; exact hl) hs (by rw [(stepL_same q L t o s).rdy]; exact hr) hw' hq hn with h | h
      · exact .inl h
      · right
        refine Nat.le_trans h ?_
        have h1 := hI'.top
        have h2 := qw ⟨hI.ok.q1, hq⟩ (hw' (nxt L.length t))
        unfold psi
        rw [hl] at h1 h2 ⊢
        omega
/-- while the turns go on -/
structure Wh (l : List Int) (h : Int) (n i : Nat) (q : Int) (L : List Line) (t : Nat) (o : Bool) : Prop where
  inv : Fair.Inv 0 q L t o
  len : L.length = n
  wt : ∀ j, (L.getD j l0).1 ≤ 6
  sp : ∀ j, 0 ≤ (L.getD j l0).2.2.1 ∧ (L.getD j l0).2.2.1 ≤ i
  pm : ∀ s, s < n → (L.getD s l0).2.2.2.Perm (base l h s)
theorem Wh.job {l : List Int} {h : Int} {n i : Nat} {q : Int} {L : List Line} {t : Nat} {o : Bool} (hW : Wh l h n i q L t o) {s : Nat} (hs : s < n) {y : Job} (hy : y ∈ (L.getD s l0).2.2.2) : ∃ x : Nat, y = ((x : Int), decide ((x : Int) = h)) ∧ off l s ≤ x ∧ x < off l (s + 1) :=
  base_mem ((hW.pm s hs).mem_iff.1 hy)
theorem Wh.find {l : List Int} {h : Int} {n i : Nat} {q : Int} {L : List Line} {t : Nat} {o : Bool} (hW : Wh l h n i q L t o) {s m : Nat} {y : Job} (hs : s < n) (hy : (L.getD s l0).2.2.2[m]? = some y) : Fair.find (has y.1) L = some (s, m) := by
  have hnd : ((L.getD s l0).2.2.2.map (·.1)).Nodup := ((hW.pm s hs).map (·.1)).nodup_iff.2 (base_nd l h s)
  obtain ⟨x, rfl, h1, h2⟩ := hW.job hs (List.mem_of_getElem? hy)
  refine find_at (by rw [hW.len]; exact hs) (fix_of hy (by simp [has]) (fun a j' ha hj' => ?_)) (fun s' hs' => fix_no fun j hj => ?_)
  · cases hb : has (x : Int) j' with
    | false => rfl
    | true =>
      exfalso
      have e : j'.1 = (x : Int) := by simpa [has] using hb
      have h3 : ((L.getD s l0).2.2.2.map (·.1))[a]? = some (x : Int) := by rw [List.getElem?_map, hj', Option.map_some, e]
      have h4 : ((L.getD s l0).2.2.2.map (·.1))[m]? = some (x : Int) := by rw [List.getElem?_map, hy]; rfl
      have h5 : m < ((L.getD s l0).2.2.2.map (·.1)).length := by
        rcases Nat.lt_or_ge m ((L.getD s l0).2.2.2.map (·.1)).length with h | h
        · exact h
        · rw [List.getElem?_eq_none h] at h4; cases h4
      have := (List.getElem?_inj (by omega) hnd).1 (h3.trans h4.symm)
      omega
  · obtain ⟨z, rfl, h3, h4⟩ := hW.job (by omega : s' < n) hj
    have := off_mono l (show s' + 1 ≤ s by omega)
    simp [has]; omega
theorem loop {l : List Int} {h : Int} {n : Nat} (hn : n ≤ 6) {q : Int} (hq : q ≤ 20) : ∀ (m k i : Nat) (L : List Line) (t : Nat) (o : Bool) (told : Int) (S : List Int), 29520 - i = m → m < k → i ≤ 29520 → Wh l h n i q L t o → S.length = 40 →
    (∀ x, 0 ≤ S.getD x 0 ∧ S.getD x 0 ≤ i) → (∀ x : Nat, (x : Int) = h → S.getD x 0 = 0) →
    (∀ s p x : Nat, s < n → (L.getD s l0).2.2.2[p]? = some ((x : Int), false) → 1 ≤ S.getD x 0 ∨ 1000 * p + psi n s L t + i ≤ 3900) →
    ∃ r S', colophonlaw23_FairTurns.l4 (wts n, ((off l n : Nat) : Int)) k (i : Int) (rg q L (t : Int) o told false) S = some (.inl (r, S')) ∧ S'.length = 40 ∧ (∀ x : Nat, (x : Int) = h → S'.getD x 0 = 0) ∧ (∀ x : Nat, x < off l n → (x : Int) ≠ h → 1 ≤ S'.getD x 0) := by
  intro m
  induction m with
  | zero => intro k i L t o told S hm hk hi hW hS hb hh hp; cases k with
    | zero => omega
    | succ k =>
      rw [colophonlaw23_FairTurns.l4, if_neg (by rw [decide_eq_true_eq]; omega)]
      refine ⟨_, S, rfl, hS, hh, fun x hx hne => ?_⟩
      obtain ⟨s, h1, h2, h3⟩ := off_find l hx
      have hmem : (((x : Nat) : Int), false) ∈ (L.getD s l0).2.2.2 := (hW.pm s h1).mem_iff.2 (by
        unfold base
        refine List.mem_map.2 ⟨x - off l s, List.mem_range.2 (by rw [off_succ] at h3; omega), ?_⟩
        rw [show off l s + (x - off l s) = x by omega, decide_eq_false hne])
      obtain ⟨p, hp1⟩ := List.mem_iff_getElem?.1 hmem
      rcases hp s p x h1 hp1 with h4 | h4
      · exact h4
      · omega
  | succ m ih => intro k i L t o told S hm hk hi hW hS hb hh hp; cases k with
    | zero => omega
    | succ k =>
      rw [colophonlaw23_FairTurns.l4, if_pos (by rw [decide_eq_true_eq]; omega)]
      by_cases hany : ∀ s, s < L.length → (rdy (L.getD s l0)).isSome = false
      · rw [next_no hW.inv.ok.sm hany, Option.bind_some]
        refine ⟨_, S, rfl, hS, hh, fun x hx hne => ?_⟩
        exfalso
        obtain ⟨s, h1, h2, h3⟩ := off_find l hx
        have hmem : (((x : Nat) : Int), false) ∈ (L.getD s l0).2.2.2 := (hW.pm s h1).mem_iff.2 (by
          unfold base
          refine List.mem_map.2 ⟨x - off l s, List.mem_range.2 (by rw [off_succ] at h3; omega), ?_⟩
          rw [show off l s + (x - off l s) = x by omega, decide_eq_false hne])
        have h4 := hany s (by rw [hW.len]; exact h1)
        unfold rdy at h4
        have h5 := fix_none (Option.isSome_eq_false_iff.1 h4 |> Option.isNone_iff_eq_none.1) _ hmem
        simp at h5
      · obtain ⟨s0, hs0, hr0⟩ : ∃ s, s < L.length ∧ (rdy (L.getD s l0)).isSome = true := by
          apply Classical.byContradiction
          intro hc
          apply hany
          intro s hs
          cases hx : (rdy (L.getD s l0)).isSome with
          | false => rfl
          | true => exact absurd ⟨s, hs, hx⟩ hc
        obtain ⟨L', t', o', m', s1, s2, s3, s4, s5⟩ := next_yes (told := told) (h := false) (by omega) (by omega) hW.inv hs0 hr0
        have hlen' : L'.length = n := by rw [s1.len]; exact hW.len
        have ht' : t' < n := by have := s3.ht; omega
        have hjb : ∀ j, (L'.getD j l0).2.2.2 = (L.getD j l0).2.2.2 := fun j => (s1.same j).2.2
        have hW' : Wh l h n i q L' t' o' := ⟨s3, hlen', fun j => by rw [(s1.same j).1]; exact hW.wt j, fun j => by rw [(s1.same j).2.1]; exact hW.sp j, fun s hs => by rw [hjb]; exact hW.pm s hs⟩
        obtain ⟨y, hy1, hy2, hy3⟩ := fix_some s4
        have hgd : (L'.getD t' l0).2.2.2.getD m' (0, false) = y := by rw [List.getD_eq_getElem?_getD, hy1]; rfl
        obtain ⟨x, hyx, hx1, hx2⟩ := hW'.job ht' (List.mem_of_getElem? hy1)
        have hm'lt := fix_lt s4
        have hxh : (x : Int) ≠ h := fun e => by rw [hyx] at hy2; simp [e] at hy2
        have hy : y = ((x : Int), false) := by rw [hyx, decide_eq_false hxh]
        have hxo : x < off l n := by have := off_mono l (show t' + 1 ≤ n by omega); omega
        have hxn : x < 40 := by have := off_le l n; omega
        have hcr : 1 ≤ (L'.getD t' l0).2.1 := by
          unfold stop at s2
          simp only [Bool.and_eq_true, decide_eq_true_eq] at s2
          omega
        have hf := hW'.find ht' hy1
        rw [hgd] at s5
        rw [hy] at hf s5
        simp only [] at hf s5
        rw [s5, Option.bind_some]
        simp only [Bool.not_true, Bool.false_eq_true, if_false]
        have hjl : (L'.getD t' l0).2.2.2.length ≤ 4 := by rw [(hW'.pm t' ht').length_eq, base_len]; exact cnt_le l t'
        rw [charge_eq (c := 1) s3.ok.sm (by omega) (by omega) hf (fun l' hl' => by
          obtain ⟨j, hj, rfl⟩ := List.getElem_of_mem hl'
          have h1 := s3.ok.cr j
          have h2 := hW'.sp j
          rw [getD_lt hj] at h1 h2
          omega), Option.bind_some]
        simp only [Bool.not_true, Bool.false_eq_true, if_false]
        have hSx := hb x
        rw [if_neg (by rw [decide_eq_true_eq]; omega), if_neg (by rw [decide_eq_true_eq]; omega), at_d (by omega), Option.bind_some, Option.bind_some, set?_nat _ (by omega), Option.bind_some, wi_eq (by omega) (by omega), wi_eq (by omega) (by omega), show ((i : Int) + 1) = ((i + 1 : Nat) : Int) by omega]
        have hgS : ∀ z, (S.set x (S.getD x 0 + 1)).getD z 0 = if z = x then S.getD x 0 + 1 else S.getD z 0 := fun z => by
          simp only [List.getD_eq_getElem?_getD, List.getElem?_set]
          by_cases e : x = z
          · subst e; rw [if_pos rfl, if_pos (by omega), if_pos rfl]; rfl
          · rw [if_neg e, if_neg (fun h => e h.symm)]
        have hgL : ∀ j, (L'.set t' (chargeJ (L'.getD t' l0) m' 1)).getD j l0 = if t' = j ∧ j < L'.length then chargeJ (L'.getD t' l0) m' 1 else L'.getD j l0 := fun j => getD_set
        have hperm : (chargeJ (L'.getD t' l0) m' 1).2.2.2.Perm (L'.getD t' l0).2.2.2 := by
          show ((L'.getD t' l0).2.2.2.take m' ++ (L'.getD t' l0).2.2.2.drop (m' + 1) ++ [(L'.getD t' l0).2.2.2.getD m' (0, false)]).Perm _
          rw [hgd]
          conv => rhs; rw [spl hy1]
          rw [List.append_assoc]
          refine List.Perm.append_left _ ?_
          exact List.perm_append_comm
        have hIn : Fair.Inv 0 q (L'.set t' (chargeJ (L'.getD t' l0) m' 1)) t' o' := Inv.set s3 (Int.le_refl 0) (by omega) rfl (by show (L'.getD t' l0).2.1 - 1 ≤ _; omega) (by show -0 ≤ (L'.getD t' l0).2.1 - 1; omega) (by rw [hperm.length_eq]; omega)
        have hWn : Wh l h n (i + 1) q (L'.set t' (chargeJ (L'.getD t' l0) m' 1)) t' o' := by
          refine ⟨hIn, by rw [List.length_set]; exact hlen', fun j => ?_, fun j => ?_, fun s hs => ?_⟩
          · rw [hgL]; split
            · exact hW'.wt t'
            · exact hW'.wt j
          · have h1 := hW'.sp j
            have h2 := hW'.sp t'
            rw [hgL]; split
            · show 0 ≤ (L'.getD t' l0).2.2.1 + 1 ∧ (L'.getD t' l0).2.2.1 + 1 ≤ _; omega
            · omega
          · rw [hgL]; split
            · rename_i e; rw [← e.1]; exact hperm.trans (hW'.pm t' ht')
            · exact hW'.pm s hs
        refine ih k (i + 1) _ t' o' _ _ (by omega) (by omega) (by omega) hWn (by rw [List.length_set]; exact hS) (fun z => ?_) (fun z hz => ?_) (fun s p z hs hpz => ?_)
        · have := hb z
          rw [hgS]; split <;> omega
        · rw [hgS, if_neg (fun e => hxh (by rw [← e]; exact hz))]; exact hh z hz
        · rw [hgS]
          by_cases ez : z = x
          · left; rw [if_pos ez]; omega
          rw [if_neg ez]
          show _ ∨ 1000 * p + psi n s (L'.set t' (chargeJ (L'.getD t' l0) m' 1)) t' + (i + 1) ≤ 3900
          rw [hgL] at hpz
          by_cases es : t' = s
          · subst es
            rw [if_pos ⟨rfl, by omega⟩] at hpz
            have hpsi := psi_le hIn hq hWn.wt hn ht' (by rw [List.length_set]; exact hlen')
            have hpz2 : ((L'.getD t' l0).2.2.2.take m' ++ (L'.getD t' l0).2.2.2.drop (m' + 1) ++ [(L'.getD t' l0).2.2.2.getD m' (0, false)])[p]? = some ((z : Int), false) := hpz
            rw [hgd, hy] at hpz2
            have hl1 : ((L'.getD t' l0).2.2.2.take m').length = m' := by rw [List.length_take]; omega
            by_cases c1 : p < m'
            · exfalso
              rw [List.append_assoc, List.getElem?_append_left (by omega), List.getElem?_take, if_pos c1] at hpz2
              have := hy3 p _ c1 hpz2
              simp at this
            · have hl2 : ((L'.getD t' l0).2.2.2.drop (m' + 1)).length = (L'.getD t' l0).2.2.2.length - (m' + 1) := List.length_drop
              by_cases c2 : p < (L'.getD t' l0).2.2.2.length - 1
              · rw [List.append_assoc, List.getElem?_append_right (by omega), List.getElem?_append_left (by omega), List.getElem?_drop, hl1, show m' + 1 + (p - m') = p + 1 by omega, hjb] at hpz2
                rcases hp t' (p + 1) z ht' hpz2 with h4 | h4
                · exact .inl h4
                · right; omega
              · exfalso
                by_cases c3 : p = (L'.getD t' l0).2.2.2.length - 1
                · rw [List.getElem?_append_right (by rw [List.length_append]; omega), List.length_append, hl1, hl2, show p - (m' + ((L'.getD t' l0).2.2.2.length - (m' + 1))) = 0 by omega] at hpz2
                  simp at hpz2
                  omega
                · rw [List.getElem?_eq_none (by simp only [List.length_append, hl1, hl2, List.length_cons, List.length_nil]; omega)] at hpz2
                  cases hpz2
          · rw [if_neg (fun e => es e.1), hjb] at hpz
            rcases hp s p z hs hpz with h4 | h4
            · exact .inl h4
            · right
              have hrs : (rdy (L.getD s l0)).isSome = true := by
                cases hx : rdy (L.getD s l0) with
                | some _ => rfl
                | none =>
                  have := fix_none hx _ (List.mem_of_getElem? hpz)
                  simp at this
              rcases steps_psi (s := s) s1 hW.inv hW.len hs hrs hW.wt hq hn with h5 | h5
              · exact absurd h5 es
              · have h6 : psi n s (L'.set t' (chargeJ (L'.getD t' l0) m' 1)) t' + 1 ≤ psi n s L' t' := by
                  unfold psi
                  rw [hgL, if_pos ⟨rfl, by omega⟩]
                  have : (chargeJ (L'.getD t' l0) m' 1).2.1 = (L'.getD t' l0).2.1 - 1 := rfl
                  rw [this]
                  omega
                omega
theorem check {l : List Int} {a2 h : Int} (hh : Int.tmod (wi a2) 40 = h) {n : Nat} (hn : n ≤ 6) {r : Ring} {S : List Int} (hS : S.length = 40) (h1 : ∀ x : Nat, (x : Int) = h → S.getD x 0 = 0) (h2 : ∀ x : Nat, x < off l n → (x : Int) ≠ h → 1 ≤ S.getD x 0) : ∀ (m k i : Nat), off l n - i = m → m < k → i ≤ off l n →
    colophonlaw23_FairTurns.l5 a2 (wts n, ((off l n : Nat) : Int)) (r, S) k (i : Int) = some (.inr ()) := by
  have ho := off_le l n
  intro m
  induction m with
  | zero => intro k i hm hk hi; cases k with
    | zero => omega
    | succ k => rw [colophonlaw23_FairTurns.l5, if_neg (by rw [decide_eq_true_eq]; omega)]
  | succ m ih => intro k i hm hk hi; cases k with
    | zero => omega
    | succ k =>
      rw [colophonlaw23_FairTurns.l5, if_pos (by rw [decide_eq_true_eq]; omega), at_d (show i < S.length by omega), Option.bind_some, hh]
      have e : decide (S.getD i 0 > 0) = ((i : Int) != h) := by
        by_cases e : (i : Int) = h
        · rw [h1 i e, e]; simp
        · have := h2 i (by omega) e
          rw [decide_eq_true (by omega)]
          simpa using e
      rw [e, if_neg (by simp), wi_eq (by omega) (by omega), show ((i : Int) + 1) = ((i + 1 : Nat) : Int) by omega]
      exact ih k (i + 1) (by omega) (by omega) (by omega)
theorem nils : fair_Ring_Next_nil0.f = some (-1, -1, false) ∧ fair_Ring_Add_nil0.f 0 0 = some false ∧ fair_Ring_Take_nil0.f 0 = some false ∧ fair_Ring_Hold_nil0.f 0 true = some false ∧ fair_Ring_Charge_nil0.f 0 = some false ∧ fair_Ring_Spent.f none 0 = some 0 ∧ fair_Ring_Credit.f none 0 = some 0 := ⟨rfl, rfl, rfl, rfl, rfl, rfl, rfl⟩
end FairT
open FairT
theorem pure_FairTurns (a0 : Int) (F0 : Fits (.int .i64) a0) (l1 : List Int) (F1 : Fits (.slice 5 (.int .u8)) l1) (S1 : l1.length * 1 ≤ 140737488351232) (a2 : Int) (F2 : Fits (.int .u8) a2) : colophonlaw23_FairTurns.f a0 l1 a2 = some true := by
  have hl1 : ∀ c ∈ l1, 0 ≤ c ∧ c ≤ 255 := fun c hc => by have := fits_u8 (F1.2 c hc); omega
  have ha2 := fits_u8 F2
  unfold colophonlaw23_FairTurns.f
  rw [FairT.first_f, Option.bind_some, if_neg (by simp)]
  have e1 := FairT.weights hl1 (by omega) l1.length FU 0 (by omega) (by show l1.length < 4611686018427387904; omega) (by omega)
  rw [show ((0 : Nat) : Int) = 0 from rfl] at e1
  rw [show ([] : List Int) = wts (min 0 6) from rfl]
  rw [show (colophonlaw23_FairTurns.l1 l1 FU (wts (min 0 6)) 0 0) = some (wts (min l1.length 6), ((off l1 (min l1.length 6) : Nat) : Int)) from e1, Option.bind_some]
  generalize hne : min l1.length 6 = n
  have hn : n ≤ 6 := by omega
  have hnl : n ≤ l1.length := by omega
  have hq0 : 0 ≤ IntKind.wrap .u64 a0 := by rw [wrap_u64_eq]; omega
  rw [FairT.tmod_eq hq0, wi_eq (n := IntKind.wrap .u64 a0 % 20) (by omega) (by omega), wi_eq (n := 1 + IntKind.wrap .u64 a0 % 20) (by omega) (by omega)]
  generalize hqe : 1 + IntKind.wrap .u64 a0 % 20 = q at *
  have hq2 : 1 ≤ q ∧ q ≤ 20 := by omega
  by_cases h0 : n = 0
  · subst h0
    have e : fair_New.f q (wts 0) = some (none, 2) := by
      unfold fair_New.f
      rw [if_neg (by rw [decide_eq_true_eq]; omega), if_neg (by rw [decide_eq_true_eq]; omega), if_pos (by rw [decide_eq_true_eq, wts_len]; omega)]
    show (fair_New.f q (wts 0)).bind _ = _
    rw [e]; rfl
  simp only []
  have hWm : ∀ w ∈ wts n, 1 ≤ w ∧ w ≤ 16 := fun w hw => by
    unfold wts at hw
    obtain ⟨x, hx, rfl⟩ := List.mem_map.1 hw
    have := List.mem_range.1 hx
    omega
  rw [new_eq (by omega) hWm (by rw [wts_len]; omega), Option.bind_some, if_neg (by simp), Option.bind_some]
  have hlin : (wts n).map (fun w => ((w, 0, 0, []) : Line)) = ln l1 n 0 0 := by
    unfold wts ln
    rw [List.map_map]
    refine List.map_congr_left fun j hj => ?_
    simp only [Function.comp_def, Nat.not_lt_zero, if_false, List.take_zero, ite_self]
  rw [hlin, wts_len]
  have e2 := FairT.all hl1 hn hnl (jb := ((off l1 n : Nat) : Int)) (q := q) (t := ((n - 1 : Nat) : Int)) (o := false) (told := 0) (hh := false) n FU 0 (by omega) (by show n < 4611686018427387904; omega) (by omega)
  rw [show ((0 : Nat) : Int) = 0 from rfl, show ((off l1 0 : Nat) : Int) = 0 from rfl] at e2
  rw [e2, Option.bind_some]
  have hh : wi a2 = a2 := wi_eq (by omega) (by omega)
  have hkk : Int.tmod (wi a2) 40 = ((a2 % 40).toNat : Int) := by rw [hh, FairT.tmod_eq (by omega)]; omega
  generalize hke : (a2 % 40).toNat = kk at hkk
  have hk40 : kk < 40 := by omega
  have ho := off_le l1 n
  -- what the lines are after the hold
  have hb1 : ∀ s, base l1 (-1) s = base l1 (-1) s := fun s => rfl
  have hln : ∀ s, s < n → (ln l1 n n 0).getD s l0 = (((1 + s : Nat) : Int), 0, 0, base l1 (-1) s) := fun s hs => by
    rw [List.getD_eq_getElem?_getD, ln_get hs, if_pos hs]; rfl
  have hhold : ∃ L, fair_Ring_Hold.f (rg q (ln l1 n n 0) ((n - 1 : Nat) : Int) false 0 false) (kk : Int) true = some (decide ((kk : Int) < ((off l1 n : Nat) : Int)), rg q L ((n - 1 : Nat) : Int) false 0 false) ∧ L.length = n ∧ ∀ s, s < n → L.getD s l0 = (((1 + s : Nat) : Int), 0, 0, base l1 (kk : Int) s) := by
    rw [hold_eq (ln_sm hn)]
    have hsame : ∀ s, s < n → (kk < off l1 s ∨ off l1 (s + 1) ≤ kk) → base l1 (-1) s = base l1 (kk : Int) s := fun s hs hx => by
      unfold base
      refine List.map_congr_left fun p hp => ?_
      have := List.mem_range.1 hp
      rw [off_succ] at hx
      rw [decide_eq_false (by omega), decide_eq_false (by omega)]
    by_cases hk : kk < off l1 n
    · obtain ⟨s, h1, h2, h3⟩ := off_find l1 hk
      have h4 : kk - off l1 s < cnt l1 s := by rw [off_succ] at h3; omega
      have hf : Fair.find (has (kk : Int)) (ln l1 n n 0) = some (s, kk - off l1 s) := by
        refine FairT.find_at (by rw [ln_len]; exact h1) ?_ (fun s' hs' => ?_)
        · rw [hln s h1]
          refine fix_of (base_get h4) (by simp [has]; omega) (fun a j' ha hj' => ?_)
          rw [base_get (by omega)] at hj'
          simp only [Option.some.injEq] at hj'
          subst hj'
          simp [has]; omega
        · rw [hln s' (by omega)]
          refine FairT.fix_no fun y hy => ?_
          obtain ⟨x, rfl, h5, h6⟩ := base_mem hy
          have := off_mono l1 (show s' + 1 ≤ s by omega)
          simp [has]; omega
      rw [hf]
      simp only []
      refine ⟨_, by rw [decide_eq_true (by omega)], by rw [List.length_set, ln_len], fun s' hs' => ?_⟩
      rw [getD_set]
      by_cases e : s = s'
      · subst e
        rw [if_pos ⟨rfl, by rw [ln_len]; omega⟩]
        show holdJ ((ln l1 n n 0).getD s l0) _ _ = _
        rw [hln s h1]
        unfold holdJ
        simp only []
        rw [List.getD_eq_getElem?_getD, base_get h4]
        congr 3
        apply List.ext_getElem?
        intro p
        rw [List.getElem?_set, base_len]
        by_cases hp : p < cnt l1 s
        · rw [base_get (h := (kk : Int)) hp]
          by_cases e : kk - off l1 s = p
          · rw [if_pos e, if_pos h4]
            simp only [Option.getD_some]
            rw [e, decide_eq_true (by omega)]
          · rw [if_neg e, base_get hp, decide_eq_false (by omega), decide_eq_false (by omega)]
        · rw [if_neg (by omega), List.getElem?_eq_none (by rw [base_len]; omega), List.getElem?_eq_none (by rw [base_len]; omega)]
      · rw [if_neg (fun h => e h.1), hln s' hs', hsame s' hs' ?_]
        rcases Nat.lt_or_ge s s' with h | h
        · left; have := off_mono l1 (show s + 1 ≤ s' by omega); omega
        · right; have := off_mono l1 (show s' + 1 ≤ s by omega); omega
    · have hall : ∀ s, s < n → off l1 (s + 1) ≤ kk := fun s hs => by have := off_mono l1 (show s + 1 ≤ n by omega); omega
      have hf : Fair.find (has (kk : Int)) (ln l1 n n 0) = none := FairT.find_no fun x hx => by
        obtain ⟨s, hs, rfl⟩ := List.getElem_of_mem hx
        have hs' : s < n := by rw [ln_len] at hs; exact hs
        rw [← getD_lt hs, hln s hs']
        refine FairT.fix_no fun y hy => ?_
        obtain ⟨x, rfl, h5, h6⟩ := base_mem hy
        have := hall s hs'
        simp [has]; omega
      rw [hf]
      simp only []
      refine ⟨_, by rw [decide_eq_false (by omega)], by rw [ln_len], fun s hs => ?_⟩
      rw [hln s hs, hsame s hs (.inr (hall s hs))]
  obtain ⟨L, e3, hL, hLg⟩ := hhold
  rw [hkk, e3, Option.bind_some, if_neg (by simp)]
  have hg : ∀ j, L.getD j l0 = if j < n then (((1 + j : Nat) : Int), 0, 0, base l1 (kk : Int) j) else l0 := fun j => by
    by_cases h : j < n
    · rw [if_pos h, hLg j h]
    · rw [if_neg h, List.getD_eq_getElem?_getD, List.getElem?_eq_none (by omega)]; rfl
  have hcr0 : ∀ j, (L.getD j l0).2.1 = 0 ∧ (L.getD j l0).2.2.1 = 0 ∧ (L.getD j l0).1 ≤ 6 ∧ (L.getD j l0).2.2.2.length ≤ 4 := fun j => by
    have := cnt_le l1 j
    rw [hg]; split
    · refine ⟨rfl, rfl, ?_, ?_⟩
      · show ((1 + j : Nat) : Int) ≤ 6; omega
      · show (base l1 _ j).length ≤ 4; rw [base_len]; exact this
    · exact ⟨rfl, rfl, by decide, by simp⟩
  have hI : Fair.Inv 0 q L (n - 1) false := by
    refine ⟨⟨hq2.1, by omega, by omega, fun j => by have := (hcr0 j).2.2.2; omega, fun j hj => ?_, fun j => by have := (hcr0 j).1; omega⟩, by omega, fun j _ => by have := (hcr0 j).1; omega, fun _ => by have := (hcr0 (n - 1)).1; omega, fun j => by have := (hcr0 j).1; omega, ?_⟩
    · rw [hg, if_pos (by omega)]
      show 1 ≤ ((1 + j : Nat) : Int) ∧ ((1 + j : Nat) : Int) ≤ 16
      omega
    · rw [(hcr0 (n - 1)).1, hg, if_pos (by omega)]
      exact Int.mul_nonneg (by omega) (by show 0 ≤ ((1 + (n - 1) : Nat) : Int); omega)
  have hW : Wh l1 (kk : Int) n 0 q L (n - 1) false := ⟨hI, hL, fun j => (hcr0 j).2.2.1, fun j => by have := (hcr0 j).2.1; omega, fun s hs => by rw [hg, if_pos hs]⟩
  have hrep : ∀ z, (List.replicate 40 (0 : Int)).getD z 0 = 0 := fun z => by
    rw [List.getD_eq_getElem?_getD, List.getElem?_replicate]; split <;> rfl
  obtain ⟨r, S, e4, hS, hS1, hS2⟩ := FairT.loop hn hq2.2 29520 FU 0 L (n - 1) false 0 (List.replicate 40 0) (by omega) (by show 29520 < 4611686018427387904; omega) (by omega) hW (by simp) (fun x => by rw [hrep]; omega) (fun x _ => hrep x) (fun s p x hs hp => by
    right
    have h1 := psi_le hI hq2.2 (fun j => (hcr0 j).2.2.1) hn hs hL
    have h2 := (hcr0 s).2.2.2
    have h3 : p < (L.getD s l0).2.2.2.length := by
      rcases Nat.lt_or_ge p (L.getD s l0).2.2.2.length with h | h
      · exact h
      · rw [List.getElem?_eq_none h] at hp; cases hp
    omega)
  rw [show ((0 : Nat) : Int) = 0 from rfl] at e4
  rw [e4, Option.bind_some]
  simp only []
  have e5 := FairT.check hkk hn (r := r) hS hS1 hS2 (off l1 n) FU 0 (by omega) (by show off l1 n < 4611686018427387904; omega) (by omega)
  rw [show ((0 : Nat) : Int) = 0 from rfl] at e5
  rw [e5, Option.bind_some]
  obtain ⟨n1, n2, n3, n4, n5, n6, n7⟩ := nils
  simp only [n1, n2, n3, n4, n5, n6, n7, Option.bind_some]
  rfl
end Go.Proofs.Ytnffhpnlehcoiaa
