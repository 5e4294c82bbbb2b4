/-
  Caches in plain words: who is held, how many, and that nobody is taken out where there is room; the first test. No condition.
-/
import Derived.Test.YtbcdcpkofgfofaaPuCaD
namespace Go.Proofs.Ytbcdcpkofgfofaa
open Go Go.Gol
set_option linter.unusedVariables false
set_option linter.unusedSimpArgs false
set_option maxRecDepth 100000
namespace Ca
open Crc Page Img
theorem mem_set {α : Type} {l : List α} {i : Nat} {x y : α} (h : y ∈ l.set i x) : (y = x ∧ i < l.length) ∨ ∃ j, j ≠ i ∧ l[j]? = some y := by
  obtain ⟨j, hj⟩ := List.getElem?_of_mem h
  rw [List.getElem?_set] at hj
  by_cases hij : i = j
  · rw [if_pos hij] at hj
    split at hj
    · exact .inl ⟨(Option.some.inj hj).symm, by omega⟩
    · cases hj
  · rw [if_neg hij] at hj
    exact .inr ⟨j, fun e => hij e.symm, hj⟩
theorem set_other {α : Type} {l : List α} {i j : Nat} {x y : α} (hj : j ≠ i) (h : l[j]? = some y) : y ∈ l.set i x := List.mem_of_getElem? (i := j) (by rw [List.getElem?_set, if_neg (fun e => hj e.symm)]; exact h)
theorem set_self {α : Type} {l : List α} {i : Nat} {x : α} (h : i < l.length) : x ∈ l.set i x := List.mem_of_getElem? (i := i) (by rw [List.getElem?_set, if_pos rfl, if_pos h])
/-- how often a page is held -/
def Hl (E : List Ex) (p v : Int) : Prop := 0 ≤ v ∧ (0 < v → ∃ e ∈ E, e.1 = p ∧ e.2.2 = v) ∧ ∀ e ∈ E, e.1 = p → e.2.2 = v
theorem hl_put {N K T : Nat} {c c' : Cx} (I : Inv N K T c) {n : Int} {hit : Bool} (h : Put c c' n hit) (hn0 : 0 ≤ n) {p v : Int} (hp : Hl (es c) p v) : Hl (es c') p (v + if p = n then 1 else 0) := by
  obtain ⟨i, b, hn, hil, he, hc⟩ := h
  obtain ⟨h1, h2, h3⟩ := hp
  rw [he]
  have hil' : i < (es c).length := by rw [es_len]; exact hil
  by_cases hpn : p = n
  · subst hpn
    rw [if_pos rfl]
    have hv : hn = v + 1 := by
      rcases hc with ⟨_, ⟨e, e1, e2, e3⟩, _⟩ | ⟨_, e1, e2, _⟩
      · rw [e3, h3 e (List.mem_of_getElem? e1) e2]
      · have : v = 0 := by
          rcases Int.lt_or_le 0 v with q | q
          · obtain ⟨e, a1, a2, _⟩ := h2 q
            exact absurd a2 (e2 e a1)
          · omega
        omega
    refine ⟨by omega, fun _ => ⟨_, set_self hil', rfl, hv⟩, fun e hee hep => ?_⟩
    rcases mem_set hee with ⟨q, _⟩ | ⟨j, q1, q2⟩
    · rw [q]; exact hv
    · exfalso
      rcases hc with ⟨_, ⟨g, e1, e2, e3⟩, _⟩ | ⟨_, e1, e2, _⟩
      · exact q1 (I.un j i e g q2 e1 (by rw [hep, e2]) (by omega))
      · exact e2 e (List.mem_of_getElem? q2) hep
  · rw [if_neg hpn, Int.add_zero]
    refine ⟨h1, fun hv => ?_, fun e hee hep => ?_⟩
    · obtain ⟨e, a1, a2, a3⟩ := h2 hv
      obtain ⟨j, hj⟩ := List.getElem?_of_mem a1
      refine ⟨e, set_other (fun q => ?_) hj, a2, a3⟩
      rw [q] at hj
      rcases hc with ⟨_, ⟨g, e1, e2, e3⟩, _⟩ | ⟨_, e1, e2, ⟨g, g1, g2, _⟩, _⟩
      · rw [e1] at hj
        rw [← Option.some.inj hj] at a2
        exact hpn (a2.symm.trans e2)
      · rw [g1] at hj
        rw [← Option.some.inj hj] at a3
        omega
    · rcases mem_set hee with ⟨q, _⟩ | ⟨j, q1, q2⟩
      · rw [q] at hep; exact absurd hep.symm hpn
      · exact h3 e (List.mem_of_getElem? q2) hep
theorem hl_drop {N K T : Nat} {c c' : Cx} (I : Inv N K T c) {n : Int} {r : Bool} (h : Dropped c c' n r) (hn0 : 0 ≤ n) {v : Int} (hv : Hl (es c) n v) : r = decide (v > 0) ∧ ∀ {p u : Int}, Hl (es c) p u → Hl (es c') p (if p = n then imax 0 (u - 1) else u) := by
  obtain ⟨_, _, _, hc⟩ := h
  rcases hc with ⟨h1, _, i, e, a1, a2, a3, a4⟩ | ⟨h1, h2, h3⟩
  · have hev := hv.2.2 e (List.mem_of_getElem? a1) a2
    refine ⟨by rw [h1, decide_eq_true (by omega)], fun {p u} hp => ?_⟩
    rw [a4]
    have hil := lt_of_get a1
    by_cases hpn : p = n
    · subst hpn
      have hu := hp.2.2 e (List.mem_of_getElem? a1) a2
      have hm : imax 0 (u - 1) = u - 1 := by unfold imax; rw [if_pos_or (by omega)]
      rw [if_pos rfl, hm]
      refine ⟨by omega, fun _ => ⟨_, set_self hil, rfl, by rw [hu]⟩, fun g hg hgp => ?_⟩
      rcases mem_set hg with ⟨q, _⟩ | ⟨j, q1, q2⟩
      · rw [q]; show e.2.2 - 1 = _; omega
      · exact absurd (I.un j i g e q2 a1 (by rw [hgp, a2]) (by omega)) q1
    · rw [if_neg hpn]
      refine ⟨hp.1, fun hu => ?_, fun g hg hgp => ?_⟩
      · obtain ⟨g, b1, b2, b3⟩ := hp.2.1 hu
        obtain ⟨j, hj⟩ := List.getElem?_of_mem b1
        refine ⟨g, set_other (fun q => ?_) hj, b2, b3⟩
        rw [q, a1] at hj
        rw [← Option.some.inj hj] at b2
        exact hpn (b2.symm.trans a2)
      · rcases mem_set hg with ⟨q, _⟩ | ⟨j, q1, q2⟩
        · rw [q] at hgp; exact absurd hgp.symm hpn
        · exact hp.2.2 g (List.mem_of_getElem? q2) hgp
  · have hz : v = 0 := by
      rcases Int.lt_or_le 0 v with q | q
      · obtain ⟨e, b1, b2, b3⟩ := hv.2.1 q
        rcases h3 with h3 | h3
        · omega
        · have := h3 e b1 b2; omega
      · have := hv.1; omega
    refine ⟨by rw [h1, hz]; rfl, fun {p u} hp => ?_⟩
    rw [h2]
    by_cases hpn : p = n
    · subst hpn
      have hu : u = 0 := by
        rcases Int.lt_or_le 0 u with q | q
        · obtain ⟨e, b1, b2, b3⟩ := hp.2.1 q
          rcases h3 with h3 | h3
          · omega
          · have := h3 e b1 b2; omega
        · have := hp.1; omega
      rw [if_pos rfl, hu]
      subst hu
      exact hp
    · rw [if_neg hpn]; exact hp
  where if_pos_or {u : Int} (h : 1 ≤ u) : (if u - 1 > 0 then u - 1 else (0 : Int)) = u - 1 := by split <;> omega
/-! ### counting -/
theorem cnt_or (Q : Nat → Bool) (p0 : Nat) (hq : Q p0 = false) : ∀ M, (List.range M).countP (fun p => decide (p = p0) || Q p) = (List.range M).countP Q + (if p0 < M then 1 else 0) := by
  intro M
  induction M with
  | zero => rfl
  | succ M ih =>
    rw [List.range_succ, List.countP_append, List.countP_append, ih]
    have e1 : ∀ R : Nat → Bool, List.countP R [M] = if R M = true then 1 else 0 := fun R => by rw [List.countP_cons, List.countP_nil]; omega
    rw [e1, e1]
    by_cases h : M = p0
    · subst h
      rw [hq]; simp
    · have : (decide (M = p0) || Q M) = Q M := by simp [h]
      rw [this]
      by_cases h2 : p0 < M
      · rw [if_pos (c := p0 < M) h2, if_pos (c := p0 < M + 1) (by omega)]; omega
      · rw [if_neg (c := p0 < M) h2, if_neg (c := p0 < M + 1) (by omega)]; omega
theorem cnt_any (q : Ex → Bool) (M : Nat) : ∀ (E : List Ex), (∀ e ∈ E, q e = true → 0 ≤ e.1 ∧ e.1 < (M : Int)) → (∀ (i j : Nat) (e g : Ex), E[i]? = some e → E[j]? = some g → e.1 = g.1 → 0 ≤ e.1 → i = j) →
    E.countP q = (List.range M).countP (fun p : Nat => E.any fun e => decide (e.1 = (p : Int)) && q e)
  | [], _, _ => by
    have : (List.range M).countP (fun p : Nat => ([] : List Ex).any fun e => decide (e.1 = (p : Int)) && q e) = 0 := by
      rw [List.countP_eq_zero]; intro a _; simp
    rw [this]; rfl
  | e :: E, h1, h2 => by
    have ih := cnt_any q M E (fun x hx => h1 x (List.mem_cons_of_mem _ hx)) (fun i j x g a1 a2 a3 a4 => by
      have := h2 (i + 1) (j + 1) x g (by simpa using a1) (by simpa using a2) a3 a4
      omega)
    rw [List.countP_cons]
    by_cases hq : q e = true
    · rw [if_pos hq, ih]
      obtain ⟨g1, g2⟩ := h1 e List.mem_cons_self hq
      have hno : (E.any fun x => decide (x.1 = ((e.1.toNat : Nat) : Int)) && q x) = false := by
        rw [List.any_eq_false]
        intro x hx hxx
        simp only [Bool.and_eq_true, decide_eq_true_eq] at hxx
        obtain ⟨j, hj⟩ := List.getElem?_of_mem hx
        have := h2 0 (j + 1) e x rfl (by simpa using hj) (by omega) g1
        omega
      have := cnt_or (fun p : Nat => E.any fun x => decide (x.1 = (p : Int)) && q x) e.1.toNat hno M
      rw [if_pos (by omega)] at this
      rw [← this]
      congr 1
      funext p
      rw [List.any_cons, hq, Bool.and_true]
      congr 1
      rw [Bool.eq_iff_iff, decide_eq_true_eq, decide_eq_true_eq]; omega
    · rw [if_neg hq, Nat.add_zero, ih]
      congr 1
      funext p
      have hq' : q e = false := by simpa using hq
      rw [List.any_cons, hq', Bool.and_false, Bool.false_or]
/-- how many are held -/
theorem pin_count {N K T : Nat} {c : Cx} (I : Inv N K T c) (H : List Int) (hH : H.length = N + 1) (h : ∀ (p : Nat) (v : Int), H[p]? = some v → Hl (es c) p v) : (es c).countP isPin = H.countP fun v => decide (v > 0) := by
  have hr : ∀ e ∈ es c, isPin e = true → 0 ≤ e.1 ∧ e.1 < ((N + 1 : Nat) : Int) := fun e he hp => by
    have hp' : e.2.2 > 0 := by simpa [isPin] using hp
    rcases I.ok e he with ⟨_, q⟩ | ⟨q1, q2, _⟩
    · omega
    · omega
  rw [cnt_any isPin (N + 1) (es c) hr I.un]
  have e1 : H = (List.range (N + 1)).map fun p => H.getD p 0 := by
    apply List.ext_getElem?
    intro p
    by_cases hp : p < N + 1
    · rw [List.getElem?_map, List.getElem?_range hp, Option.map_some, List.getD_eq_getElem?_getD, List.getElem?_eq_getElem (by omega)]; rfl
    · rw [List.getElem?_eq_none (by omega), List.getElem?_eq_none (by rw [List.length_map, List.length_range]; omega)]
  conv => rhs; rw [e1]
  rw [List.countP_map]
  apply List.countP_congr
  intro p hp
  have hp' := List.mem_range.1 hp
  have hg : H[p]? = some (H.getD p 0) := by rw [List.getD_eq_getElem?_getD, List.getElem?_eq_getElem (by omega)]; rfl
  obtain ⟨h1, h2, h3⟩ := h p _ hg
  simp only [Function.comp_apply, decide_eq_true_eq, List.any_eq_true, Bool.and_eq_true]
  constructor
  · rintro ⟨e, he, h4, h5⟩
    have h5' : e.2.2 > 0 := by simpa [isPin] using h5
    rw [h3 e he h4] at h5'
    exact h5'
  · intro hv
    obtain ⟨e, he, h4, h5⟩ := h2 hv
    exact ⟨e, he, h4, by unfold isPin; rw [decide_eq_true_eq]; omega⟩
/-- where there is room, an empty frame is there -/
theorem room {N K T : Nat} {c : Cx} (I : Inv N K T c) (hK : N + 1 ≤ K) {n : Int} (h0 : 0 ≤ n) (h1 : n ≤ (N : Int)) (hn : ∀ e ∈ es c, e.1 ≠ n) : ∃ e ∈ es c, e.1 = -1 ∧ e.2.2 = 0 := by
  have hr : ∀ e ∈ es c, isIn e = true → 0 ≤ e.1 ∧ e.1 < ((N + 1 : Nat) : Int) := fun e he hp => by
    have hp' : e.1 ≥ 0 := by simpa [isIn] using hp
    rcases I.ok e he with ⟨q, _⟩ | ⟨q1, q2, _⟩
    · omega
    · omega
  have hc := cnt_any isIn (N + 1) (es c) hr I.un
  have hlt : (es c).countP isIn < (es c).length := by
    have hle := List.countP_le_length (p := fun p : Nat => (es c).any fun e => decide (e.1 = ((p : Nat) : Int)) && isIn e) (l := List.range (N + 1))
    have hne : (List.range (N + 1)).countP (fun p : Nat => (es c).any fun e => decide (e.1 = ((p : Nat) : Int)) && isIn e) ≠ (List.range (N + 1)).length := fun e => by
      have := List.countP_eq_length.1 e n.toNat (List.mem_range.2 (by omega))
      rw [List.any_eq_true] at this
      obtain ⟨x, hx, hxx⟩ := this
      simp only [Bool.and_eq_true, decide_eq_true_eq] at hxx
      exact hn x hx (by omega)
    rw [List.length_range] at hle hne
    rw [hc, es_len, I.len]; omega
  have : ∃ e ∈ es c, isIn e = false := by
    apply Classical.byContradiction
    intro hno
    have : (es c).countP isIn = (es c).length := List.countP_eq_length.2 (fun e he => by
      cases hq : isIn e with
      | true => rfl
      | false => exact absurd ⟨e, he, hq⟩ hno)
    omega
  obtain ⟨e, he, hq⟩ := this
  refine ⟨e, he, ?_⟩
  rcases I.ok e he with q | ⟨q, _⟩
  · exact q
  · have : isIn e = true := by unfold isIn; rw [decide_eq_true_eq]; exact q
    rw [this] at hq; cases hq
theorem stay {N K T : Nat} {c c' : Cx} (I : Inv N K T c) (hK : N + 1 ≤ K) {n : Int} {hit : Bool} (h0 : 0 ≤ n) (h1 : n ≤ (N : Int)) (h : Put c c' n hit) : (∃ e ∈ es c', e.1 = n) ∧ ∀ e ∈ es c, 0 ≤ e.1 → ∃ g ∈ es c', g.1 = e.1 := by
  obtain ⟨i, b, hn, hil, he, hc⟩ := h
  have hil' : i < (es c).length := by rw [es_len]; exact hil
  rw [he]
  refine ⟨⟨_, set_self hil', rfl⟩, fun e hee h2 => ?_⟩
  obtain ⟨j, hj⟩ := List.getElem?_of_mem hee
  by_cases hji : j = i
  · rw [hji] at hj
    rcases hc with ⟨_, ⟨g, e1, e2, e3⟩, _⟩ | ⟨_, e1, e2, ⟨g, g1, g2, g3⟩, _⟩
    · rw [e1] at hj
      rw [← Option.some.inj hj]
      exact ⟨_, set_self hil', e2.symm⟩
    · rw [g1] at hj
      have hge := Option.some.inj hj
      subst hge
      rcases g3 with q | q
      · omega
      · obtain ⟨x, hx, hx1, _⟩ := room I hK h0 h1 e2
        exact absurd hx1 (q x hx)
  · exact ⟨e, set_other hji hj, rfl⟩
/-- where pages that are here come from -/
theorem come {c c' : Cx} {n : Int} {hit : Bool} (h : Put c c' n hit) : ∀ e ∈ es c', e.1 = n ∨ ∃ g ∈ es c, g.1 = e.1 := by
  obtain ⟨i, b, hn, hil, he, hc⟩ := h
  rw [he]
  intro e hee
  rcases mem_set hee with ⟨q, _⟩ | ⟨j, q1, q2⟩
  · rw [q]; exact .inl rfl
  · exact .inr ⟨e, List.mem_of_getElem? q2, rfl⟩
/-! ### the first test -/
theorem put_two {c c' : Cx} {n : Int} {hit : Bool} {x y : Ex} (E : es c = [x, y]) (h : Put c c' n hit) : ∃ b,
    (hit = true ∧ x.1 = n ∧ es c' = [(n, b, x.2.2 + 1), y] ∧ c'.2.2.2.1 = c.2.2.2.1 + 1 ∧ c'.2.2.2.2 = c.2.2.2.2) ∨ (hit = true ∧ y.1 = n ∧ es c' = [x, (n, b, y.2.2 + 1)] ∧ c'.2.2.2.1 = c.2.2.2.1 + 1 ∧ c'.2.2.2.2 = c.2.2.2.2) ∨
    (hit = false ∧ x.2.2 = 0 ∧ x.1 ≠ n ∧ y.1 ≠ n ∧ es c' = [(n, b, 1), y] ∧ c'.2.2.2.1 = c.2.2.2.1 ∧ c'.2.2.2.2 = c.2.2.2.2 + 1) ∨ (hit = false ∧ y.2.2 = 0 ∧ x.1 ≠ n ∧ y.1 ≠ n ∧ es c' = [x, (n, b, 1)] ∧ c'.2.2.2.1 = c.2.2.2.1 ∧ c'.2.2.2.2 = c.2.2.2.2 + 1) := by
  obtain ⟨i, b, hn, hil, he, hc⟩ := h
  rw [← es_len, E] at hil
  rw [E] at he hc
  refine ⟨b, ?_⟩
  have h2 : i = 0 ∨ i = 1 := by simp at hil; omega
  rcases h2 with rfl | rfl
  · rcases hc with ⟨a1, ⟨e, a2, a3, a4⟩, a5, a6⟩ | ⟨a1, a2, a3, ⟨e, a4, a5, _⟩, a6, a7⟩
    · have : e = x := (Option.some.inj a2).symm
      subst this
      exact .inl ⟨a1, a3, by rw [he, a4]; rfl, a5, a6⟩
    · have : e = x := (Option.some.inj a4).symm
      subst this
      exact .inr (.inr (.inl ⟨a1, a5, a3 _ (by simp), a3 y (by simp), by rw [he, a2]; rfl, a6, a7⟩))
  · rcases hc with ⟨a1, ⟨e, a2, a3, a4⟩, a5, a6⟩ | ⟨a1, a2, a3, ⟨e, a4, a5, _⟩, a6, a7⟩
    · have : e = y := (Option.some.inj a2).symm
      subst this
      exact .inr (.inl ⟨a1, a3, by rw [he, a4]; rfl, a5, a6⟩)
    · have : e = y := (Option.some.inj a4).symm
      subst this
      exact .inr (.inr (.inr ⟨a1, a5, a3 x (by simp), a3 _ (by simp), by rw [he, a2]; rfl, a6, a7⟩))
end Ca
end Go.Proofs.Ytbcdcpkofgfofaa
