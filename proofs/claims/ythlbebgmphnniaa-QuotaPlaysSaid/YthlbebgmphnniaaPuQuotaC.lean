/-
  The law of gates and scripts, in plain words: the program's map and the document's list hold the same. No condition.
-/
import Derived.Test.YthlbebgmphnniaaPuQuotaA
import Derived.Test.YthlbebgmphnniaaGQuotaPlays
namespace Go.Proofs.Ythlbebgmphnniaa
open Go Go.Gol
set_option linter.unusedVariables false
set_option linter.unusedSimpArgs false
set_option linter.unnecessarySimpa false
set_option maxRecDepth 100000
namespace QuotaP
open Quota
theorem first_f : colophonlaw22_first.f = some true := by decide +kernel
abbrev T2 := List (Int × Int)
def okT (p : Int × Int) : Bool := !decide (p.1 < 1) && !decide (p.1 > 16) && !decide (p.2 < 0) && !decide (p.2 > 64)
theorem right1 (p : Int × Int) : quota_Right_1.f (p.1, p.2) = some (!okT p) := by
  unfold quota_Right_1.f okT
  by_cases h1 : p.1 < 1
  · simp [h1]
  by_cases h2 : p.1 > 16
  · simp [h1, h2]
  by_cases h3 : p.2 < 0
  · simp [h1, h2, h3]
  simp [h1, h2, h3]
theorem qr_loop (l : T2) (hl : l.length < 9223372036854775807) : ∀ (m k i : Nat), l.length - i = m → m < k → i ≤ l.length → (((l.drop i).all okT) = true ∧ quota_Right.l1 l k (i : Int) = some (.inr ())) ∨ (((l.drop i).all okT) = false ∧ ∃ j : Nat, quota_Right.l1 l k (i : Int) = some (.inl (j : Int))) := by
  intro m
  induction m with
  | zero => intro k i hm hk hi; cases k with
    | zero => omega
    | succ k =>
      left; refine ⟨by rw [List.drop_eq_nil_of_le (by omega)]; rfl, ?_⟩
      unfold quota_Right.l1; rw [if_neg (by rw [decide_eq_true_eq]; omega)]
  | succ m ih => intro k i hm hk hi; cases k with
    | zero => omega
    | succ k =>
      have hil : i < l.length := by omega
      unfold quota_Right.l1
      rw [if_pos (by rw [decide_eq_true_eq]; omega), at?_nat, List.getElem?_eq_getElem hil, Option.bind_some, right1, Option.bind_some, List.drop_eq_getElem_cons hil, List.all_cons]
      cases ho : okT l[i] with
      | false => right; exact ⟨rfl, i, by simp⟩
      | true =>
        rw [if_neg (by simp), wi_eq (by omega) (by omega), show ((i : Int) + 1) = ((i + 1 : Nat) : Int) by omega, Bool.true_and]
        exact ih k (i + 1) (by omega) (by omega) (by omega)
def RightB (l : T2) : Bool := l.all okT && decide (1 ≤ l.length) && decide (l.length ≤ 16)
theorem qright (l : T2) : quota_Right.f l = some (RightB l) := by
  unfold quota_Right.f RightB
  by_cases h1 : l.length < 1
  · rw [if_pos (by rw [decide_eq_true_eq]; omega), decide_eq_false (show ¬ 1 ≤ l.length by omega)]; simp
  rw [if_neg (by rw [decide_eq_true_eq]; omega), decide_eq_true (show 1 ≤ l.length by omega)]
  by_cases h2 : l.length > 16
  · rw [if_pos (by rw [decide_eq_true_eq]; omega), decide_eq_false (show ¬ l.length ≤ 16 by omega)]; simp
  rw [if_neg (by rw [decide_eq_true_eq]; omega), decide_eq_true (show l.length ≤ 16 by omega)]
  have h := qr_loop l (by omega) l.length FU 0 (by omega) (by show l.length < 9223372036854775808; omega) (by omega)
  rw [show ((0 : Nat) : Int) = 0 from rfl, List.drop_zero] at h
  rcases h with ⟨e, h⟩ | ⟨e, j, h⟩
  · rw [h, e]; rfl
  · rw [h, e]; simp
theorem rr_loop (l : T2) (hl : l.length < 9223372036854775807) : ∀ (m k i : Nat), l.length - i = m → m < k → i ≤ l.length → colophonref22_Right.l1 l k (i : Int) = some (if (l.drop i).all okT then .inr () else .inl false) := by
  intro m
  induction m with
  | zero => intro k i hm hk hi; cases k with
    | zero => omega
    | succ k =>
      rw [List.drop_eq_nil_of_le (by omega)]
      unfold colophonref22_Right.l1; rw [if_neg (by rw [decide_eq_true_eq]; omega)]; rfl
  | succ m ih => intro k i hm hk hi; cases k with
    | zero => omega
    | succ k =>
      have hil : i < l.length := by omega
      unfold colophonref22_Right.l1
      rw [if_pos (by rw [decide_eq_true_eq]; omega), at?_nat, List.getElem?_eq_getElem hil, Option.bind_some, List.drop_eq_getElem_cons hil, List.all_cons]
      have hi' := ih k (i + 1) (by omega) (by omega) (by omega)
      rw [wi_eq (by omega) (by omega), show ((i : Int) + 1) = ((i + 1 : Nat) : Int) by omega, hi']
      generalize (l.drop (i + 1)).all okT = z
      unfold okT
      by_cases h1 : l[i].1 < 1
      · simp [h1]
      by_cases h2 : l[i].1 > 16
      · simp [h1, h2]
      by_cases h3 : l[i].2 < 0
      · simp [h1, h2, h3]
      by_cases h4 : l[i].2 > 64
      · simp [h1, h2, h3, h4]
      simp only [h1, h2, h3, h4, decide_false, Bool.false_eq_true, if_false, Bool.not_false, Bool.true_and]
theorem rright (l : T2) (hl : l.length < 9223372036854775807) : colophonref22_Right.f l = some (RightB l) := by
  unfold colophonref22_Right.f RightB
  have h := rr_loop l hl l.length FU 0 (by omega) (by show l.length < 9223372036854775808; omega) (by omega)
  rw [show ((0 : Nat) : Int) = 0 from rfl, List.drop_zero] at h
  rw [h]
  cases ha : l.all okT with
  | false => simp
  | true =>
    simp only [if_true, Option.bind_some, Bool.true_and]
    by_cases h1 : 1 ≤ l.length
    · rw [if_pos (by rw [decide_eq_true_eq]; omega), decide_eq_true h1, Bool.true_and]
      congr 1; rw [Bool.eq_iff_iff]; simp only [decide_eq_true_eq]; omega
    · rw [if_neg (by rw [decide_eq_true_eq]; omega), decide_eq_false h1]; rfl
theorem new_eq (a : Int) (l : T2) : quota_New.f a l = some (if RightB l && !decide (a < 1) && !decide (a > 64) then (some (a, l, []), 0) else (none, 2)) := by
  unfold quota_New.f
  rw [qright, Option.bind_some]
  cases hR : RightB l with
  | false => simp
  | true =>
    rw [if_neg (by simp), Bool.true_and]
    by_cases h1 : a < 1
    · simp [h1]
    by_cases h2 : a > 64
    · simp [h1, h2]
    simp only [h1, h2, decide_false, Bool.false_eq_true, if_false, Bool.not_false, Bool.and_true, if_true]
    unfold slices_Clone.f
    have hl : l.length ≤ 16 := by
      unfold RightB at hR
      simp only [Bool.and_eq_true, decide_eq_true_eq] at hR; exact hR.2
    rw [app?_eq (by simp; omega), List.nil_append]; rfl
/-- how many of one stand in a list, by the document's walk -/
theorem live_loop (t : Int) (y : Int × T2 × List Int) (hl : y.2.2.length ≤ 1000000) : ∀ (m k i c : Nat), y.2.2.length - i = m → m < k → i ≤ y.2.2.length → c ≤ i → colophonref22_Gate_Live.l1 t y k (c : Int) (i : Int) = some ((c + (y.2.2.drop i).count t : Nat) : Int) := by
  intro m
  induction m with
  | zero => intro k i c hm hk hi hc; cases k with
    | zero => omega
    | succ k =>
      rw [List.drop_eq_nil_of_le (by omega)]
      unfold colophonref22_Gate_Live.l1; rw [if_neg (by rw [decide_eq_true_eq]; omega)]; simp
  | succ m ih => intro k i c hm hk hi hc; cases k with
    | zero => omega
    | succ k =>
      have hil : i < y.2.2.length := by omega
      unfold colophonref22_Gate_Live.l1
      rw [if_pos (by rw [decide_eq_true_eq]; omega), at?_nat, List.getElem?_eq_getElem hil, Option.bind_some, List.drop_eq_getElem_cons hil, List.count_cons, wi_eq (n := (i : Int) + 1) (by omega) (by omega), show ((i : Int) + 1) = ((i + 1 : Nat) : Int) by omega]
      by_cases e : y.2.2[i] = t
      · rw [if_pos (by simpa using e), wi_eq (by omega) (by omega), show ((c : Int) + 1) = ((c + 1 : Nat) : Int) by omega, ih k (i + 1) (c + 1) (by omega) (by omega) (by omega) (by omega), if_pos (by simpa using e)]
        congr 2; omega
      · rw [if_neg (by simpa using e), ih k (i + 1) c (by omega) (by omega) (by omega) (by omega), if_neg (by simpa using e)]; rfl
theorem rlive (s : Int) (l : T2) (In : List Int) (t : Int) (hl : In.length ≤ 1000000) : colophonref22_Gate_Live.f (some (s, l, In)) t = some ((In.count t : Nat) : Int) := by
  unfold colophonref22_Gate_Live.f
  rw [Option.bind_some]
  have h := live_loop t (s, l, In) hl In.length FU 0 0 (by show In.length - 0 = _; omega) (by show In.length < 9223372036854775808; omega) (by show 0 ≤ In.length; omega) (by omega)
  rw [show ((0 : Nat) : Int) = 0 from rfl] at h
  rw [h]; simp
/-- the two gates hold the same -/
structure Both (a : Int) (l : T2) (M : T2) (In : List Int) : Prop where
  ok : MOk M (fun t => In.count t) In.length
  rng : ∀ t ∈ In, 0 ≤ t ∧ t < (l.length : Int)
  quo : ∀ (t : Nat) (h : t < l.length), (In.count (t : Int) : Int) ≤ l[t].2
  lim : (In.length : Int) ≤ a
theorem Both.nil {a : Int} {l : T2} (ha : 1 ≤ a) (hq : ∀ (t : Nat) (h : t < l.length), 0 ≤ l[t].2) : Both a l [] [] := ⟨by simpa using MOk.nil, (fun t h => by cases h), fun t h => by simpa using hq t h, by simp; omega⟩
theorem Both.none {a : Int} {l M : T2} {In : List Int} (h : Both a l M In) {t : Int} (ht : ¬ (0 ≤ t ∧ t < (l.length : Int))) : In.count t = 0 := by
  rw [List.count_eq_zero]; exact fun hm => ht (h.rng t hm)
theorem has_eq (a : Int) (l M : T2) (t : Int) : quota_Gate_has.f (a, l, M) t = some (decide (0 ≤ t ∧ t < (l.length : Int))) := by
  unfold quota_Gate_has.f
  by_cases h : t ≥ 0
  · rw [if_pos (by simpa using h)]; simp; omega
  · rw [if_neg (by simpa using h)]; simp; omega
theorem all_eq {a : Int} {l M : T2} {In : List Int} (h : Both a l M In) (ha : a ≤ 64) : quota_Gate_All.f (a, l, M) = some (In.length : Int) := by
  unfold quota_Gate_All.f
  have := h.ok.sum
  have h2 := h.lim
  unfold sm at this
  simp only []
  rw [this, wi_eq (by omega) (by omega)]
theorem live_eq {a : Int} {l M : T2} {In : List Int} (h : Both a l M In) (t : Int) : quota_Gate_Live.f (a, l, M) t = some ((In.count t : Nat) : Int) := by
  unfold quota_Gate_Live.f
  rw [has_eq, Option.bind_some]
  by_cases ht : 0 ≤ t ∧ t < (l.length : Int)
  · rw [decide_eq_true ht, if_neg (by simp)]; simp only []; rw [h.ok.getD]
  · rw [decide_eq_false ht, if_pos (by simp), h.none ht]; rfl
theorem enter_eq {a : Int} {l M : T2} {In : List Int} (h : Both a l M In) (ha : a ≤ 64) (t : Int) :
    ∃ e M' In', quota_Gate_Enter.f (a, l, M) t = some (e, (a, l, M')) ∧ colophonref22_Gate_Enter_r0_1.f (a, l, In) t = some (e, (a, l, In')) ∧ Both a l M' In' := by
  have hlen : In.length ≤ 64 := by have := h.lim; omega
  unfold quota_Gate_Enter.f colophonref22_Gate_Enter_r0_1.f
  rw [has_eq, Option.bind_some]
  by_cases h0 : t < 0
  · rw [decide_eq_false (by omega), if_pos (by simp), if_pos (by simpa using h0)]; exact ⟨222, M, In, rfl, rfl, h⟩
  by_cases h1 : (l.length : Int) ≤ t
  · rw [decide_eq_false (by omega), if_pos (by simp), if_neg (by simpa using h0), if_pos (by simpa using h1)]; exact ⟨222, M, In, rfl, rfl, h⟩
  obtain ⟨q, rfl⟩ : ∃ q : Nat, t = (q : Int) := ⟨t.toNat, by omega⟩
  have hq : q < l.length := by omega
  rw [decide_eq_true (by omega), if_neg (by simp), if_neg (by simpa using h0), if_neg (by simp; omega)]
  simp only []
  rw [at?_nat, List.getElem?_eq_getElem hq, Option.bind_some, Option.bind_some, h.ok.getD, rlive a l In _ (by omega), Option.bind_some]
  have hqq := h.quo q hq
  by_cases h2 : (In.count (q : Int) : Int) = l[q].2
  · rw [if_pos (by simp; omega), if_pos (by simpa using h2)]; exact ⟨220, M, In, rfl, rfl, h⟩
  rw [if_neg (by simp; omega), if_neg (by simpa using h2), all_eq h ha, Option.bind_some]
  have hl := h.lim
  by_cases h3 : (In.length : Int) = a
  · rw [if_pos (by simp; omega), if_pos (by simpa using h3)]; exact ⟨221, M, In, rfl, rfl, h⟩
  rw [if_neg (by simp; omega), if_neg (by simpa using h3), app?_eq (by simp; omega), Option.bind_some, wi_eq (by omega) (by have := List.count_le_length (a := (q : Int)) (l := In); omega)]
  refine ⟨0, _, In ++ [(q : Int)], rfl, rfl, ?_, ?_, ?_, ?_⟩
  · have := h.ok.up (q : Int)
    have e : (fun x => if x = (q : Int) then In.count x + 1 else In.count x) = fun x => (In ++ [(q : Int)]).count x := by
      funext x
      rw [List.count_append]
      by_cases e : x = (q : Int)
      · rw [if_pos e, e]; simp
      · rw [if_neg e, List.count_eq_zero (a := x) (l := [(q : Int)]) |>.2 (by simpa using e)]; rfl
    rw [e] at this
    simpa using this
  · intro x hx
    rcases List.mem_append.1 hx with hx | hx
    · exact h.rng x hx
    · simp at hx; subst hx; omega
  · intro x hx
    rw [List.count_append]
    by_cases e : (x : Int) = (q : Int)
    · have e' : x = q := by omega
      subst e'
      simp; omega
    · rw [List.count_eq_zero (a := (x : Int)) (l := [(q : Int)]) |>.2 (by simpa using e)]; exact h.quo x hx
  · simp; omega
theorem leave_loop (p : Int × T2 × List Int) (t : Int) (hl : p.2.2.length ≤ 1000000) : ∀ (m k i : Nat), p.2.2.length - i = m → m < k → i ≤ p.2.2.length → (t ∉ p.2.2.drop i ∧ colophonref22_Gate_Leave_r0_1.l1 p t k (i : Int) = some (.inr ())) ∨ ∃ j : Nat, ∃ hj : j < p.2.2.length, p.2.2[j] = t ∧ colophonref22_Gate_Leave_r0_1.l1 p t k (i : Int) = some (.inl (true, p.2.2.take j ++ p.2.2.drop (j + 1))) := by
  intro m
  induction m with
  | zero => intro k i hm hk hi; cases k with
    | zero => omega
    | succ k =>
      left; rw [List.drop_eq_nil_of_le (by omega)]; refine ⟨by simp, ?_⟩
      unfold colophonref22_Gate_Leave_r0_1.l1; rw [if_neg (by rw [decide_eq_true_eq]; omega)]
  | succ m ih => intro k i hm hk hi; cases k with
    | zero => omega
    | succ k =>
      have hil : i < p.2.2.length := by omega
      unfold colophonref22_Gate_Leave_r0_1.l1
      rw [if_pos (by rw [decide_eq_true_eq]; omega), at?_nat, List.getElem?_eq_getElem hil, Option.bind_some, wi_eq (by omega) (by omega), show ((i : Int) + 1) = ((i + 1 : Nat) : Int) by omega]
      by_cases e : p.2.2[i] = t
      · right
        refine ⟨i, hil, e, ?_⟩
        rw [if_pos (by simpa using e), sub?_pre _ (by omega), Option.bind_some, sub?_nat _ (by omega) (Nat.le_refl _), Option.bind_some, app?_eq (by simp; omega), Option.bind_some, List.nil_append, List.take_length, app?_eq (by simp; omega), Option.bind_some]
      · rw [if_neg (by simpa using e)]
        rcases ih k (i + 1) (by omega) (by omega) (by omega) with ⟨h1, h2⟩ | h
        · left
          refine ⟨?_, h2⟩
          rw [List.drop_eq_getElem_cons hil, List.mem_cons, not_or]; exact ⟨fun h => e h.symm, h1⟩
        · exact .inr h
theorem leave_eq {a : Int} {l M : T2} {In : List Int} (h : Both a l M In) (ha : a ≤ 64) (t : Int) :
    ∃ b M' In', quota_Gate_Leave.f (a, l, M) t = some (b, (a, l, M')) ∧ colophonref22_Gate_Leave_r0_1.f (a, l, In) t = some (b, (a, l, In')) ∧ Both a l M' In' := by
  have hlen : In.length ≤ 64 := by have := h.lim; omega
  unfold quota_Gate_Leave.f colophonref22_Gate_Leave_r0_1.f
  rw [has_eq, Option.bind_some]
  have hlp := leave_loop (a, l, In) t (by show In.length ≤ _; omega) In.length FU 0 (by show In.length - 0 = _; omega) (by show In.length < 9223372036854775808; omega) (by show 0 ≤ In.length; omega)
  rw [show ((0 : Nat) : Int) = 0 from rfl] at hlp
  rcases hlp with ⟨h1, h2⟩ | ⟨j, hj, h1, h2⟩
  · have hc : In.count t = 0 := List.count_eq_zero.2 h1
    rw [h2]
    refine ⟨false, M, In, ?_, rfl, h⟩
    by_cases ht : 0 ≤ t ∧ t < (l.length : Int)
    · rw [decide_eq_true ht, if_neg (by simp)]; simp only []; rw [h.ok.getD, if_pos (by simp [hc])]
    · rw [decide_eq_false ht, if_pos (by simp)]
  · replace hj : j < In.length := hj
    replace h1 : In[j] = t := h1
    rw [h2]
    have hm : t ∈ In := by rw [← h1]; exact List.getElem_mem hj
    have hc : 0 < In.count t := List.count_pos_iff.2 hm
    have hcl := List.count_le_length (a := t) (l := In)
    have ht := h.rng t hm
    rw [decide_eq_true ht, if_neg (by simp)]
    simp only []
    have hd := h.ok.down (k := t) hc (by omega)
    rw [h.ok.getD, if_neg (by rw [beq_iff_eq]; omega), wi_eq (by omega) (by omega), mget_mset, if_pos rfl, Option.getD_some]
    have hsp : In = In.take j ++ t :: In.drop (j + 1) := by rw [← h1, ← List.drop_eq_getElem_cons hj, List.take_append_drop]
    have hcnt : ∀ x, In.count x = (In.take j ++ In.drop (j + 1)).count x + if x = t then 1 else 0 := fun x => by
      conv => lhs; rw [hsp]
      rw [List.count_append, List.count_append, List.count_cons]
      by_cases e : x = t
      · rw [if_pos e, if_pos (by simp [e])]; omega
      · rw [if_neg e, if_neg (by simpa using fun h => e h.symm)]; omega
    have hfun : (fun x => if x = t then In.count x - 1 else In.count x) = fun x => (In.take j ++ In.drop (j + 1)).count x := by
      funext x
      have := hcnt x
      by_cases e : x = t
      · rw [if_pos e] at this ⊢; omega
      · rw [if_neg e] at this ⊢; omega
    have hll : (In.take j ++ In.drop (j + 1)).length = In.length - 1 := by simp; omega
    rw [hfun, ← hll] at hd
    have hB : ∀ M', MOk M' (fun x => (In.take j ++ In.drop (j + 1)).count x) (In.take j ++ In.drop (j + 1)).length → Both a l M' (In.take j ++ In.drop (j + 1)) := fun M' hM => by
      refine ⟨hM, fun x hx => h.rng x ?_, fun x hx => ?_, ?_⟩
      · rcases List.mem_append.1 hx with hx | hx
        · exact List.mem_of_mem_take hx
        · exact List.mem_of_mem_drop hx
      · have := hcnt (x : Int)
        have := h.quo x hx
        omega
      · have := h.lim; omega
    by_cases e : (In.count t : Int) - 1 = 0
    · rw [if_pos e] at hd
      rw [if_pos (by rw [beq_iff_eq]; exact e)]; exact ⟨true, _, _, rfl, rfl, hB _ hd⟩
    · rw [if_neg e] at hd
      rw [if_neg (by rw [beq_iff_eq]; exact e)]; exact ⟨true, _, _, rfl, rfl, hB _ hd⟩
theorem ten_eq (a : Int) (l M : T2) : quota_Gate_Tenants.f (a, l, M) = some (l.length : Int) := rfl
theorem script (a : Int) (l s : T2) (ha : a ≤ 64) : ∀ (m k i : Nat) (M : T2) (In : List Int), s.length - i = m → m < k → i ≤ 200 → Both a l M In → ∃ z, colophonlaw22_QuotaPlays.l2 l s k (i : Int) (a, l, M) (a, l, In) = some (.inl z) := by
  intro m
  induction m with
  | zero => intro k i M In hm hk hi hB; cases k with
    | zero => omega
    | succ k => unfold colophonlaw22_QuotaPlays.l2; rw [if_neg (by rw [decide_eq_true_eq]; omega)]; exact ⟨_, rfl⟩
  | succ m ih => intro k i M In hm hk hi hB; cases k with
    | zero => omega
    | succ k =>
      have hil : i < s.length := by omega
      have hcl : ∀ In : List Int, Both a l M In → In.length ≤ 64 := fun In h => by have := h.lim; omega
      unfold colophonlaw22_QuotaPlays.l2
      rw [if_pos (by rw [decide_eq_true_eq]; omega), at?_nat, List.getElem?_eq_getElem hil, Option.bind_some]
      by_cases h2 : i = 200
      · rw [if_pos (by rw [decide_eq_true_eq]; omega)]; exact ⟨_, rfl⟩
      rw [if_neg (by rw [decide_eq_true_eq]; omega), wi_eq (n := (i : Int) + 1) (by omega) (by omega), show ((i : Int) + 1) = ((i + 1 : Nat) : Int) by omega]
      by_cases hk2 : (Int.tmod (IntKind.wrap .u64 s[i].1) 2 == 0) = true
      · rw [if_pos hk2]
        obtain ⟨e, M', In', e1, e2, hB'⟩ := enter_eq hB ha s[i].2
        have hln : In'.length ≤ 64 := by have := hB'.lim; omega
        rw [e1, Option.bind_some, e2, Option.bind_some, if_neg (by simp)]
        simp only []
        rw [all_eq hB' ha, Option.bind_some, if_neg (by simp), live_eq hB', Option.bind_some, rlive a l In' _ (by omega), Option.bind_some, if_neg (by simp), ten_eq, Option.bind_some, if_neg (by simp)]
        exact ih k (i + 1) M' In' (by omega) (by omega) (by omega) hB'
      · rw [if_neg hk2]
        obtain ⟨e, M', In', e1, e2, hB'⟩ := leave_eq hB ha s[i].2
        have hln : In'.length ≤ 64 := by have := hB'.lim; omega
        rw [e1, Option.bind_some, e2, Option.bind_some, if_neg (by simp)]
        simp only []
        rw [all_eq hB' ha, Option.bind_some, if_neg (by simp), live_eq hB', Option.bind_some, rlive a l In' _ (by omega), Option.bind_some, if_neg (by simp), ten_eq, Option.bind_some, if_neg (by simp)]
        exact ih k (i + 1) M' In' (by omega) (by omega) (by omega) hB'
theorem wipe (l y : T2) : ∀ (m k i : Nat) (z : T2), z.length = y.length → y.length - i = m → m < k → y.length < 9223372036854775807 → colophonlaw22_QuotaPlays.l1 l y k z (i : Int) = some () := by
  intro m
  induction m with
  | zero => intro k i z hz hm hk hy; cases k with
    | zero => omega
    | succ k => unfold colophonlaw22_QuotaPlays.l1; rw [if_neg (by rw [decide_eq_true_eq]; omega)]
  | succ m ih => intro k i z hz hm hk hy; cases k with
    | zero => omega
    | succ k =>
      have hil : i < z.length := by omega
      unfold colophonlaw22_QuotaPlays.l1
      rw [if_pos (by rw [decide_eq_true_eq]; omega), at?_nat, List.getElem?_eq_getElem hil, Option.bind_some, set?_nat _ hil, Option.bind_some, wi_eq (by omega) (by omega), show ((i : Int) + 1) = ((i + 1 : Nat) : Int) by omega]
      exact ih k (i + 1) _ (by simp; exact hz) (by omega) (by omega) hy
end QuotaP
open Quota QuotaP
theorem pure_QuotaPlays (a0 : Int) (F0 : Fits (.int .i64) a0) (l1 : List (Int × Int)) (F1 : Fits (.slice 27 (.pair (.int .i64) (.int .i64))) l1) (S1 : l1.length * 16 ≤ 140737488351232) (l2 : List (Int × Int)) (F2 : Fits (.slice 44 (.pair (.int .i64) (.int .i64))) l2) (S2 : l2.length * 16 ≤ 140737488351232) : colophonlaw22_QuotaPlays.f a0 l1 l2 = some true := by
  unfold colophonlaw22_QuotaPlays.f
  rw [QuotaP.first_f, Option.bind_some, if_neg (by simp), app?_eq (by simp; omega), Option.bind_some, List.nil_append, new_eq, Option.bind_some, rright l1 (by omega), Option.bind_some]
  cases hR : RightB l1 with
  | false =>
    simp only [Bool.false_and, Bool.false_eq_true, if_false, Bool.not_false, if_true]
    rw [if_pos (by rfl), qright, hR]; rfl
  | true =>
    rw [if_neg (by simp), Bool.true_and]
    by_cases h1 : a0 < 1
    · rw [if_pos (by simpa using h1), decide_eq_true h1]
      simp only [Bool.not_true, Bool.false_and, Bool.false_eq_true, if_false]
      rw [if_pos (by rfl), qright, hR]; rfl
    rw [if_neg (by simpa using h1), decide_eq_false h1]
    by_cases h2 : a0 > 64
    · rw [if_pos (by simpa using h2), decide_eq_true h2]
      simp only [Bool.not_true, Bool.and_false, Bool.false_eq_true, if_false]
      rw [if_pos (by rfl), qright, hR]; rfl
    rw [if_neg (by simpa using h2), decide_eq_false h2]
    simp only [Bool.not_false, Bool.and_true, if_true, Option.bind_some]
    have hR' := hR
    unfold RightB at hR'
    simp only [Bool.and_eq_true, decide_eq_true_eq, List.all_eq_true] at hR'
    have e1 := wipe l1 l1 l1.length FU 0 l1 rfl (by omega) (by show l1.length < 9223372036854775808; omega) (by omega)
    rw [show ((0 : Nat) : Int) = 0 from rfl] at e1
    rw [e1, Option.bind_some]
    obtain ⟨z, e2⟩ := script a0 l1 l2 (by omega) l2.length FU 0 [] [] (by omega) (by show l2.length < 9223372036854775808; omega) (by omega) (Both.nil (by omega) (fun t h => by
      have := hR'.1.1 _ (List.getElem_mem h)
      unfold okT at this
      simp at this; omega))
    rw [show ((0 : Nat) : Int) = 0 from rfl] at e2
    rw [e2]; rfl
end Go.Proofs.Ythlbebgmphnniaa
