/-
  Whose turn it is, in plain words: the turns until a tenant that is ready has something left. No condition.
-/
import Derived.Test.YtnffhpnlehcoiaaPuFairA
namespace Go.Proofs.Ytnffhpnlehcoiaa
open Go Go.Gol
set_option linter.unusedVariables false
set_option linter.unusedSimpArgs false
set_option linter.unnecessarySimpa false
set_option maxRecDepth 100000
namespace Fair
abbrev l0 : Line := (0, 0, 0, [])
theorem getD_lt {L : List Line} {i : Nat} (h : i < L.length) : L.getD i l0 = L[i] := by simp [List.getD_eq_getElem?_getD, List.getElem?_eq_getElem h]
theorem getD_set {L : List Line} {i j : Nat} {y : Line} : (L.set i y).getD j l0 = if i = j ∧ j < L.length then y else L.getD j l0 := by
  simp only [List.getD_eq_getElem?_getD, List.getElem?_set]
  by_cases h : i = j
  · subst h
    by_cases h2 : i < L.length
    · simp [h2]
    · simp [h2]
  · simp [h]
def crd (l : Line) (c : Int) : Line := (l.1, c, l.2.2.1, l.2.2.2)
/-- the turn goes on -/
def stop (l : Line) (o : Bool) : Bool := o && ((rdy l).isSome && decide (l.2.1 > 0))
def upd (L : List Line) (t : Nat) (o : Bool) : List Line := if o && !(rdy (L.getD t l0)).isSome then L.set t (crd (L.getD t l0) (imin (L.getD t l0).2.1 0)) else L
def bump (q : Int) (L : List Line) (t : Nat) : List Line := if (rdy (L.getD t l0)).isSome then L.set t (crd (L.getD t l0) ((L.getD t l0).2.1 + q * (L.getD t l0).1)) else L
def nxt (n t : Nat) : Nat := if t + 1 = n then 0 else t + 1
theorem nxt_lt {n t : Nat} (h : t < n) : nxt n t < n := by unfold nxt; split <;> omega
theorem upd_len (L : List Line) (t : Nat) (o : Bool) : (upd L t o).length = L.length := by unfold upd; split <;> simp
theorem bump_len (q : Int) (L : List Line) (t : Nat) : (bump q L t).length = L.length := by unfold bump; split <;> simp
/-- what is the same in both: the weight, what was spent, the jobs -/
def same (l l' : Line) : Prop := l'.1 = l.1 ∧ l'.2.2.1 = l.2.2.1 ∧ l'.2.2.2 = l.2.2.2
theorem same.refl (l : Line) : same l l := ⟨rfl, rfl, rfl⟩
theorem same.trans {a b c : Line} (h : same a b) (h' : same b c) : same a c := ⟨h'.1.trans h.1, h'.2.1.trans h.2.1, h'.2.2.trans h.2.2⟩
theorem same.rdy {l l' : Line} (h : same l l') : rdy l' = rdy l := by unfold Fair.rdy; rw [h.2.2]
theorem upd_get (L : List Line) (t : Nat) (o : Bool) (j : Nat) : (upd L t o).getD j l0 = if (t = j ∧ j < L.length) ∧ (o && !(rdy (L.getD t l0)).isSome) = true then crd (L.getD j l0) (imin (L.getD j l0).2.1 0) else L.getD j l0 := by
  unfold upd
  by_cases h : (o && !(rdy (L.getD t l0)).isSome) = true
  · rw [if_pos h, getD_set]
    by_cases h2 : t = j ∧ j < L.length
    · rw [if_pos h2, if_pos ⟨h2, h⟩, h2.1]
    · rw [if_neg h2, if_neg (fun q => h2 q.1)]
  · rw [if_neg h, if_neg (fun q => h q.2)]
theorem bump_get (q : Int) (L : List Line) (t : Nat) (j : Nat) : (bump q L t).getD j l0 = if (t = j ∧ j < L.length) ∧ (rdy (L.getD t l0)).isSome = true then crd (L.getD j l0) ((L.getD j l0).2.1 + q * (L.getD j l0).1) else L.getD j l0 := by
  unfold bump
  by_cases h : (rdy (L.getD t l0)).isSome = true
  · rw [if_pos h, getD_set]
    by_cases h2 : t = j ∧ j < L.length
    · rw [if_pos h2, if_pos ⟨h2, h⟩, h2.1]
    · rw [if_neg h2, if_neg (fun q => h2 q.1)]
  · rw [if_neg h, if_neg (fun q => h q.2)]
theorem upd_same (L : List Line) (t : Nat) (o : Bool) (j : Nat) : same (L.getD j l0) ((upd L t o).getD j l0) := by
  rw [upd_get]; split
  · exact ⟨rfl, rfl, rfl⟩
  · exact same.refl _
theorem bump_same (q : Int) (L : List Line) (t : Nat) (j : Nat) : same (L.getD j l0) ((bump q L t).getD j l0) := by
  rw [bump_get]; split
  · exact ⟨rfl, rfl, rfl⟩
  · exact same.refl _
def stepL (q : Int) (L : List Line) (t : Nat) (o : Bool) : List Line := bump q (upd L t o) (nxt L.length t)
theorem stepL_len (q : Int) (L : List Line) (t : Nat) (o : Bool) : (stepL q L t o).length = L.length := by unfold stepL; rw [bump_len, upd_len]
theorem stepL_same (q : Int) (L : List Line) (t : Nat) (o : Bool) (j : Nat) : same (L.getD j l0) ((stepL q L t o).getD j l0) := (upd_same L t o j).trans (bump_same q _ _ j)
/-- the program's step -/
def mv {α : Type} (F : Ring → Option α) (q : Int) (M : List (Option Line)) (t : Int) (told : Int) (h : Bool) : Option α :=
  (chk? (decide ((M.length : Int) ≠ 0))).bind fun _ => (at? M (Int.tmod (wi (t + 1)) (M.length : Int))).bind fun v => (fair_line_ready.f v).bind fun r => if decide (r ≥ 0) then v.bind fun y => F (q, (List.set M ((Int.tmod (wi (t + 1)) (M.length : Int)).toNat) (some (y.1, wi (y.2.1 + (wi (q * y.1))), y.2.2.1, y.2.2.2))), Int.tmod (wi (t + 1)) (M.length : Int), true, told, h) else F (q, M, Int.tmod (wi (t + 1)) (M.length : Int), true, told, h)
/-- numbers that stay small -/
structure Ok (q : Int) (L : List Line) : Prop where
  q1 : 1 ≤ q
  q2 : q ≤ 4096
  len : L.length ≤ 1000000
  jobs : ∀ j, (L.getD j l0).2.2.2.length ≤ 1000000
  wt : ∀ j, j < L.length → 1 ≤ (L.getD j l0).1 ∧ (L.getD j l0).1 ≤ 16
  cr : ∀ j, -1000000 ≤ (L.getD j l0).2.1 ∧ (L.getD j l0).2.1 ≤ 65536
theorem Ok.sm {q : Int} {L : List Line} (h : Ok q L) : Sm L := ⟨h.len, fun l hl => by
  obtain ⟨i, hi, rfl⟩ := List.getElem_of_mem hl
  have := h.jobs i; rwa [getD_lt hi] at this⟩
theorem tm {n t : Nat} (h : t < n) (hn : n ≤ 1000000) : Int.tmod (wi ((t : Int) + 1)) (n : Int) = ((nxt n t : Nat) : Int) := by
  rw [wi_eq (by omega) (by omega), show ((t : Int) + 1) = ((t + 1 : Nat) : Int) by omega]
  unfold nxt
  rw [Int.tmod_eq_emod_of_nonneg (by omega)]
  by_cases e : t + 1 = n
  · rw [if_pos e, e, Int.emod_self]; rfl
  · rw [if_neg e, Int.emod_eq_of_lt (by omega) (by omega)]
theorem mv_eq {α : Type} {F : Ring → Option α} {q : Int} {L : List Line} {t : Nat} {told : Int} {h : Bool} (hO : Ok q L) (ht : t < L.length) :
    mv F q (L.map some) (t : Int) told h = F (rg q (bump q L (nxt L.length t)) ((nxt L.length t : Nat) : Int) true told h) := by
  have hn := nxt_lt ht
  have hlen := hO.len
  unfold mv
  rw [List.length_map, chk?_eq (by rw [decide_eq_true_eq]; omega), Option.bind_some, tm ht hlen, at_map hn, Option.bind_some, ready_eq (by have := hO.jobs (nxt L.length t); rwa [getD_lt hn] at this), Option.bind_some, ready_ge]
  unfold bump
  rw [getD_lt hn]
  by_cases hr : (rdy L[nxt L.length t]).isSome = true
  · rw [if_pos hr, if_pos hr, Option.bind_some]
    have h1 := hO.wt _ hn
    have h2 := hO.cr (nxt L.length t)
    rw [getD_lt hn] at h1 h2
    have hq1 := hO.q1
    have hq2 := hO.q2
    have hp0 : 0 ≤ q * (L[nxt L.length t]).1 := Int.mul_nonneg (by omega) (by omega)
    have hp1 : q * (L[nxt L.length t]).1 ≤ 4096 * 16 := Int.mul_le_mul hq2 h1.2 (by omega) (by omega)
    rw [wi_eq (n := q * _) (by omega) (by omega), wi_eq (by omega) (by omega), Int.toNat_natCast, set_map]; rfl
  · rw [if_neg hr, if_neg hr]; rfl
theorem imin_le (a : Int) : imin a 0 ≤ 0 := by unfold imin; split <;> omega
theorem imin_ge (a : Int) (h : -1000000 ≤ a) : -1000000 ≤ imin a 0 := by unfold imin; split <;> omega
theorem Ok.upd {q : Int} {L : List Line} (h : Ok q L) (t : Nat) (o : Bool) : Ok q (upd L t o) := by
  refine ⟨h.q1, h.q2, by rw [upd_len]; exact h.len, fun j => ?_, fun j hj => ?_, fun j => ?_⟩
  · rw [(upd_same L t o j).2.2]; exact h.jobs j
  · rw [upd_len] at hj; rw [(upd_same L t o j).1]; exact h.wt j hj
  · rw [upd_get]; split
    · have := h.cr j
      have h1 := imin_le (L.getD j l0).2.1
      have h2 := imin_ge (L.getD j l0).2.1 this.1
      show _ ≤ imin _ 0 ∧ imin _ 0 ≤ _
      omega
    · exact h.cr j
/-- one round of the loop in Next -/
theorem l2_step {q : Int} {L : List Line} {t : Nat} {o : Bool} {told : Int} {h : Bool} (k : Nat) (hO : Ok q L) (ht : t < L.length) :
    fair_Ring_Next.l2 (k + 1) (rg q L (t : Int) o told h) = if stop (L.getD t l0) o = true then (match rdy (L.getD t l0) with | some m => some ((t : Int), ((L.getD t l0).2.2.2.getD m (0, false)).1, true, rg q L (t : Int) o ((L.getD t l0).2.2.2.getD m (0, false)).1 true) | none => none) else fair_Ring_Next.l2 k (rg q (stepL q L t o) ((nxt L.length t : Nat) : Int) true told h) := by
  have hg := getD_lt ht
  have hj : (L[t]).2.2.2.length ≤ 1000000 := by have := hO.jobs t; rwa [hg] at this
  have hlt : decide (rdyI L[t] < 0) = !(rdy L[t]).isSome := by
    rw [← ready_ge L[t], Bool.eq_iff_iff]; simp
  have e4 : fair_Ring_Next.j4 (rg q L (t : Int) o told h) (some L[t]) (rdyI L[t]) = some ((t : Int), stop L[t] o) := by
    unfold fair_Ring_Next.j4 stop
    rw [ready_ge]
    cases o with
    | false => rfl
    | true =>
      show (if true = true then _ else _) = _
      rw [if_pos rfl]
      cases (rdy L[t]).isSome with
      | true => rfl
      | false => rfl
  have e3 : fair_Ring_Next.j3 (rg q L (t : Int) o told h) (some L[t]) (rdyI L[t]) = if stop L[t] o = true then (match rdy L[t] with | some m => some (.inl ((t : Int), ((L[t]).2.2.2.getD m (0, false)).1, ((L[t]).2.2.2.getD m (0, false)).1, true)) | none => none) else some (.inr (t : Int)) := by
    unfold fair_Ring_Next.j3
    rw [e4, Option.bind_some]
    cases hs : stop L[t] o with
    | false => rfl
    | true =>
      simp only [if_true]
      show (at? (L.map some) (t : Int)).bind _ = _
      rw [at_map ht, Option.bind_some, Option.bind_some]
      unfold stop at hs
      simp only [Bool.and_eq_true] at hs
      cases hm : rdy L[t] with
      | none => rw [hm] at hs; exact absurd hs.2.1 (by simp)
      | some m =>
        have hlt2 := fix_lt hm
        unfold rdyI
        rw [hm]
        simp only []
        rw [at_jobs hlt2, Option.bind_some, List.getD_eq_getElem?_getD, List.getElem?_eq_getElem hlt2]; rfl
  have e5 : fair_Ring_Next.j5 (rg q L (t : Int) o told h) (rdyI L[t]) (t : Int) = some ((upd L t o).map some) := by
    unfold fair_Ring_Next.j5 fair_Ring_Next.j6 upd
    rw [hlt, hg]
    cases o with
    | false => rfl
    | true =>
      show ((if true = true then some (!(rdy L[t]).isSome) else _).bind _) = _
      rw [if_pos rfl, Option.bind_some, Bool.true_and]
      cases (rdy L[t]).isSome with
      | true => rfl
      | false =>
        simp only [Bool.not_false, if_true]
        show (at? (L.map some) (t : Int)).bind _ = _
        rw [at_map ht, Option.bind_some, Option.bind_some]
        show some (List.set (L.map some) ((t : Int)).toNat (some (crd L[t] (imin (L[t]).2.1 0)))) = _
        rw [set_map, Int.toNat_natCast]
  rw [fair_Ring_Next.l2]
  show (at? (L.map some) (t : Int)).bind _ = _
  rw [at_map ht, Option.bind_some, ready_eq hj, Option.bind_some, e3, hg]
  cases hs : stop L[t] o with
  | true =>
    simp only [if_true]
    cases hm : rdy L[t] with
    | none => rfl
    | some m => rfl
  | false =>
    simp only [Bool.false_eq_true, if_false, Option.bind_some]
    rw [e5, Option.bind_some]
    have := mv_eq (F := fair_Ring_Next.l2 k) (told := told) (h := h) (hO.upd t o) (t := t) (by rw [upd_len]; exact ht)
    rw [upd_len] at this
    exact this
/-- turns -/
inductive Steps (q : Int) : List Line → Nat → Bool → List Line → Nat → Bool → Prop
  | refl (L t o) : Steps q L t o L t o
  | step {L t o L' t' o'} : stop (L.getD t l0) o = false → Steps q (stepL q L t o) (nxt L.length t) true L' t' o' → Steps q L t o L' t' o'
/-- nobody but whose turn it is has something left -/
structure Inv (C : Int) (q : Int) (L : List Line) (t : Nat) (o : Bool) : Prop where
  ok : Ok q L
  ht : t < L.length
  oth : ∀ j, j ≠ t → (L.getD j l0).2.1 ≤ 0
  opn : o = false → (L.getD t l0).2.1 ≤ 0
  low : ∀ j, -C ≤ (L.getD j l0).2.1
  top : (L.getD t l0).2.1 ≤ q * (L.getD t l0).1
theorem stepL_get (q : Int) (L : List Line) (t : Nat) (o : Bool) (ht : t < L.length) (j : Nat) : (stepL q L t o).getD j l0 =
    if nxt L.length t = j ∧ (rdy (L.getD j l0)).isSome = true then crd (L.getD j l0) (((upd L t o).getD j l0).2.1 + q * (L.getD j l0).1) else (upd L t o).getD j l0 := by
  have hn := nxt_lt ht
  unfold stepL
  rw [bump_get, upd_len]
  by_cases e : nxt L.length t = j
  · subst e
    have hs := upd_same L t o (nxt L.length t)
    rw [hs.rdy]
    by_cases hr : (rdy (L.getD (nxt L.length t) l0)).isSome = true
    · rw [if_pos ⟨⟨rfl, hn⟩, hr⟩, if_pos ⟨rfl, hr⟩]
      unfold crd; rw [hs.1, hs.2.1, hs.2.2]
    · rw [if_neg (fun q => hr q.2), if_neg (fun q => hr q.2)]
  · rw [if_neg (fun q => e q.1.1), if_neg (fun q => e q.1)]
theorem upd_le0 {C q : Int} {L : List Line} {t : Nat} {o : Bool} (hI : Inv C q L t o) (hs : stop (L.getD t l0) o = false) (j : Nat) : ((upd L t o).getD j l0).2.1 ≤ 0 := by
  rw [upd_get]
  split
  · exact imin_le _
  · rename_i hn
    by_cases e : j = t
    · subst e
      cases o with
      | false => exact hI.opn rfl
      | true =>
        have ht := hI.ht
        unfold stop at hs
        cases hr : (rdy (L.getD j l0)).isSome with
        | false => exact absurd ⟨⟨rfl, ht⟩, by rw [hr]; rfl⟩ hn
        | true =>
          rw [hr] at hs
          simp only [Bool.true_and, decide_eq_false_iff_not] at hs; omega
    · exact hI.oth j e
theorem upd_ge {L : List Line} {t : Nat} {o : Bool} {C : Int} (hC : 0 ≤ C) {j : Nat} (h : -C ≤ (L.getD j l0).2.1) : -C ≤ ((upd L t o).getD j l0).2.1 := by
  rw [upd_get]; split
  · show -C ≤ imin _ 0
    unfold imin; split <;> omega
  · exact h
theorem Inv.step {C q : Int} {L : List Line} {t : Nat} {o : Bool} (hC : 0 ≤ C) (hC2 : C ≤ 1000000) (hI : Inv C q L t o) (hs : stop (L.getD t l0) o = false) : Inv C q (stepL q L t o) (nxt L.length t) true := by
  have ht := hI.ht
  have hn := nxt_lt ht
  have hle := upd_le0 hI hs
  have hge := fun j => upd_ge (t := t) (o := o) hC (hI.low j)
  have hq := hI.ok.q1
  have hq2 := hI.ok.q2
  have hw := fun j hj => hI.ok.wt j hj
  have hqw : ∀ j, j < L.length → 0 ≤ q * (L.getD j l0).1 ∧ q * (L.getD j l0).1 ≤ 65536 := fun j hj => by
    have := hw j hj
    have a : 0 ≤ q * (L.getD j l0).1 := Int.mul_nonneg (by omega) (by omega)
    have b : q * (L.getD j l0).1 ≤ 4096 * 16 := Int.mul_le_mul hq2 this.2 (by omega) (by omega)
    omega
  have hget := stepL_get q L t o ht
  have hcr : ∀ j, (j = nxt L.length t → ((stepL q L t o).getD j l0).2.1 ≤ q * (L.getD j l0).1) ∧ (j ≠ nxt L.length t → ((stepL q L t o).getD j l0).2.1 ≤ 0) ∧ -C ≤ ((stepL q L t o).getD j l0).2.1 := fun j => by
    rw [hget]
    by_cases e : nxt L.length t = j
    · subst e
      have h1 := hle (nxt L.length t)
      have h2 := hge (nxt L.length t)
      have h3 := hqw _ hn
      by_cases hr : (rdy (L.getD (nxt L.length t) l0)).isSome = true
      · rw [if_pos ⟨rfl, hr⟩]
        unfold crd
        refine ⟨fun _ => ?_, fun h => absurd rfl h, ?_⟩ <;> simp only [] <;> omega
      · rw [if_neg (fun q => hr q.2)]
        exact ⟨fun _ => by omega, fun h => absurd rfl h, h2⟩
    · rw [if_neg (fun q => e q.1)]
      exact ⟨fun h => absurd h.symm e, fun _ => hle j, hge j⟩
  refine ⟨⟨hq, hq2, by rw [stepL_len]; exact hI.ok.len, fun j => by rw [(stepL_same q L t o j).2.2]; exact hI.ok.jobs j, fun j hj => by rw [stepL_len] at hj; rw [(stepL_same q L t o j).1]; exact hw j hj, fun j => ?_⟩, by rw [stepL_len]; exact hn, fun j hj => (hcr j).2.1 hj, (fun h => by cases h), fun j => (hcr j).2.2, ?_⟩
  · have := (hcr j).2.2
    by_cases e : j = nxt L.length t
    · have h1 := (hcr j).1 e
      have h2 := hqw j (by rw [e]; exact hn)
      omega
    · have h1 := (hcr j).2.1 e
      omega
  · rw [(stepL_same q L t o _).1]; exact (hcr _).1 rfl
/-- how far it is to a tenant's next turn -/
def dd (n s t : Nat) : Nat := if t < s then s - t else n - (t - s)
theorem dd_step {n s t : Nat} (hs : s < n) (ht : t < n) : (nxt n t = s ∧ dd n s t = 1 ∧ dd n s (nxt n t) = n) ∨ (nxt n t ≠ s ∧ dd n s (nxt n t) + 1 = dd n s t) := by
  by_cases h1 : t + 1 = n
  · have e : nxt n t = 0 := by unfold nxt; rw [if_pos h1]
    rw [e]
    by_cases h2 : s = 0
    · left; subst h2; unfold dd
      refine ⟨rfl, ?_, ?_⟩
      · rw [if_neg (by omega)]; omega
      · rw [if_neg (by omega)]; omega
    · right; unfold dd
      refine ⟨fun h => h2 h.symm, ?_⟩
      rw [if_pos (show 0 < s by omega), if_neg (show ¬ t < s by omega)]; omega
  · have e : nxt n t = t + 1 := by unfold nxt; rw [if_neg h1]
    rw [e]
    by_cases h2 : t + 1 = s
    · left; unfold dd
      refine ⟨h2, ?_, ?_⟩
      · rw [if_pos (by omega)]; omega
      · rw [if_neg (by omega)]; omega
    · right; unfold dd
      refine ⟨h2, ?_⟩
      by_cases h3 : t < s
      · rw [if_pos (show t + 1 < s by omega), if_pos h3]; omega
      · rw [if_neg (show ¬ t + 1 < s by omega), if_neg h3]; omega
theorem Steps.len {q : Int} {L L' : List Line} {t t' : Nat} {o o' : Bool} (h : Steps q L t o L' t' o') : L'.length = L.length := by
  induction h with
  | refl => rfl
  | step _ _ ih => rw [ih, stepL_len]
theorem Steps.same {q : Int} {L L' : List Line} {t t' : Nat} {o o' : Bool} (h : Steps q L t o L' t' o') (j : Nat) : Fair.same (L.getD j l0) (L'.getD j l0) := by
  induction h with
  | refl => exact Fair.same.refl _
  | step _ _ ih => exact (stepL_same _ _ _ _ j).trans ih
/-- the loop comes to an end -/
theorem run {C q : Int} (hC : 0 ≤ C) (hC2 : C ≤ 1000000) {told : Int} {h : Bool} {s : Nat} : ∀ (μ k : Nat) (L : List Line) (t : Nat) (o : Bool), Inv C q L t o → s < L.length → (rdy (L.getD s l0)).isSome = true → (1 - (L.getD s l0).2.1).toNat * L.length + dd L.length s t ≤ μ → μ < k →
    ∃ L' t' o' m, Steps q L t o L' t' o' ∧ stop (L'.getD t' l0) o' = true ∧ Inv C q L' t' o' ∧ rdy (L'.getD t' l0) = some m ∧ fair_Ring_Next.l2 k (rg q L (t : Int) o told h) = some ((t' : Int), ((L'.getD t' l0).2.2.2.getD m (0, false)).1, true, rg q L' (t' : Int) o' ((L'.getD t' l0).2.2.2.getD m (0, false)).1 true) := by
  intro μ
  induction μ with
  | zero => intro k L t o hI hs hr hm hk
            have ht := hI.ht
            have : 1 ≤ dd L.length s t := by unfold dd; split <;> omega
            omega
  | succ μ ih =>
    intro k L t o hI hs hr hm hk
    have ht := hI.ht
    obtain ⟨k, rfl⟩ : ∃ k', k = k' + 1 := ⟨k - 1, by omega⟩
    rw [l2_step k hI.ok ht]
    cases hst : stop (L.getD t l0) o with
    | true =>
      rw [if_pos rfl]
      have hst' := hst
      unfold stop at hst'
      simp only [Bool.and_eq_true] at hst'
      cases hm2 : rdy (L.getD t l0) with
      | none => rw [hm2] at hst'; exact absurd hst'.2.1 (by simp)
      | some m => exact ⟨L, t, o, m, Steps.refl L t o, hst, hI, hm2, rfl⟩
    | false =>
      rw [if_neg (by simp)]
      have hI' := hI.step hC hC2 hst
      have hsr : rdy ((stepL q L t o).getD s l0) = rdy (L.getD s l0) := (stepL_same q L t o s).rdy
      have hle := upd_le0 hI hst s
      have hq := hI.ok.q1
      have hqw : 1 ≤ q * (L.getD s l0).1 := by
        have := (hI.ok.wt s hs).1
        have := Int.mul_le_mul hq this (by omega) (by omega)
        omega
      have hup : (upd L t o).getD s l0 = L.getD s l0 := by
        rw [upd_get, if_neg]
        rintro ⟨⟨e, _⟩, h2⟩
        rw [e, hr] at h2; simp at h2
      rw [hup] at hle
      have hcs : ((stepL q L t o).getD s l0).2.1 = if nxt L.length t = s then (L.getD s l0).2.1 + q * (L.getD s l0).1 else (L.getD s l0).2.1 := by
        rw [stepL_get q L t o ht, hup]
        by_cases e : nxt L.length t = s
        · rw [if_pos ⟨e, hr⟩, if_pos e]; rfl
        · rw [if_neg (fun q => e q.1), if_neg e]
      have hlt : (1 - ((stepL q L t o).getD s l0).2.1).toNat * (stepL q L t o).length + dd (stepL q L t o).length s (nxt L.length t) ≤ μ := by
        rw [stepL_len, hcs]
        rcases dd_step hs ht with ⟨e1, e2, e3⟩ | ⟨e1, e2⟩
        · rw [if_pos e1, e3]
          have h1 : (1 - ((L.getD s l0).2.1 + q * (L.getD s l0).1)).toNat + 1 ≤ (1 - (L.getD s l0).2.1).toNat := by omega
          have h2 := Nat.mul_le_mul_right L.length h1
          rw [Nat.add_mul, Nat.one_mul] at h2
          omega
        · rw [if_neg e1]; omega
      obtain ⟨L', t', o', m, s1, s2, s3, s4, s5⟩ := ih k (stepL q L t o) (nxt L.length t) true hI' (by rw [stepL_len]; exact hs) (by rw [hsr]; exact hr) hlt (by omega)
      exact ⟨L', t', o', m, Steps.step hst s1, s2, s3, s4, s5⟩
/-- is anybody ready? -/
theorem any_loop {q : Int} {L : List Line} {t : Int} {o : Bool} {told : Int} {h : Bool} (hS : Sm L) : ∀ (m k i : Nat), L.length - i = m → m < k → i ≤ L.length →
    ((∃ s, i ≤ s ∧ s < L.length ∧ (rdy (L.getD s l0)).isSome = true) ∧ ∃ j : Nat, fair_Ring_Next.l1 (rg q L t o told h) k (i : Int) = some (.inl (j : Int))) ∨ ((∀ s, i ≤ s → s < L.length → (rdy (L.getD s l0)).isSome = false) ∧ fair_Ring_Next.l1 (rg q L t o told h) k (i : Int) = some (.inr ())) := by
  intro m
  have hlen := hS.len
  induction m with
  | zero => intro k i hm hk hi; cases k with
    | zero => omega
    | succ k => right; refine ⟨fun s h1 h2 => by omega, ?_⟩; rw [fair_Ring_Next.l1, if_neg (by simp [rg]; omega)]
  | succ m ih => intro k i hm hk hi; cases k with
    | zero => omega
    | succ k =>
      have hil : i < L.length := by omega
      rw [fair_Ring_Next.l1, if_pos (by simp [rg]; omega)]
      show _ ∨ _ ∧ (at? (L.map some) (i : Int)).bind _ = _
      have e : (at? (L.map some) (i : Int)).bind (fun v9 => (fair_Ring_Next_1.f v9).bind fun r14 => if r14 = true then some (.inl (i : Int)) else fair_Ring_Next.l1 (rg q L t o told h) k (wi ((i : Int) + 1))) = if (rdy L[i]).isSome = true then some (.inl (i : Int)) else fair_Ring_Next.l1 (rg q L t o told h) k ((i + 1 : Nat) : Int) := by
        rw [at_map hil, Option.bind_some]
        unfold fair_Ring_Next_1.f
        rw [ready_eq (hS.jobs _ (List.getElem_mem hil)), Option.bind_some, Option.bind_some, ready_ge, wi1 (n := 0) (by omega)]
      have e' : ∀ X : Option (Sum Int Unit), ((at? (rg q L t o told h).2.1 (i : Int)).bind (fun v9 => (fair_Ring_Next_1.f v9).bind fun r14 => if r14 = true then some (.inl (i : Int)) else fair_Ring_Next.l1 (rg q L t o told h) k (wi ((i : Int) + 1))) = X) = ((if (rdy L[i]).isSome = true then some (.inl (i : Int)) else fair_Ring_Next.l1 (rg q L t o told h) k ((i + 1 : Nat) : Int)) = X) := fun X => by rw [← e]; rfl
      by_cases hr : (rdy L[i]).isSome = true
      · left
        refine ⟨⟨i, Nat.le_refl _, hil, by rw [getD_lt hil]; exact hr⟩, i, ?_⟩
        rw [e', if_pos hr]
      · rcases ih k (i + 1) (by omega) (by omega) (by omega) with ⟨⟨s, h1, h2, h3⟩, j, h4⟩ | ⟨h1, h2⟩
        · left; exact ⟨⟨s, by omega, h2, h3⟩, j, by rw [e', if_neg hr]; exact h4⟩
        · right
          refine ⟨fun s hs1 hs2 => ?_, by
            show (at? (L.map some) (i : Int)).bind _ = _
            exact (show _ = _ from e).trans (by rw [if_neg hr]; exact h2)⟩
          by_cases es : s = i
          · rw [es, getD_lt hil]; simpa using hr
          · exact h1 s (by omega) hs2
/-- Next: nobody is ready -/
theorem next_no {q : Int} {L : List Line} {t : Int} {o : Bool} {told : Int} {h : Bool} (hS : Sm L) (hn : ∀ s, s < L.length → (rdy (L.getD s l0)).isSome = false) : fair_Ring_Next.f (rg q L t o told h) = some (-1, -1, false, rg q L t o told h) := by
  unfold fair_Ring_Next.f fair_Ring_Next.j1 fair_Ring_Next.j2
  rcases any_loop (q := q) (t := t) (o := o) (told := told) (h := h) hS L.length FU 0 (by omega) (by have := hS.len; show L.length < 4611686018427387904; omega) (by omega) with ⟨⟨s, _, h2, h3⟩, _⟩ | ⟨_, h2⟩
  · rw [hn s h2] at h3; cases h3
  · rw [show ((0 : Nat) : Int) = 0 from rfl] at h2
    rw [h2]; rfl
/-- Next: somebody is -/
theorem next_yes {C q : Int} {L : List Line} {t : Nat} {o : Bool} {told : Int} {h : Bool} (hC : 0 ≤ C) (hC2 : C ≤ 1000000) (hI : Inv C q L t o) {s : Nat} (hs : s < L.length) (hr : (rdy (L.getD s l0)).isSome = true) :
    ∃ L' t' o' m, Steps q L t o L' t' o' ∧ stop (L'.getD t' l0) o' = true ∧ Inv C q L' t' o' ∧ rdy (L'.getD t' l0) = some m ∧ fair_Ring_Next.f (rg q L (t : Int) o told h) = some ((t' : Int), ((L'.getD t' l0).2.2.2.getD m (0, false)).1, true, rg q L' (t' : Int) o' ((L'.getD t' l0).2.2.2.getD m (0, false)).1 true) := by
  have hlen := hI.ok.len
  have hlow := hI.low s
  have hμ : (1 - (L.getD s l0).2.1).toNat * L.length + dd L.length s t ≤ 1000001 * 1000000 + 1000000 := by
    have h1 : (1 - (L.getD s l0).2.1).toNat ≤ 1000001 := by omega
    have h2 := Nat.mul_le_mul h1 hlen
    have h3 : dd L.length s t ≤ L.length := by unfold dd; split <;> omega
    omega
  obtain ⟨L', t', o', m, s1, s2, s3, s4, s5⟩ := run hC hC2 (told := told) (h := h) (s := s) _ FU L t o hI hs hr hμ (by show _ < 4611686018427387904; omega)
  refine ⟨L', t', o', m, s1, s2, s3, s4, ?_⟩
  unfold fair_Ring_Next.f fair_Ring_Next.j1 fair_Ring_Next.j2
  rcases any_loop (q := q) (t := (t : Int)) (o := o) (told := told) (h := h) hI.ok.sm L.length FU 0 (by omega) (by show L.length < 4611686018427387904; omega) (by omega) with ⟨_, j, h4⟩ | ⟨h1, _⟩
  · rw [show ((0 : Nat) : Int) = 0 from rfl] at h4
    rw [h4, Option.bind_some]
    simp only [Option.bind_some]
    rw [decide_eq_true (show (j : Int) ≥ 0 by omega)]
    simp only [Bool.not_true, Bool.false_eq_true, if_false]
    rw [s5]; rfl
  · rw [h1 s (by omega) hs] at hr; cases hr
end Fair
end Go.Proofs.Ytnffhpnlehcoiaa
