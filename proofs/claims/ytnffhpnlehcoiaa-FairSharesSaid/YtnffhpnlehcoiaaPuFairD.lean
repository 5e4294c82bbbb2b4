/-
  Tenants that are ready all the time spend by their weights, in plain words. No condition.
-/
import Derived.Test.YtnffhpnlehcoiaaPuFairB
import Derived.Test.YtnffhpnlehcoiaaGFairShares
namespace Go.Proofs.Ytnffhpnlehcoiaa
open Go Go.Gol
set_option linter.unusedVariables false
set_option linter.unusedSimpArgs false
set_option linter.unnecessarySimpa false
set_option maxRecDepth 100000
namespace FairS
open Fair
theorem first_f : colophonlaw23_first.f = some true := by decide +kernel
theorem tmod_eq {a b : Int} (ha : 0 ≤ a) : Int.tmod a b = a % b := Int.tmod_eq_emod_of_nonneg ha
/-- a tenant's two jobs, in either order -/
def two (t : Nat) (b : Bool) : List Job := if b then [(((2 * t : Nat) : Int), false), (((2 * t + 1 : Nat) : Int), false)] else [(((2 * t + 1 : Nat) : Int), false), (((2 * t : Nat) : Int), false)]
def hd (t : Nat) (b : Bool) : Int := if b then ((2 * t : Nat) : Int) else ((2 * t + 1 : Nat) : Int)
theorem two_rdy (t : Nat) (b : Bool) (w c s : Int) : rdy (w, c, s, two t b) = some 0 := by cases b <;> rfl
theorem two_hd (t : Nat) (b : Bool) : ((two t b).getD 0 (0, false)).1 = hd t b := by cases b <;> rfl
theorem two_fix (t : Nat) (b : Bool) : fix (has (hd t b)) (two t b) = some 0 := by
  cases b
  · show fix (has ((2 * t + 1 : Nat) : Int)) [_, _] = _
    unfold fix; rw [if_pos (by simp [has])]
  · show fix (has ((2 * t : Nat) : Int)) [_, _] = _
    unfold fix; rw [if_pos (by simp [has])]
theorem two_no {t u : Nat} (h : t ≠ u) (b b' : Bool) : fix (has (hd t b)) (two u b') = none := by
  cases hf : fix (has (hd t b)) (two u b') with
  | none => rfl
  | some m =>
    obtain ⟨j, h1, h2, _⟩ := fix_some hf
    have hm := List.mem_of_getElem? h1
    have hj : j.1 = ((2 * u : Nat) : Int) ∨ j.1 = ((2 * u + 1 : Nat) : Int) := by
      cases b' <;> simp [two] at hm <;> rcases hm with rfl | rfl <;> simp
    have hh : hd t b = ((2 * t : Nat) : Int) ∨ hd t b = ((2 * t + 1 : Nat) : Int) := by cases b <;> simp [hd]
    simp [has] at h2
    omega
theorem two_turn (t : Nat) (b : Bool) : ((two t b).take 0 ++ (two t b).drop 1) ++ [(two t b).getD 0 (0, false)] = two t (!b) := by cases b <;> rfl
/-- the lines: each tenant's two jobs are there; what it has left and has spent is what its turns gave -/
structure Sh (q : Int) (W : List Int) (L : List Line) (t : Nat) (o : Bool) (m : Int) : Prop where
  inv : Inv 2 q L t o
  len : L.length = W.length
  wt : ∀ j, j < W.length → (L.getD j l0).1 = W.getD j 0
  jobs : ∀ j, j < W.length → ∃ b, (L.getD j l0).2.2.2 = two j b
  sum : ∀ j, j < W.length → (L.getD j l0).2.2.1 + (L.getD j l0).2.1 = q * W.getD j 0 * (m + if j ≤ t then 1 else 0)
theorem Sh.rdy {q : Int} {W : List Int} {L : List Line} {t : Nat} {o : Bool} {m : Int} (h : Sh q W L t o m) {j : Nat} (hj : j < W.length) : rdy (L.getD j l0) = some 0 := by
  obtain ⟨b, e⟩ := h.jobs j hj
  have : L.getD j l0 = ((L.getD j l0).1, (L.getD j l0).2.1, (L.getD j l0).2.2.1, two j b) := by rw [← e]
  rw [this]; exact two_rdy _ _ _ _ _
theorem Sh.step {q : Int} {W : List Int} {L : List Line} {t : Nat} {o : Bool} {m : Int} (h : Sh q W L t o m) (hs : stop (L.getD t l0) o = false) : ∃ m', Sh q W (stepL q L t o) (nxt L.length t) true m' := by
  have ht := h.inv.ht
  have hlen := h.len
  have hn := nxt_lt ht
  have hI := h.inv.step (by omega) (by omega) hs
  have hup : ∀ j, j < W.length → (upd L t o).getD j l0 = L.getD j l0 := fun j hj => by
    rw [upd_get, if_neg]
    rintro ⟨⟨e, _⟩, h2⟩
    rw [e, h.rdy hj] at h2; simp at h2
  have hget : ∀ j, j < W.length → (stepL q L t o).getD j l0 = if nxt L.length t = j then crd (L.getD j l0) ((L.getD j l0).2.1 + q * (L.getD j l0).1) else L.getD j l0 := fun j hj => by
    rw [stepL_get q L t o ht, hup j hj, h.rdy hj]
    by_cases e : nxt L.length t = j
    · rw [if_pos ⟨e, rfl⟩, if_pos e]
    · rw [if_neg (fun q => e q.1), if_neg e]
  refine ⟨if t + 1 = L.length then m + 1 else m, hI, by rw [stepL_len]; exact hlen, fun j hj => ?_, fun j hj => ?_, fun j hj => ?_⟩
  · rw [(stepL_same q L t o j).1]; exact h.wt j hj
  · rw [(stepL_same q L t o j).2.2]; exact h.jobs j hj
  · rw [hget j hj]
    have hsum := h.sum j hj
    have hwt := h.wt j hj
    have hd : ∀ z : Int, q * W.getD j 0 * (z + 1) = q * W.getD j 0 * z + q * W.getD j 0 := fun z => by rw [Int.mul_add, Int.mul_one]
    by_cases e : nxt L.length t = j
    · rw [if_pos e]
      show (L.getD j l0).2.2.1 + ((L.getD j l0).2.1 + q * (L.getD j l0).1) = _
      rw [hwt, ← Int.add_assoc, hsum]
      unfold nxt at e ⊢
      by_cases h1 : t + 1 = L.length
      · rw [if_pos h1] at e ⊢
        rw [if_pos h1, if_pos (by omega), if_pos (by omega), hd]
        exact (hd (m + 1)).symm ▸ by rw [hd]
      · rw [if_neg h1] at e ⊢
        rw [if_neg h1, if_neg (by omega), if_pos (by omega), Int.add_zero, hd]
    · rw [if_neg e, hsum]
      unfold nxt at e ⊢
      by_cases h1 : t + 1 = L.length
      · rw [if_pos h1] at e ⊢
        rw [if_pos h1, if_pos (by omega), if_neg (by omega), Int.add_zero]
      · rw [if_neg h1] at e ⊢
        rw [if_neg h1]
        by_cases h2 : j ≤ t
        · rw [if_pos h2, if_pos (by omega)]
        · rw [if_neg h2, if_neg (by omega)]
theorem Sh.steps {q : Int} {W : List Int} {L L' : List Line} {t t' : Nat} {o o' : Bool} (hst : Fair.Steps q L t o L' t' o') : ∀ {m : Int}, Sh q W L t o m → ∃ m', Sh q W L' t' o' m' := by
  induction hst with
  | refl => intro m h; exact ⟨m, h⟩
  | step h1 _ ih => intro m h; obtain ⟨m', h'⟩ := h.step h1; exact ih h'
theorem find_at {L : List Line} {p : Job → Bool} : ∀ {t i : Nat}, t < L.length → fix p (L.getD t l0).2.2.2 = some i → (∀ s, s < t → fix p (L.getD s l0).2.2.2 = none) → find p L = some (t, i) := by
  induction L with
  | nil => intro t i ht; simp at ht
  | cons l L ih =>
    intro t i ht h1 h2
    unfold find
    cases t with
    | zero => rw [show (List.getD (l :: L) 0 l0) = l from rfl] at h1; rw [h1]
    | succ t =>
      have h0 := h2 0 (by omega)
      rw [show (List.getD (l :: L) 0 l0) = l from rfl] at h0
      rw [h0]
      simp only []
      rw [ih (t := t) (i := i) (by simpa using ht) (by simpa using h1) (fun s hs => by have := h2 (s + 1) (by omega); simpa using this)]; rfl
/-- a turn is charged -/
theorem Sh.charge {q : Int} {W : List Int} {L : List Line} {t : Nat} {o : Bool} {m : Int} (h : Sh q W L t o m) (hs : stop (L.getD t l0) o = true) {c : Int} (hc : 0 ≤ c) (hc3 : c ≤ 3) :
    find (has (((L.getD t l0).2.2.2.getD 0 (0, false)).1)) L = some (t, 0) ∧ Sh q W (L.set t (chargeJ (L.getD t l0) 0 c)) t o m := by
  have ht := h.inv.ht
  have hlen := h.len
  obtain ⟨b, hb⟩ := h.jobs t (by omega)
  unfold stop at hs
  simp only [Bool.and_eq_true, decide_eq_true_eq] at hs
  obtain ⟨ho, _, hpos⟩ := hs
  have hget : ∀ j, (L.set t (chargeJ (L.getD t l0) 0 c)).getD j l0 = if t = j then chargeJ (L.getD t l0) 0 c else L.getD j l0 := fun j => by
    rw [getD_set]
    by_cases e : t = j
    · rw [if_pos ⟨e, e ▸ ht⟩, if_pos e]
    · rw [if_neg (fun q => e q.1), if_neg e]
  have hjob : (chargeJ (L.getD t l0) 0 c).2.2.2 = two t (!b) := by
    show ((L.getD t l0).2.2.2.take 0 ++ (L.getD t l0).2.2.2.drop (0 + 1)) ++ [(L.getD t l0).2.2.2.getD 0 (0, false)] = _
    rw [hb]; exact two_turn t b
  refine ⟨?_, ⟨⟨h.inv.ok.q1, h.inv.ok.q2, by rw [List.length_set]; exact h.inv.ok.len, fun j => ?_, fun j hj => ?_, fun j => ?_⟩, by rw [List.length_set]; exact ht, fun j hj => ?_, fun h' => ?_, fun j => ?_, ?_⟩, by rw [List.length_set]; exact hlen, fun j hj => ?_, fun j hj => ?_, fun j hj => ?_⟩
  · rw [hb, two_hd]
    refine find_at ht (by rw [hb]; exact two_fix t b) (fun s hs => ?_)
    obtain ⟨b', hb'⟩ := h.jobs s (by omega)
    rw [hb']; exact two_no (by omega) _ _
  · rw [hget]; split
    · rw [hjob]; cases b <;> simp [two]
    · exact h.inv.ok.jobs j
  · rw [List.length_set] at hj
    rw [hget]; split
    · exact h.inv.ok.wt t ht
    · exact h.inv.ok.wt j hj
  · have := h.inv.ok.cr j
    have h2 := h.inv.ok.cr t
    rw [hget]; split
    · show -1000000 ≤ (L.getD t l0).2.1 - c ∧ (L.getD t l0).2.1 - c ≤ 65536; omega
    · exact this
  · rw [hget, if_neg (fun e => hj e.symm)]; exact h.inv.oth j hj
  · rw [ho] at h'; cases h'
  · rw [hget]; split
    · show -2 ≤ (L.getD t l0).2.1 - c; omega
    · exact h.inv.low j
  · rw [hget, if_pos rfl]
    show (L.getD t l0).2.1 - c ≤ q * (L.getD t l0).1
    have := h.inv.top; omega
  · rw [hget]; split
    · rename_i e; subst e; exact h.wt t hj
    · exact h.wt j hj
  · rw [hget]; split
    · rename_i e; subst e; exact ⟨_, hjob⟩
    · exact h.jobs j hj
  · rw [hget]; split
    · rename_i e; subst e
      show (L.getD t l0).2.2.1 + c + ((L.getD t l0).2.1 - c) = _
      rw [← h.sum t hj]; omega
    · exact h.sum j hj
/-- the difference of two, each by the other's weight, stays between two bounds -/
theorem Sh.diff {q : Int} {W : List Int} (hW : ∀ j, j < W.length → 1 ≤ W.getD j 0 ∧ W.getD j 0 ≤ 16) {L : List Line} {t : Nat} {o : Bool} {m : Int} (h : Sh q W L t o m) {a b : Nat} (hab : b < a) (ha : a < W.length) :
    -(q * (W.getD a 0 * W.getD b 0)) - 2 * W.getD a 0 ≤ (L.getD a l0).2.2.1 * W.getD b 0 - (L.getD b l0).2.2.1 * W.getD a 0 ∧ (L.getD a l0).2.2.1 * W.getD b 0 - (L.getD b l0).2.2.1 * W.getD a 0 ≤ 2 * W.getD b 0 := by
  have sa := h.sum a ha
  have sb := h.sum b (by omega)
  have wa := hW a ha
  have wb := hW b (by omega)
  have la := h.inv.low a
  have lb := h.inv.low b
  have ta : a = t → (L.getD a l0).2.1 ≤ q * W.getD a 0 := fun e => by have := h.inv.top; rw [← e, h.wt a ha] at this; exact this
  have tb : b = t → (L.getD b l0).2.1 ≤ q * W.getD b 0 := fun e => by have := h.inv.top; rw [← e, h.wt b (by omega)] at this; exact this
  have oa : a ≠ t → (L.getD a l0).2.1 ≤ 0 := h.inv.oth a
  have ob : b ≠ t → (L.getD b l0).2.1 ≤ 0 := h.inv.oth b
  generalize W.getD a 0 = A at *
  generalize W.getD b 0 = B at *
  generalize (L.getD a l0).2.1 = ca at *
  generalize (L.getD b l0).2.1 = cb at *
  generalize (L.getD a l0).2.2.1 = sA at *
  generalize (L.getD b l0).2.2.1 = sB at *
  have q1 := h.inv.ok.q1
  -- by the turns that each has had
  have eA : sA = q * A * (m + if a ≤ t then 1 else 0) - ca := by omega
  have eB : sB = q * B * (m + if b ≤ t then 1 else 0) - cb := by omega
  have hd : sA * B - sB * A = q * (A * B) * ((if a ≤ t then (1 : Int) else 0) - (if b ≤ t then 1 else 0)) - ca * B + cb * A := by
    rw [eA, eB, Int.sub_mul, Int.sub_mul]
    generalize (if a ≤ t then (1 : Int) else 0) = ea
    generalize (if b ≤ t then (1 : Int) else 0) = eb
    have x1 : q * A * (m + ea) * B = q * (A * B) * (m + ea) := by ac_rfl
    have x2 : q * B * (m + eb) * A = q * (A * B) * (m + eb) := by ac_rfl
    have x3 : q * (A * B) * (ea - eb) = q * (A * B) * (m + ea) - q * (A * B) * (m + eb) := by rw [← Int.mul_sub]; congr 1; omega
    rw [x1, x2, x3]; omega
  rw [hd]
  have hP : 0 ≤ q * (A * B) := Int.mul_nonneg (by omega) (Int.mul_nonneg (by omega) (by omega))
  have hcaB : -2 * B ≤ ca * B := Int.mul_le_mul_of_nonneg_right la (by omega)
  have hcbA : -2 * A ≤ cb * A := Int.mul_le_mul_of_nonneg_right lb (by omega)
  by_cases h1 : a ≤ t
  · rw [if_pos h1, if_pos (by omega)]
    have hb0 : cb * A ≤ 0 := Int.mul_nonpos_of_nonpos_of_nonneg (ob (by omega)) (by omega)
    have hca2 : ca * B ≤ q * (A * B) := by
      by_cases e : a = t
      · have := Int.mul_le_mul_of_nonneg_right (ta e) (show 0 ≤ B by omega)
        rw [show q * A * B = q * (A * B) by ac_rfl] at this; exact this
      · have := Int.mul_nonpos_of_nonpos_of_nonneg (oa e) (show 0 ≤ B by omega); omega
    constructor <;> (simp only [Int.sub_self, Int.mul_zero]; omega)
  · rw [if_neg h1]
    have ha0 : ca * B ≤ 0 := Int.mul_nonpos_of_nonpos_of_nonneg (oa (by omega)) (by omega)
    by_cases h2 : b ≤ t
    · rw [if_pos h2]
      have hcb2 : cb * A ≤ q * (A * B) := by
        by_cases e : b = t
        · have := Int.mul_le_mul_of_nonneg_right (tb e) (show 0 ≤ A by omega)
          rw [show q * B * A = q * (A * B) by ac_rfl] at this; exact this
        · have := Int.mul_nonpos_of_nonpos_of_nonneg (ob e) (show 0 ≤ A by omega); omega
      have e1 : q * (A * B) * (0 - 1) = -(q * (A * B)) := by rw [show (0 : Int) - 1 = -1 from rfl, Int.mul_neg, Int.mul_one]
      rw [e1]
      constructor <;> omega
    · rw [if_neg h2]
      have hb0 : cb * A ≤ 0 := Int.mul_nonpos_of_nonpos_of_nonneg (ob (by omega)) (by omega)
      constructor <;> (simp only [Int.sub_self, Int.mul_zero]; omega)
/-- what was the least and the most until now -/
structure LH (q : Int) (W : List Int) (low high : List Int) : Prop where
  l1 : low.length = 64
  l2 : high.length = 64
  bd : ∀ a b, b < a → a < W.length → (-(q * (W.getD a 0 * W.getD b 0)) - 2 * W.getD a 0 ≤ low.getD (a * 8 + b) 0 ∧ low.getD (a * 8 + b) 0 ≤ 0) ∧ (0 ≤ high.getD (a * 8 + b) 0 ∧ high.getD (a * 8 + b) 0 ≤ 2 * W.getD b 0)
theorem at_d {l : List Int} {i : Nat} (h : i < l.length) : at? l (i : Int) = some (l.getD i 0) := by
  rw [at?_nat, List.getElem?_eq_getElem h]; simp [List.getD_eq_getElem?_getD, List.getElem?_eq_getElem h]
theorem getD_set_i {l : List Int} {i j : Nat} {x : Int} : (l.set i x).getD j 0 = if i = j ∧ j < l.length then x else l.getD j 0 := by
  simp only [List.getD_eq_getElem?_getD, List.getElem?_set]
  by_cases h : i = j
  · subst h
    by_cases h2 : i < l.length
    · simp [h2]
    · simp [h2]
  · simp [h]
theorem prod_le {A B : Int} (hA : 1 ≤ A ∧ A ≤ 16) (hB : 1 ≤ B ∧ B ≤ 16) : A ≤ A * B ∧ B ≤ A * B ∧ A * B ≤ 256 := by
  have h1 := Int.mul_le_mul_of_nonneg_left hB.1 (show 0 ≤ A by omega)
  have h2 := Int.mul_le_mul_of_nonneg_right hA.1 (show 0 ≤ B by omega)
  have h3 := Int.mul_le_mul hA.2 hB.2 (by omega) (by omega)
  omega
theorem check_b {a0 q : Int} {W : List Int} (hq : wi (1 + wi (Int.tmod (IntKind.wrap .u64 a0) 40)) = q) (hq2 : 1 ≤ q ∧ q ≤ 40) (hW8 : W.length ≤ 8) (hW : ∀ j, j < W.length → 1 ≤ W.getD j 0 ∧ W.getD j 0 ≤ 16) {L : List Line} {t : Nat} {o : Bool} {m : Int} {told : Int} {h : Bool} (hS : Sh q W L t o m) (hsp : ∀ j, 0 ≤ (L.getD j l0).2.2.1 ∧ (L.getD j l0).2.2.1 ≤ 6000) {a : Nat} (ha : a < W.length) :
    ∀ (μ k b : Nat) (low high : List Int), a - b = μ → μ < k → b ≤ a → LH q W low high → ∃ low' high', colophonlaw23_FairShares.l5 a0 W (false, rg q L (t : Int) o told h) (a : Int) k (b : Int) low high = some (.inr (low', high')) ∧ LH q W low' high' := by
  intro μ
  have hlen := hS.len
  induction μ with
  | zero => intro k b low high hm hk hb hL; cases k with
    | zero => omega
    | succ k => rw [colophonlaw23_FairShares.l5, if_neg (by rw [decide_eq_true_eq]; omega)]; exact ⟨_, _, rfl, hL⟩
  | succ μ ih => intro k b low high hm hk hb hL; cases k with
    | zero => omega
    | succ k =>
      have hba : b < a := by omega
      obtain ⟨⟨b1, b2⟩, b3, b4⟩ := hL.bd a b hba ha
      have hwa := hW a ha
      have hwb := hW b (by omega)
      have hdf := hS.diff hW hba ha
      have hsa := hsp a
      have hsb := hsp b
      have hpab := prod_le hwa hwb
      have hix : ((a : Int) * 8 + (b : Int)) = ((a * 8 + b : Nat) : Int) := by push_cast; rfl
      have hlt : a * 8 + b < 64 := by omega
      have ck1 : chk? (decide (0 ≤ (a : Int)) && decide ((a : Int) < 8)) = some () := chk?_eq (by simp; omega)
      have ck2 : chk? (decide (0 ≤ (b : Int)) && decide ((b : Int) < 8)) = some () := chk?_eq (by simp; omega)
      have sa : fair_Ring_Spent.f (some (rg q L (t : Int) o told h)) (a : Int) = some (L.getD a l0).2.2.1 := by rw [spent_eq (by omega), getD_lt (by omega)]
      have sb : fair_Ring_Spent.f (some (rg q L (t : Int) o told h)) (b : Int) = some (L.getD b l0).2.2.1 := by rw [spent_eq (by omega), getD_lt (by omega)]
      rw [colophonlaw23_FairShares.l5, if_pos (by rw [decide_eq_true_eq]; omega), at_d (by omega), Option.bind_some, at_d ha, Option.bind_some]
      generalize hA : W.getD a 0 = A at *
      generalize hB : W.getD b 0 = B at *
      generalize hSa : (L.getD a l0).2.2.1 = Sa at *
      generalize hSb : (L.getD b l0).2.2.1 = Sb at *
      have q0 : 0 ≤ q * (A * B) := Int.mul_nonneg (by omega) (by omega)
      have q1 : q * (A * B) ≤ 40 * 256 := Int.mul_le_mul hq2.2 hpab.2.2 (by omega) (by omega)
      have p1 : Sa * B ≤ 6000 * 16 := Int.mul_le_mul hsa.2 hwb.2 (by omega) (by omega)
      have p2 : 0 ≤ Sa * B := Int.mul_nonneg hsa.1 (by omega)
      have p3 : Sb * A ≤ 6000 * 16 := Int.mul_le_mul hsb.2 hwa.2 (by omega) (by omega)
      have p4 : 0 ≤ Sb * A := Int.mul_nonneg hsb.1 (by omega)
      have hd : wi (wi (Sa * B) - wi (Sb * A)) = Sa * B - Sb * A := by rw [wi_eq (n := Sa * B) (by omega) (by omega), wi_eq (n := Sb * A) (by omega) (by omega), wi_eq (by omega) (by omega)]
      generalize hdd : Sa * B - Sb * A = D at *
      have i1 : imin (low.getD (a * 8 + b) 0) D ≤ 0 ∧ -(q * (A * B)) - 2 * A ≤ imin (low.getD (a * 8 + b) 0) D := by unfold imin; split <;> omega
      have i2 : 0 ≤ imax (high.getD (a * 8 + b) 0) D ∧ imax (high.getD (a * 8 + b) 0) D ≤ 2 * B := by unfold imax; split <;> omega
      have e1 : at? low ((a * 8 + b : Nat) : Int) = some (low.getD (a * 8 + b) 0) := at_d (by rw [hL.l1]; exact hlt)
      have e2 : at? high ((a * 8 + b : Nat) : Int) = some (high.getD (a * 8 + b) 0) := at_d (by rw [hL.l2]; exact hlt)
      have e3 : ∀ x, set? low ((a * 8 + b : Nat) : Int) x = some (low.set (a * 8 + b) x) := fun x => set?_nat x (by rw [hL.l1]; exact hlt)
      have e4 : ∀ x, set? high ((a * 8 + b : Nat) : Int) x = some (high.set (a * 8 + b) x) := fun x => set?_nat x (by rw [hL.l2]; exact hlt)
      have e5 : ∀ x, at? (high.set (a * 8 + b) x) ((a * 8 + b : Nat) : Int) = some x := fun x => by rw [at_d (by rw [List.length_set, hL.l2]; exact hlt), getD_set_i, if_pos ⟨rfl, by rw [hL.l2]; exact hlt⟩]
      have e6 : ∀ x, at? (low.set (a * 8 + b) x) ((a * 8 + b : Nat) : Int) = some x := fun x => by rw [at_d (by rw [List.length_set, hL.l1]; exact hlt), getD_set_i, if_pos ⟨rfl, by rw [hL.l1]; exact hlt⟩]
      have hlim : wi (wi (wi (wi (1 + wi (Int.tmod (IntKind.wrap .u64 a0) 40)) + 6) * A) * B) = (q + 6) * A * B := by
        have r1 : (q + 6) * A ≤ 46 * 16 := Int.mul_le_mul (by omega) hwa.2 (by omega) (by omega)
        have r2 : 0 ≤ (q + 6) * A := Int.mul_nonneg (by omega) (by omega)
        have r3 : (q + 6) * A * B ≤ 46 * 16 * 16 := Int.mul_le_mul r1 hwb.2 (by omega) (by omega)
        have r4 : 0 ≤ (q + 6) * A * B := Int.mul_nonneg r2 (by omega)
        rw [hq, wi_eq (n := q + 6) (by omega) (by omega), wi_eq (n := (q + 6) * A) (by omega) (by omega), wi_eq (by omega) (by omega)]
      have hlim2 : (q + 6) * A * B = q * (A * B) + 6 * (A * B) := by rw [Int.mul_assoc, Int.add_mul]
      simp only [sa, sb, Option.bind_some, ck1, ck2, hix, e1, e2, e3, e4, e5, e6, hd, hlim]
      rw [wi_eq (n := imax _ _ - imin _ _) (by omega) (by omega), if_neg (by rw [decide_eq_true_eq, hlim2]; omega), wi_eq (by omega) (by omega), show ((b : Int) + 1) = ((b + 1 : Nat) : Int) by omega]
      refine ih k (b + 1) _ _ (by omega) (by omega) (by omega) ⟨by rw [List.length_set]; exact hL.l1, by rw [List.length_set]; exact hL.l2, fun a' b' hb' ha' => ?_⟩
      rw [getD_set_i, getD_set_i]
      by_cases e : a * 8 + b = a' * 8 + b'
      · have ea : a = a' := by omega
        have eb : b = b' := by omega
        subst ea; subst eb
        rw [if_pos ⟨rfl, by rw [hL.l1]; exact hlt⟩, if_pos ⟨rfl, by rw [hL.l2]; exact hlt⟩, hA, hB]
        omega
      · rw [if_neg (fun h => e h.1), if_neg (fun h => e h.1)]
        exact hL.bd a' b' hb' ha'
theorem check_a {a0 q : Int} {W : List Int} (hq : wi (1 + wi (Int.tmod (IntKind.wrap .u64 a0) 40)) = q) (hq2 : 1 ≤ q ∧ q ≤ 40) (hW8 : W.length ≤ 8) (hW : ∀ j, j < W.length → 1 ≤ W.getD j 0 ∧ W.getD j 0 ≤ 16) {L : List Line} {t : Nat} {o : Bool} {m : Int} {told : Int} {h : Bool} (hS : Sh q W L t o m) (hsp : ∀ j, 0 ≤ (L.getD j l0).2.2.1 ∧ (L.getD j l0).2.2.1 ≤ 6000) :
    ∀ (μ k a : Nat) (low high : List Int), W.length - a = μ → μ < k → a ≤ W.length → LH q W low high → ∃ low' high', colophonlaw23_FairShares.l4 a0 W (false, rg q L (t : Int) o told h) k (a : Int) low high = some (.inr (low', high')) ∧ LH q W low' high' := by
  intro μ
  induction μ with
  | zero => intro k a low high hm hk ha hL; cases k with
    | zero => omega
    | succ k => rw [colophonlaw23_FairShares.l4, if_neg (by rw [decide_eq_true_eq]; omega)]; exact ⟨_, _, rfl, hL⟩
  | succ μ ih => intro k a low high hm hk ha hL; cases k with
    | zero => omega
    | succ k =>
      obtain ⟨low', high', e, hL'⟩ := check_b hq hq2 hW8 hW hS hsp (told := told) (h := h) (show a < W.length by omega) a FU 0 low high (by omega) (by show a < 4611686018427387904; omega) (by omega) hL
      rw [show ((0 : Nat) : Int) = 0 from rfl] at e
      rw [colophonlaw23_FairShares.l4, if_pos (by rw [decide_eq_true_eq]; omega), e, Option.bind_some]
      simp only []
      rw [wi_eq (by omega) (by omega), show ((a : Int) + 1) = ((a + 1 : Nat) : Int) by omega]
      exact ih k (a + 1) low' high' (by omega) (by omega) (by omega) hL'
theorem main_loop {a0 q : Int} {W : List Int} {costs : List Int} (hcs : ∀ c ∈ costs, 0 ≤ c ∧ c ≤ 255) (hq : wi (1 + wi (Int.tmod (IntKind.wrap .u64 a0) 40)) = q) (hq2 : 1 ≤ q ∧ q ≤ 40) (hW1 : 1 ≤ W.length) (hW8 : W.length ≤ 8) (hW : ∀ j, j < W.length → 1 ≤ W.getD j 0 ∧ W.getD j 0 ≤ 16) :
    ∀ (μ k i : Nat) (L : List Line) (t : Nat) (o : Bool) (m told : Int) (low high : List Int), 2000 - i = μ → μ < k → i ≤ 2000 → Sh q W L t o m → (∀ j, 0 ≤ (L.getD j l0).2.2.1 ∧ (L.getD j l0).2.2.1 ≤ 3 * i) → LH q W low high →
    ∃ z, colophonlaw23_FairShares.l3 a0 costs W k (i : Int) (rg q L (t : Int) o told false) low high = some (.inr z) := by
  intro μ
  induction μ with
  | zero => intro k i L t o m told low high hm hk hi hS hsp hL; cases k with
    | zero => omega
    | succ k => rw [colophonlaw23_FairShares.l3, if_neg (by rw [decide_eq_true_eq]; omega)]; exact ⟨_, rfl⟩
  | succ μ ih => intro k i L t o m told low high hm hk hi hS hsp hL; cases k with
    | zero => omega
    | succ k =>
      have hlen := hS.len
      rw [colophonlaw23_FairShares.l3, if_pos (by rw [decide_eq_true_eq]; omega)]
      obtain ⟨L', t', o', m', s1, s2, s3, s4, s5⟩ := next_yes (told := told) (h := false) (by omega) (by omega) hS.inv (s := 0) (by omega) (by rw [hS.rdy (by omega)]; rfl)
      obtain ⟨mm, hS'⟩ := Sh.steps s1 hS
      have ht' := hS'.inv.ht
      have hlen' := hS'.len
      rw [hS'.rdy (by omega)] at s4
      obtain rfl : 0 = m' := by simpa using s4
      rw [s5, Option.bind_some]
      -- what it costs
      have hj2 : ∃ c, colophonlaw23_FairShares.j2 costs (i : Int) = some c ∧ 0 ≤ c ∧ c ≤ 3 := by
        unfold colophonlaw23_FairShares.j2
        by_cases hil : i < costs.length
        · rw [if_pos (by rw [decide_eq_true_eq]; omega), at?_nat, List.getElem?_eq_getElem hil, Option.bind_some]
          have := hcs _ (List.getElem_mem hil)
          rw [tmod_eq this.1, wi_eq (by omega) (by omega)]
          exact ⟨_, rfl, by omega, by omega⟩
        · rw [if_neg (by rw [decide_eq_true_eq]; omega)]
          have h1 : (i : Int) * (i : Int) ≤ 2000 * 2000 := Int.mul_le_mul (by omega) (by omega) (by omega) (by omega)
          have h2 : 0 ≤ (i : Int) * (i : Int) := Int.mul_nonneg (by omega) (by omega)
          rw [wi_eq (by omega) (by omega), tmod_eq h2]
          exact ⟨_, rfl, by omega, by omega⟩
      obtain ⟨c, hc1, hc2, hc3⟩ := hj2
      rw [hc1, Option.bind_some]
      obtain ⟨hf, hS2⟩ := hS'.charge s2 hc2 hc3
      have hsp' : ∀ j, 0 ≤ (L'.getD j l0).2.2.1 ∧ (L'.getD j l0).2.2.1 ≤ 3 * i := fun j => by rw [(Steps.same s1 j).2.1]; exact hsp j
      have hch := charge_eq (q := q) (L := L') (t := (t' : Int)) (o := o') (c := c) hS'.inv.ok.sm hc2 hc3 hf (fun l hl => by
        obtain ⟨j, hj, rfl⟩ := List.getElem_of_mem hl
        have h1 := hS'.inv.ok.cr j
        have h2 := hsp' j
        rw [getD_lt hj] at h1 h2
        omega)
      replace hch : fair_Ring_Charge.f (rg q L' (t' : Int) o' ((L'.getD t' l0).2.2.2.getD 0 (0, false)).1 true) c = some (true, rg q (L'.set t' (chargeJ (L'.getD t' l0) 0 c)) (t' : Int) o' ((L'.getD t' l0).2.2.2.getD 0 (0, false)).1 false) := hch
      unfold colophonlaw23_FairShares.j3
      simp only [Bool.not_true, Bool.false_eq_true, if_false]
      rw [hch, Option.bind_some, Option.bind_some]
      simp only [Bool.not_true, Bool.false_eq_true, if_false]
      have hsp2 : ∀ j, 0 ≤ ((L'.set t' (chargeJ (L'.getD t' l0) 0 c)).getD j l0).2.2.1 ∧ ((L'.set t' (chargeJ (L'.getD t' l0) 0 c)).getD j l0).2.2.1 ≤ 3 * ((i + 1 : Nat) : Int) := fun j => by
        rw [getD_set]
        split
        · have := hsp' t'
          show 0 ≤ (L'.getD t' l0).2.2.1 + c ∧ (L'.getD t' l0).2.2.1 + c ≤ _
          omega
        · have := hsp' j; omega
      obtain ⟨low', high', e4, hL'⟩ := check_a hq hq2 hW8 hW hS2 (fun j => by have := hsp2 j; omega) (told := ((L'.getD t' l0).2.2.2.getD 0 (0, false)).1) (h := false) W.length FU 0 low high (by omega) (by show W.length < 4611686018427387904; omega) (by omega) hL
      rw [show ((0 : Nat) : Int) = 0 from rfl] at e4
      rw [e4, Option.bind_some]
      simp only []
      rw [wi_eq (by omega) (by omega), show ((i : Int) + 1) = ((i + 1 : Nat) : Int) by omega]
      exact ih k (i + 1) _ t' o' mm _ low' high' (by omega) (by omega) (by omega) hS2 hsp2 hL'
/-- the weights -/
theorem weights (l : List Int) (hl : ∀ c ∈ l, 0 ≤ c ∧ c ≤ 255) (hll : l.length < 4611686018427387904) : ∀ (μ k i : Nat) (W : List Int), l.length - i = μ → μ < k → i ≤ l.length → W = ((l.take (min i 8)).map fun x => 1 + x % 16) → colophonlaw23_FairShares.l1 l k W (i : Int) = some ((l.take 8).map fun x => 1 + x % 16) := by
  intro μ
  induction μ with
  | zero => intro k i W hm hk hi hW; cases k with
    | zero => omega
    | succ k =>
      rw [colophonlaw23_FairShares.l1, if_neg (by rw [decide_eq_true_eq]; omega), hW]
      congr 2
      by_cases h : i ≤ 8
      · rw [Nat.min_eq_left h, List.take_of_length_le (by omega), List.take_of_length_le (by omega)]
      · rw [Nat.min_eq_right (by omega)]
  | succ μ ih => intro k i W hm hk hi hW; cases k with
    | zero => omega
    | succ k =>
      have hil : i < l.length := by omega
      have hc := hl _ (List.getElem_mem hil)
      rw [colophonlaw23_FairShares.l1, if_pos (by rw [decide_eq_true_eq]; omega), at?_nat, List.getElem?_eq_getElem hil, Option.bind_some]
      by_cases h : i < 8
      · rw [if_pos (by rw [decide_eq_true_eq]; omega), tmod_eq hc.1, wi_eq (n := l[i] % 16) (by omega) (by omega), wi_eq (n := 1 + _) (by omega) (by omega), app?_eq (by rw [hW]; simp; omega), Option.bind_some, wi_eq (by omega) (by omega), show ((i : Int) + 1) = ((i + 1 : Nat) : Int) by omega]
        refine ih k (i + 1) _ (by omega) (by omega) (by omega) ?_
        rw [hW, Nat.min_eq_left (by omega), Nat.min_eq_left (by omega), List.take_add_one, List.getElem?_eq_getElem hil]
        simp only [Option.toList_some, List.map_append, List.map_cons, List.map_nil]
      · rw [if_neg (by rw [decide_eq_true_eq]; omega), wi_eq (by omega) (by omega), show ((i : Int) + 1) = ((i + 1 : Nat) : Int) by omega]
        refine ih k (i + 1) _ (by omega) (by omega) (by omega) ?_
        rw [hW, Nat.min_eq_right (by omega), Nat.min_eq_right (by omega)]
/-- the lines while the jobs come in -/
def lin (W : List Int) (i : Nat) : List Line := (List.range W.length).map fun j => (W.getD j 0, 0, 0, if j < i then two j true else [])
theorem lin_len (W : List Int) (i : Nat) : (lin W i).length = W.length := by simp [lin]
theorem lin_get {W : List Int} {i j : Nat} (h : j < W.length) : (lin W i)[j]? = some (W.getD j 0, 0, 0, if j < i then two j true else []) := by
  unfold lin; rw [List.getElem?_map, List.getElem?_range h]; rfl
theorem find_no {L : List Line} {p : Job → Bool} (h : ∀ l ∈ L, fix p l.2.2.2 = none) : find p L = none := by
  induction L with
  | nil => rfl
  | cons l L ih => unfold find; rw [h l List.mem_cons_self]; simp only []; rw [ih (fun l hl => h l (List.mem_cons_of_mem _ hl))]; rfl
theorem fix_no {p : Job → Bool} {l : List Job} (h : ∀ j ∈ l, p j = false) : fix p l = none := by
  induction l with
  | nil => rfl
  | cons a l ih => unfold fix; rw [if_neg (by rw [h a List.mem_cons_self]; simp), ih (fun j hj => h j (List.mem_cons_of_mem _ hj))]; rfl
theorem adds (costs W : List Int) (hW : W.length ≤ 8) {q : Int} {t : Int} : ∀ (μ k i : Nat), W.length - i = μ → μ < k → i ≤ W.length → colophonlaw23_FairShares.l2 costs W k (i : Int) (rg q (lin W i) t false 0 false) = some (rg q (lin W W.length) t false 0 false) := by
  intro μ
  induction μ with
  | zero => intro k i hm hk hi; cases k with
    | zero => omega
    | succ k =>
      have e : i = W.length := by omega
      rw [colophonlaw23_FairShares.l2, if_neg (by rw [decide_eq_true_eq]; omega), e]
  | succ μ ih => intro k i hm hk hi; cases k with
    | zero => omega
    | succ k =>
      have hil : i < W.length := by omega
      rw [colophonlaw23_FairShares.l2, if_pos (by rw [decide_eq_true_eq]; omega), wi_eq (n := 2 * (i : Int)) (by omega) (by omega), wi_eq (n := 2 * (i : Int) + 1) (by omega) (by omega)]
      have hSm : ∀ L : List Line, L.length = W.length → (∀ l ∈ L, l.2.2.2.length ≤ 2) → Sm L := fun L h1 h2 => ⟨by omega, fun l hl => by have := h2 l hl; omega⟩
      have htwo : ∀ j, (two j true).length = 2 := fun j => rfl
      have hjobs : ∀ l ∈ lin W i, ∃ j, j < W.length ∧ l = (W.getD j 0, 0, 0, if j < i then two j true else []) := fun l hl => by
        unfold lin at hl
        obtain ⟨j, hj, rfl⟩ := List.mem_map.1 hl
        exact ⟨j, List.mem_range.1 hj, rfl⟩
      have hno : ∀ id : Int, 2 * (i : Int) ≤ id → ∀ l ∈ lin W i, fix (has id) l.2.2.2 = none := fun id hid l hl => by
        obtain ⟨j, hj, rfl⟩ := hjobs l hl
        refine fix_no fun x hx => ?_
        simp only [] at hx
        split at hx
        · simp only [two, if_true, List.mem_cons, List.not_mem_nil, or_false] at hx
          rcases hx with rfl | rfl <;> (simp [has]; omega)
        · cases hx
      have hli : (lin W i).length = W.length := lin_len W i
      have hg : (lin W i)[i]'(by omega) = (W.getD i 0, 0, 0, []) := by
        have := lin_get (W := W) (i := i) hil
        rw [List.getElem?_eq_getElem (by omega)] at this
        simp only [Option.some.injEq] at this
        rw [this, if_neg (by omega)]
      have a1 := add_eq (q := q) (L := lin W i) (t := t) (o := false) (told := 0) (h := false) (a := i) (id := 2 * (i : Int)) (hSm _ hli (fun l hl => by
        obtain ⟨j, hj, rfl⟩ := hjobs l hl
        simp only []; split
        · rw [htwo]; omega
        · simp)) (by omega)
      rw [find_no (hno _ (by omega)), hg] at a1
      rw [a1, Option.bind_some]
      simp only []
      have hl2 : ((lin W i).set i (addJ (W.getD i 0, 0, 0, []) (2 * (i : Int)))).length = W.length := by rw [List.length_set, hli]
      have hm2 : ∀ l ∈ (lin W i).set i (addJ (W.getD i 0, 0, 0, []) (2 * (i : Int))), l ∈ lin W i ∨ l = (W.getD i 0, 0, 0, [(2 * (i : Int), false)]) := fun l hl => by
        rcases List.mem_or_eq_of_mem_set hl with h | h
        · exact .inl h
        · exact .inr h
      have a2 := add_eq (q := q) (L := (lin W i).set i (addJ (W.getD i 0, 0, 0, []) (2 * (i : Int)))) (t := t) (o := false) (told := 0) (h := false) (a := i) (id := 2 * (i : Int) + 1) (hSm _ hl2 (fun l hl => by
        rcases hm2 l hl with h | rfl
        · obtain ⟨j, hj, rfl⟩ := hjobs l h
          simp only []; split
          · rw [htwo]; omega
          · simp
        · simp)) (by omega)
      rw [find_no (fun l hl => by
        rcases hm2 l hl with h | rfl
        · exact hno _ (by omega) l h
        · refine fix_no fun x hx => ?_
          simp at hx; subst hx; simp [has]; omega), List.getElem_set_self] at a2
      rw [a2, Option.bind_some]
      simp only []
      rw [List.set_set, wi_eq (by omega) (by omega), show ((i : Int) + 1) = ((i + 1 : Nat) : Int) by omega]
      have hnew : (lin W i).set i (addJ (addJ (W.getD i 0, 0, 0, []) (2 * (i : Int))) (2 * (i : Int) + 1)) = lin W (i + 1) := by
        apply List.ext_getElem?
        intro j
        rw [List.getElem?_set]
        by_cases hj : j < W.length
        · by_cases e : i = j
          · subst e
            rw [if_pos rfl, if_pos (by omega), lin_get hil, if_pos (by omega)]; rfl
          · rw [if_neg e, lin_get hj, lin_get hj]
            by_cases h2 : j < i
            · rw [if_pos h2, if_pos (by omega)]
            · rw [if_neg h2, if_neg (by omega)]
        · rw [if_neg (by omega), List.getElem?_eq_none (by omega), List.getElem?_eq_none (by rw [lin_len]; omega)]
      rw [hnew]
      exact ih k (i + 1) (by omega) (by omega) (by omega)
theorem start {q : Int} {W : List Int} (hq : 1 ≤ q ∧ q ≤ 40) (hW1 : 1 ≤ W.length) (hW8 : W.length ≤ 8) (hW : ∀ j, j < W.length → 1 ≤ W.getD j 0 ∧ W.getD j 0 ≤ 16) : Sh q W (lin W W.length) (W.length - 1) false (-1) := by
  have hg : ∀ j, (lin W W.length).getD j l0 = if j < W.length then (W.getD j 0, 0, 0, two j true) else l0 := fun j => by
    rw [List.getD_eq_getElem?_getD]
    by_cases h : j < W.length
    · rw [lin_get h, if_pos h, if_pos h]; rfl
    · rw [List.getElem?_eq_none (by rw [lin_len]; omega), if_neg h]; rfl
  have hc : ∀ j, ((lin W W.length).getD j l0).2.1 = 0 := fun j => by rw [hg]; split <;> rfl
  refine ⟨⟨⟨hq.1, by omega, by rw [lin_len]; omega, fun j => ?_, fun j hj => ?_, fun j => by rw [hc]; omega⟩, by rw [lin_len]; omega, fun j _ => by rw [hc]; omega, fun _ => by rw [hc]; omega, fun j => by rw [hc]; omega, ?_⟩, lin_len W _, fun j hj => by rw [hg, if_pos hj], fun j hj => ⟨true, by rw [hg, if_pos hj]⟩, fun j hj => ?_⟩
  · rw [hg]; split
    · simp [two]
    · simp
  · rw [lin_len] at hj; rw [hg, if_pos hj]; exact hW j hj
  · rw [hc, hg, if_pos (by omega)]
    have := hW (W.length - 1) (by omega)
    exact Int.mul_nonneg (by omega) (by omega)
  · rw [hg, if_pos hj, if_pos (by omega)]; simp
end FairS
open Fair FairS
theorem pure_FairShares (a0 : Int) (F0 : Fits (.int .i64) a0) (l1 : List Int) (F1 : Fits (.slice 5 (.int .u8)) l1) (S1 : l1.length * 1 ≤ 140737488351232) (l2 : List Int) (F2 : Fits (.slice 5 (.int .u8)) l2) (S2 : l2.length * 1 ≤ 140737488351232) : colophonlaw23_FairShares.f a0 l1 l2 = some true := by
  have hl1 : ∀ c ∈ l1, 0 ≤ c ∧ c ≤ 255 := fun c hc => by have := fits_u8 (F1.2 c hc); omega
  have hl2 : ∀ c ∈ l2, 0 ≤ c ∧ c ≤ 255 := fun c hc => by have := fits_u8 (F2.2 c hc); omega
  unfold colophonlaw23_FairShares.f
  rw [FairS.first_f, Option.bind_some, if_neg (by simp)]
  have e1 := weights l1 hl1 (by omega) l1.length FU 0 [] (by omega) (by show l1.length < 4611686018427387904; omega) (by omega) (by simp)
  rw [show ((0 : Nat) : Int) = 0 from rfl] at e1
  rw [e1, Option.bind_some]
  generalize hWe : (l1.take 8).map (fun x => 1 + x % 16) = W
  have hW8 : W.length ≤ 8 := by rw [← hWe]; simp; omega
  have hWm : ∀ w ∈ W, 1 ≤ w ∧ w ≤ 16 := fun w hw => by
    rw [← hWe] at hw
    obtain ⟨x, hx, rfl⟩ := List.mem_map.1 hw
    have := hl1 x (List.mem_of_mem_take hx)
    omega
  have hW : ∀ j, j < W.length → 1 ≤ W.getD j 0 ∧ W.getD j 0 ≤ 16 := fun j hj => by
    rw [List.getD_eq_getElem?_getD, List.getElem?_eq_getElem hj]; exact hWm _ (List.getElem_mem hj)
  have hq0 : 0 ≤ IntKind.wrap .u64 a0 := by rw [wrap_u64_eq]; omega
  have hq : wi (1 + wi (Int.tmod (IntKind.wrap .u64 a0) 40)) = 1 + IntKind.wrap .u64 a0 % 40 := by rw [FairS.tmod_eq hq0, wi_eq (n := IntKind.wrap .u64 a0 % 40) (by omega) (by omega), wi_eq (by omega) (by omega)]
  rw [hq]
  generalize hqe : 1 + IntKind.wrap .u64 a0 % 40 = q at *
  have hq2 : 1 ≤ q ∧ q ≤ 40 := by omega
  by_cases h0 : W.length = 0
  · have e : fair_New.f q W = some (none, 2) := by
      unfold fair_New.f
      rw [if_neg (by rw [decide_eq_true_eq]; omega), if_neg (by rw [decide_eq_true_eq]; omega), if_pos (by rw [decide_eq_true_eq]; omega)]
    rw [e, Option.bind_some, if_pos (by rw [beq_iff_eq]; omega)]; rfl
  · rw [new_eq (by omega) hWm (by omega), Option.bind_some, if_neg (by rw [beq_iff_eq]; omega), Option.bind_some]
    have hlin : W.map (fun w => ((w, 0, 0, []) : Line)) = lin W 0 := by
      apply List.ext_getElem?
      intro j
      by_cases hj : j < W.length
      · rw [lin_get hj, List.getElem?_map, List.getElem?_eq_getElem hj, if_neg (by omega), List.getD_eq_getElem?_getD, List.getElem?_eq_getElem hj]; rfl
      · rw [List.getElem?_eq_none (by simp; omega), List.getElem?_eq_none (by rw [lin_len]; omega)]
    rw [hlin]
    have e2 := adds l2 W hW8 (q := q) (t := ((W.length - 1 : Nat) : Int)) W.length FU 0 (by omega) (by show W.length < 4611686018427387904; omega) (by omega)
    rw [show ((0 : Nat) : Int) = 0 from rfl] at e2
    rw [e2, Option.bind_some]
    have hS := FairS.start hq2 (by omega) hW8 hW
    have hlh : LH q W (List.replicate 64 0) (List.replicate 64 0) := ⟨by simp, by simp, fun a b hb ha => by
      have h1 : ∀ n : Nat, (List.replicate 64 (0 : Int)).getD n 0 = 0 := fun n => by
        rw [List.getD_eq_getElem?_getD, List.getElem?_replicate]; split <;> rfl
      rw [h1]
      have wa := hW a ha
      have wb := hW b (by omega)
      have : 0 ≤ q * (W.getD a 0 * W.getD b 0) := Int.mul_nonneg (by omega) (Int.mul_nonneg (by omega) (by omega))
      omega⟩
    obtain ⟨z, e3⟩ := main_loop hl2 hq hq2 (by omega) hW8 hW 2000 FU 0 (lin W W.length) (W.length - 1) false (-1) 0 _ _ (by omega) (by show 2000 < 4611686018427387904; omega) (by omega) hS (fun j => by
      have : ((lin W W.length).getD j l0).2.2.1 = 0 := by
        rw [List.getD_eq_getElem?_getD]
        by_cases h : j < W.length
        · rw [lin_get h]; rfl
        · rw [List.getElem?_eq_none (by rw [lin_len]; omega)]; rfl
      rw [this]; omega) hlh
    rw [show ((0 : Nat) : Int) = 0 from rfl] at e3
    rw [e3]; rfl
end Go.Proofs.Ytnffhpnlehcoiaa
