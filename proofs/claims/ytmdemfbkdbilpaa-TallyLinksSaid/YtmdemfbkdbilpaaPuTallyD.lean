/-
  How many unlike documents stand in a range: the laws TallyDocs and TallyAll, in plain words. No condition.
-/
import Derived.Test.YtmdemfbkdbilpaaPuTallyB
import Derived.Test.YtmdemfbkdbilpaaPuTallyC
import Derived.Test.YtmdemfbkdbilpaaPuTextS
import Derived.Test.YtmdemfbkdbilpaaGTallyDocs
import Derived.Test.YtmdemfbkdbilpaaGTallyAll
namespace Go.Proofs.Ytmdemfbkdbilpaa
open Go Go.Gol
set_option linter.unusedVariables false
set_option linter.unusedSimpArgs false
set_option linter.unnecessarySimpa false
set_option maxRecDepth 100000
namespace Tally
open Docs (Prv at_g getD_set)
open Cnt
theorem cnt_sum {P Q R : Nat → Bool} {n : Nat} (h : ∀ t, t < n → (if R t then 1 else 0) = (if P t then 1 else 0) + (if Q t then 1 else 0)) : cnt R n = cnt P n + cnt Q n := by
  induction n with
  | zero => rfl
  | succ n ih => rw [cnt_succ, cnt_succ, cnt_succ, ih (fun t ht => h t (by omega)), h n (by omega)]; omega
theorem cnt_span (a b n : Nat) (hab : a ≤ b) (hb : b ≤ n) : cnt (fun t => decide (a ≤ t) && decide (t < b)) n = b - a := by
  have key : ∀ m, m ≤ n → cnt (fun t => decide (a ≤ t) && decide (t < b)) m = min m b - min m a := by
    intro m
    induction m with
    | zero => intro _; simp [cnt]
    | succ m ih =>
      intro hm
      rw [cnt_succ, ih (by omega)]
      by_cases h1 : a ≤ m
      · by_cases h2 : m < b
        · rw [decide_eq_true h1, decide_eq_true h2, if_pos (by rfl)]; omega
        · rw [decide_eq_false h2, if_neg (by simp)]; omega
      · rw [decide_eq_false h1, if_neg (by simp)]; omega
  rw [key n (Nat.le_refl _)]; omega
/-- where each place's link counts; -1: it has none -/
def Arg (l0 l1 : List Int) (A : Nat → Int) : Prop := ∀ t, t < l0.length → (A t = -1 ∧ Prv l0 t (-1)) ∨ ∃ q : Nat, Prv l0 t (q : Int) ∧ q < t ∧ 0 ≤ A t ∧ Rmq.Best l1 (Rmq.In l1.length ((q : Int) + 1) ((t : Int) + 1)) (A t)
theorem counts_ok {l0 l1 : List Int} (hn : l0.length ≤ 2000000) (hl : l1.length = l0.length) : ∃ A x, Arg l0 l1 A ∧ colophonref16_Doubles.f l0 l1 = some x ∧ x.length = l0.length ∧ ∀ r, r < l0.length → x.getD r 0 = (cnt (fun t => decide (A t = (r : Int))) l0.length : Int) := by
  have hex : ∀ t : Nat, ∃ v : Int, t < l0.length → ((v = -1 ∧ Prv l0 t (-1) ∧ colophonref16_Doubles.l2 l0 (l0.getD t 0) FU (wi ((t : Int) - 1)) = some (-1)) ∨ ∃ q : Nat, Prv l0 t (q : Int) ∧ q < t ∧ 0 ≤ v ∧ Rmq.Best l1 (Rmq.In l1.length ((q : Int) + 1) ((t : Int) + 1)) v ∧ colophonref16_Doubles.l2 l0 (l0.getD t 0) FU (wi ((t : Int) - 1)) = some (q : Int) ∧ colophonref16_Doubles.l3 l1 (t : Int) FU (wi ((q : Int) + 1)) (wi ((q : Int) + 1)) = some v) := by
    intro t
    by_cases ht : t < l0.length
    · obtain ⟨v, ev, hv⟩ := ref_prev l0 (by omega) ht
      rcases id hv with ⟨e, _⟩ | ⟨q, e, hq, _⟩
      · subst e; exact ⟨-1, fun _ => .inl ⟨rfl, hv, ev⟩⟩
      · subst e
        obtain ⟨s, es, hs⟩ := ref_least l1 (by omega) hq (show t < l1.length by omega)
        refine ⟨s, fun _ => .inr ⟨q, hv, hq, ?_, hs, ev, es⟩⟩
        rcases hs with ⟨hno, _⟩ | ⟨s', e', _⟩
        · exact absurd ⟨by omega, by omega, by omega⟩ (hno t)
        · omega
    · exact ⟨0, fun h => absurd h ht⟩
  obtain ⟨A, hA⟩ := Classical.skolem.1 hex
  have key : ∀ (m k i : Nat) (x : List Int), l0.length - i = m → m < k → i ≤ l0.length → x.length = l0.length → (∀ r, r < l0.length → x.getD r 0 = (cnt (fun t => decide (A t = (r : Int))) i : Int)) →
      ∃ x', colophonref16_Doubles.l1 l0 l1 k x (i : Int) = some x' ∧ x'.length = l0.length ∧ ∀ r, r < l0.length → x'.getD r 0 = (cnt (fun t => decide (A t = (r : Int))) l0.length : Int) := by
    intro m
    induction m with
    | zero => intro k i x hm hk hi hx h; cases k with
      | zero => omega
      | succ k =>
        unfold colophonref16_Doubles.l1; rw [if_neg (by rw [decide_eq_true_eq]; omega)]
        have : i = l0.length := by omega
        subst this; exact ⟨x, rfl, hx, h⟩
    | succ m ih => intro k i x hm hk hi hx h; cases k with
      | zero => omega
      | succ k =>
        unfold colophonref16_Doubles.l1
        have hil : i < l0.length := by omega
        rw [if_pos (by rw [decide_eq_true_eq]; omega), at_g hil, Option.bind_some, wi_eq (n := (i : Int) + 1) (by omega) (by omega)]
        rcases hA i hil with ⟨a1, a2, a3⟩ | ⟨q, a1, a2, a3, a4, a5, a6⟩
        · rw [a3, Option.bind_some, if_pos (by simp), show ((i : Int) + 1) = ((i + 1 : Nat) : Int) by omega]
          exact ih k (i + 1) x (by omega) (by omega) (by omega) hx (fun r hr => by rw [cnt_succ, decide_eq_false (by omega), if_neg (by simp), Nat.add_zero]; exact h r hr)
        · rw [a5, Option.bind_some, if_neg (by simp), a6, Option.bind_some]
          rcases a4 with ⟨hno, _⟩ | ⟨s, es, hs, _⟩
          · exact absurd ⟨by omega, by omega, by omega⟩ (hno i)
          · obtain ⟨s1, s2, s3⟩ := hs
            have hc := cnt_le (fun t => decide (A t = (s : Int))) i
            have hxs := h s (by omega)
            rw [es, at_g (show s < x.length by omega), Option.bind_some, wi_eq (n := x.getD s 0 + 1) (by omega) (by omega), set?_nat _ (show s < x.length by omega), Option.bind_some, show ((i : Int) + 1) = ((i + 1 : Nat) : Int) by omega]
            refine ih k (i + 1) _ (by omega) (by omega) (by omega) (by simpa using hx) (fun r hr => ?_)
            rw [getD_set (by omega), cnt_succ]
            by_cases e : r = s
            · rw [if_pos e, e, decide_eq_true (by omega), if_pos (by rfl), hxs]; omega
            · rw [if_neg e, decide_eq_false (by omega), if_neg (by simp), Nat.add_zero]; exact h r hr
  obtain ⟨x, e, h1, h2⟩ := key l0.length FU 0 (List.replicate l0.length 0) (by omega) (by show l0.length < 4611686018427387904; omega) (by omega) (by simp) (fun r hr => by rw [List.getD_eq_getElem?_getD, List.getElem?_replicate, if_pos hr]; rfl)
  rw [show ((0 : Nat) : Int) = 0 from rfl] at e
  refine ⟨A, x, fun t ht => ?_, ?_, h1, h2⟩
  · rcases hA t ht with ⟨a1, a2, _⟩ | ⟨q, a1, a2, a3, a4, _⟩
    · exact .inl ⟨a1, a2⟩
    · exact .inr ⟨q, a1, a2, a3, a4⟩
  · unfold colophonref16_Doubles.f
    rw [make?_nat _ (by omega), Option.bind_some, e]; rfl
theorem sum_span {x : List Int} {A : Nat → Int} {n : Nat} (h : ∀ r, r < n → x.getD r 0 = (cnt (fun t => decide (A t = (r : Int))) n : Int)) (a : Nat) : ∀ b, a ≤ b → b ≤ n → sm (dn x) b = sm (dn x) a + cnt (fun t => decide ((a : Int) ≤ A t) && decide (A t < (b : Int))) n := by
  intro b
  induction b with
  | zero => intro h1 h2; have : a = 0 := by omega
            subst this
            rw [cnt_zero (fun t _ => by by_cases c : ((0 : Nat) : Int) ≤ A t
                                        · rw [decide_eq_false (show ¬ A t < ((0 : Nat) : Int) by omega)]; simp
                                        · rw [decide_eq_false c]; rfl)]; rfl
  | succ b ih =>
    intro h1 h2
    by_cases e : a = b + 1
    · rw [e, cnt_zero (fun t _ => by
        by_cases c : ((b + 1 : Nat) : Int) ≤ A t
        · rw [decide_eq_false (show ¬ A t < ((b + 1 : Nat) : Int) by omega)]; simp
        · rw [decide_eq_false c]; rfl)]; rfl
    · have hs : sm (dn x) (b + 1) = sm (dn x) b + dn x b := rfl
      have hd : dn x b = cnt (fun t => decide (A t = (b : Int))) n := by unfold dn; rw [h b (by omega), Int.toNat_natCast]
      rw [hs, ih (by omega) (by omega), hd, Nat.add_assoc]
      congr 1
      refine (cnt_sum (fun t _ => ?_)).symm
      by_cases c1 : A t = (b : Int)
      · rw [decide_eq_true c1, decide_eq_false (show ¬ A t < (b : Int) by omega), decide_eq_true (show (a : Int) ≤ A t by omega), decide_eq_true (show A t < ((b + 1 : Nat) : Int) by omega)]; simp
      · rw [decide_eq_false c1]
        have : decide (A t < ((b + 1 : Nat) : Int)) = decide (A t < (b : Int)) := by rw [decide_eq_decide]; omega
        rw [this]; simp
theorem unlike_ok (d : List Int) (hd : d.length ≤ 1000000) (E : Nat → Bool) (a b : Nat) (hab : a ≤ b) (hb : b ≤ d.length) (hE : ∀ t, E t = true ↔ ∃ j, a ≤ j ∧ j < t ∧ d.getD j 0 = d.getD t 0) :
    colophonref16_Unlike.f d (a : Int) (b : Int) = some (cnt (fun t => (decide (a ≤ t) && decide (t < b)) && !E t) d.length : Int) := by
  have k2 : ∀ (t : Nat), t < d.length → ∀ (m k j : Nat) (f : Bool), t - j = m → m < k → j ≤ t ∨ t ≤ a → a ≤ j → (f = true ↔ ∃ i, a ≤ i ∧ i < j ∧ i < t ∧ d.getD i 0 = d.getD t 0) → ∃ g, colophonref16_Unlike.l2 d (t : Int) k f (j : Int) = some g ∧ (g = true ↔ ∃ i, a ≤ i ∧ i < t ∧ d.getD i 0 = d.getD t 0) := by
    intro t ht m
    induction m with
    | zero => intro k j f hm hk hj haj hf; cases k with
      | zero => omega
      | succ k =>
        unfold colophonref16_Unlike.l2; rw [if_neg (by rw [decide_eq_true_eq]; omega)]
        refine ⟨f, rfl, hf.trans ⟨fun ⟨i, h1, _, h2, h3⟩ => ⟨i, h1, h2, h3⟩, fun ⟨i, h1, h2, h3⟩ => ⟨i, h1, by omega, h2, h3⟩⟩⟩
    | succ m ih => intro k j f hm hk hj haj hf; cases k with
      | zero => omega
      | succ k =>
        unfold colophonref16_Unlike.l2
        rw [if_pos (by rw [decide_eq_true_eq]; omega), wi_eq (n := (j : Int) + 1) (by omega) (by omega), show ((j : Int) + 1) = ((j + 1 : Nat) : Int) by omega]
        cases f with
        | true =>
          rw [if_pos rfl]
          obtain ⟨i, h1, h2, h3, h4⟩ := hf.1 rfl
          exact ih k (j + 1) true (by clear hf; omega) (by clear hf; omega) (by clear hf; omega) (by clear hf; omega) ⟨fun _ => ⟨i, h1, by omega, h3, h4⟩, fun _ => rfl⟩
        | false =>
          rw [if_neg (by simp), at_g (show j < d.length by omega), Option.bind_some, at_g ht, Option.bind_some]
          refine ih k (j + 1) _ (by clear hf; omega) (by clear hf; omega) (by clear hf; omega) (by clear hf; omega) ?_
          rw [beq_iff_eq]
          constructor
          · intro e; exact ⟨j, haj, by omega, by omega, e⟩
          · intro ⟨i, h1, h2, h3, h4⟩
            by_cases e : i = j
            · rw [← e]; exact h4
            · have := hf.2 ⟨i, h1, by omega, h3, h4⟩; cases this
  have key : ∀ (m k i : Nat), b - i = m → m < k → a ≤ i → i ≤ b → colophonref16_Unlike.l1 d (a : Int) (b : Int) k (cnt (fun t => (decide (a ≤ t) && decide (t < b)) && !E t) i : Int) (i : Int) = some (cnt (fun t => (decide (a ≤ t) && decide (t < b)) && !E t) b : Int) := by
    intro m
    induction m with
    | zero => intro k i hm hk ha hi; cases k with
      | zero => omega
      | succ k => unfold colophonref16_Unlike.l1; rw [if_neg (by rw [decide_eq_true_eq]; omega), show i = b by omega]
    | succ m ih => intro k i hm hk ha hi; cases k with
      | zero => omega
      | succ k =>
        unfold colophonref16_Unlike.l1
        obtain ⟨g, eg, hg⟩ := k2 i (by omega) (i - a) FU a false rfl (by show i - a < 4611686018427387904; omega) (by omega) (Nat.le_refl _) ⟨fun h => (by cases h), fun ⟨j, h1, h2, _⟩ => by omega⟩
        have hgE : g = E i := by rw [Bool.eq_iff_iff, hg, hE]
        clear hg
        have nx := ih k (i + 1) (by omega) (by omega) (by omega) (by omega)
        have hc := cnt_le (fun t => (decide (a ≤ t) && decide (t < b)) && !E t) i
        rw [cnt_succ, decide_eq_true ha, decide_eq_true (show i < b by omega)] at nx
        rw [if_pos (by rw [decide_eq_true_eq]; omega), eg, Option.bind_some, hgE, wi_eq (n := (i : Int) + 1) (by omega) (by omega), show ((i : Int) + 1) = ((i + 1 : Nat) : Int) by omega]
        cases e : E i with
        | true => rw [e] at nx; rw [if_neg (by simp)]; exact nx
        | false =>
          rw [e, if_pos (by rfl)] at nx
          rw [if_pos (by rfl), wi_eq (by omega) (by omega)]
          exact nx
  have h0 : cnt (fun t => (decide (a ≤ t) && decide (t < b)) && !E t) a = 0 := cnt_zero (fun t ht => by rw [decide_eq_false (by omega)]; rfl)
  have := key (b - a) FU a rfl (by show b - a < 4611686018427387904; omega) (Nat.le_refl _) hab
  rw [h0, show ((0 : Nat) : Int) = 0 from rfl] at this
  unfold colophonref16_Unlike.f
  rw [this, Option.bind_some, cnt_past (n := b) (m := d.length) (fun t ht => by rw [decide_eq_false (show ¬ t < b by omega)]; simp) hb]
/-- the counting: of a pattern's range, all but the doubles -/
theorem count_main {s sa p d h : List Int} {A : Nat → Int} {E : Nat → Bool} {a b : Nat} (hsa : sa.length = s.length) (hd : d.length = s.length) (hh : h.length = s.length) (hO : Suf.Ord s sa) (hR : Suf.Rng s sa p a b) (hab : a < b)
    (hl : ∀ i, 0 < i → i < s.length → h.getD i 0 = ((Suf.cp (Suf.sx s sa (i - 1)) (Suf.sx s sa i) : Nat) : Int)) (hA : Arg d h A) (hE : ∀ t, E t = true ↔ ∃ j, a ≤ j ∧ j < t ∧ d.getD j 0 = d.getD t 0) :
    cnt (fun t => (decide (a ≤ t) && decide (t < b)) && !E t) d.length + cnt (fun t => decide (((a + 1 : Nat) : Int) ≤ A t) && decide (A t < (b : Int))) d.length = b - a := by
  have hall := hR.all hO
  obtain ⟨_, hb, r1, r2, r3, r4⟩ : a < b ∧ b ≤ sa.length ∧ Suf.pre p (Suf.sx s sa a) = true ∧ Suf.pre p (Suf.sx s sa (b - 1)) = true ∧ (∀ j, j < a → Suf.pre p (Suf.sx s sa j) = false) ∧ ∀ j, b ≤ j → j < sa.length → Suf.pre p (Suf.sx s sa j) = false := by
    rcases hR with ⟨h1, h2⟩ | h
    · omega
    · exact h
  -- inside, neighbours share the pattern
  have hin : ∀ r, a + 1 ≤ r → r < b → (p.length : Int) ≤ h.getD r 0 := fun r h1 h2 => by
    rw [hl r (by omega) (by omega)]
    have := Suf.cp_pre p _ _ (hall (r - 1) (by omega) (by omega)) (hall r (by omega) h2)
    omega
  have hlo : 0 < a → h.getD a 0 < (p.length : Int) := fun h0 => by
    rw [hl a h0 (by omega)]
    rcases Nat.lt_or_ge (Suf.cp (Suf.sx s sa (a - 1)) (Suf.sx s sa a)) p.length with h | h
    · omega
    · have := Suf.pre_cp p _ (Suf.sx s sa (a - 1)) r1 (by rw [Suf.cp_comm]; exact h)
      rw [r3 (a - 1) (by omega)] at this; cases this
  have hhi : b < s.length → h.getD b 0 < (p.length : Int) := fun h0 => by
    rw [hl b (by omega) h0]
    rcases Nat.lt_or_ge (Suf.cp (Suf.sx s sa (b - 1)) (Suf.sx s sa b)) p.length with h | h
    · omega
    · have := Suf.pre_cp p _ (Suf.sx s sa b) r2 h
      rw [r4 b (Nat.le_refl _) (by omega)] at this; cases this
  rw [← cnt_sum (R := fun t => decide (a ≤ t) && decide (t < b)), cnt_span a b d.length (by omega) (by omega)]
  intro t ht
  -- a link that counts inside lies inside
  have far : ((a + 1 : Nat) : Int) ≤ A t → A t < (b : Int) → a ≤ t ∧ t < b ∧ E t = true := fun c1 c2 => by
    rcases hA t ht with ⟨e, _⟩ | ⟨q, hq, hqt, hA0, hbest⟩
    · omega
    · rcases hbest with ⟨_, e⟩ | ⟨r, er, hr, hmin⟩
      · omega
      · obtain ⟨s1, s2, s3⟩ := hr
        have hv := hin r (by omega) (by omega)
        have hqa : a ≤ q := by
          rcases Nat.lt_or_ge q a with hlt | hge
          · have := (hmin a ⟨by omega, by omega, by omega⟩).1
            have := hlo (by omega); omega
          · exact hge
        have htb : t < b := by
          rcases Nat.lt_or_ge t b with hlt | hge
          · exact hlt
          · have := (hmin b ⟨by omega, by omega, by omega⟩).1
            have := hhi (by omega); omega
        refine ⟨by omega, htb, (hE t).2 ⟨q, hqa, hqt, ?_⟩⟩
        rcases hq with ⟨e, _⟩ | ⟨q', e, _, h3, _⟩
        · omega
        · have : q' = q := by omega
          rw [← this]; exact h3
  have near : a ≤ t → t < b → E t = true → ((a + 1 : Nat) : Int) ≤ A t ∧ A t < (b : Int) := fun c1 c2 c3 => by
    obtain ⟨j, j1, j2, j3⟩ := (hE t).1 c3
    rcases hA t ht with ⟨_, hp⟩ | ⟨q, hq, hqt, hA0, hbest⟩
    · rcases hp with ⟨_, h⟩ | ⟨q, e, _⟩
      · exact absurd j3 (h j j2)
      · omega
    · have hqj : j ≤ q := by
        rcases hq with ⟨e, _⟩ | ⟨q', e, _, _, h4⟩
        · omega
        · have : q' = q := by omega
          subst this
          rcases Nat.lt_or_ge q' j with h | h
          · exact absurd j3 (h4 j h j2)
          · exact h
      rcases hbest with ⟨_, e⟩ | ⟨r, er, hr, _⟩
      · omega
      · obtain ⟨s1, s2, s3⟩ := hr; omega
  by_cases c : ((a + 1 : Nat) : Int) ≤ A t ∧ A t < (b : Int)
  · obtain ⟨f1, f2, f3⟩ := far c.1 c.2
    rw [decide_eq_true f1, decide_eq_true f2, f3, decide_eq_true c.1, decide_eq_true c.2]; rfl
  · have hz : (decide (((a + 1 : Nat) : Int) ≤ A t) && decide (A t < (b : Int))) = false := by
      cases e : (decide (((a + 1 : Nat) : Int) ≤ A t) && decide (A t < (b : Int))) with
      | false => rfl
      | true =>
        rw [Bool.and_eq_true, decide_eq_true_eq, decide_eq_true_eq] at e
        exact absurd e c
    rw [hz]
    by_cases f : a ≤ t ∧ t < b
    · rw [decide_eq_true f.1, decide_eq_true f.2]
      cases e : E t with
      | true => exact absurd (near f.1 f.2 e) c
      | false => rfl
    · have : (decide (a ≤ t) && decide (t < b)) = false := by
        cases e : (decide (a ≤ t) && decide (t < b)) with
        | false => rfl
        | true =>
          rw [Bool.and_eq_true, decide_eq_true_eq, decide_eq_true_eq] at e
          exact absurd e f
      rw [this]; rfl
/-- what the parts of a collection are -/
theorem parts_ok {l0 : List (List Int)} (h1 : l0.length ≤ 256) (h2 : Text.tot l0 l0.length ≤ 65536) : ∃ s d h sa, colophonref08_Symbols.f l0 = some s ∧ colophonlaw16_Parts.f l0 = some (d, h, sa) ∧ s.length ≤ 100000 ∧ sa.length = s.length ∧ d.length = s.length ∧ h.length = s.length ∧ Suf.Ord s sa ∧ ∀ i, 0 < i → i < s.length → h.getD i 0 = ((Suf.cp (Suf.sx s sa (i - 1)) (Suf.sx s sa i) : Nat) : Int) := by
  obtain ⟨s, es, hs⟩ := Text.refSym_len l0 h1 h2
  have hst : Text.stt l0 l0.length = Text.tot l0 l0.length + l0.length := rfl
  obtain ⟨sa, ea, la, hO⟩ := Suf.array_ok s (by omega)
  obtain ⟨h, eh, lh, hh⟩ := Suf.lcp_ok s sa (by omega) la hO
  have key : ∀ (m k i : Nat) (d : List Int), sa.length - i = m → m < k → i ≤ sa.length → d.length = i → ∃ d', colophonlaw16_Parts.l1 l0 sa k d (i : Int) = some d' ∧ d'.length = sa.length := by
    intro m
    induction m with
    | zero => intro k i d hm hk hi hd; cases k with
      | zero => omega
      | succ k => unfold colophonlaw16_Parts.l1; rw [if_neg (by rw [decide_eq_true_eq]; omega)]; exact ⟨d, rfl, by omega⟩
    | succ m ih => intro k i d hm hk hi hd; cases k with
      | zero => omega
      | succ k =>
        unfold colophonlaw16_Parts.l1
        have hr := hO.rng i (by omega)
        obtain ⟨e, o, he, ho, hp⟩ := Text.place l0 (n := l0.length) (p := (sa.getD i 0).toNat) (by omega)
        rw [if_pos (by rw [decide_eq_true_eq]; omega), at_g (show i < sa.length by omega), Option.bind_some, show sa.getD i 0 = ((Text.stt l0 e + o : Nat) : Int) by omega, Text.refDoc_ok h1 h2 e o he ho, Option.bind_some]
        simp only []
        rw [app?_eq (by simp; omega), Option.bind_some, wi_eq (by omega) (by omega), show ((i : Int) + 1) = ((i + 1 : Nat) : Int) by omega]
        exact ih k (i + 1) _ (by omega) (by omega) (by omega) (by simp [hd])
  obtain ⟨d, ed, ld⟩ := key sa.length FU 0 [] (by omega) (by show sa.length < 4611686018427387904; omega) (by omega) rfl
  rw [show ((0 : Nat) : Int) = 0 from rfl] at ed
  refine ⟨s, d, h, sa, es, ?_, by omega, la, by omega, by omega, hO, fun i a b => hh i a (by omega)⟩
  unfold colophonlaw16_Parts.f
  rw [es, Option.bind_some, ea, Option.bind_some, ed, Option.bind_some, eh]; rfl
/-- the program counts what the reference counts -/
theorem tally_same {s d h sa : List Int} (hs : s.length ≤ 100000) (hsa : sa.length = s.length) (hd : d.length = s.length) (hh : h.length = s.length) (hO : Suf.Ord s sa)
    (hl : ∀ i, 0 < i → i < s.length → h.getD i 0 = ((Suf.cp (Suf.sx s sa (i - 1)) (Suf.sx s sa i) : Nat) : Int)) :
    ∃ T, tally_New.f d h = some (some T, 0) ∧ ∀ p : List Int, p.length ≤ 1000000 → ∃ (a b : Int) (c : Int), colophonref15_Range.f s sa p = some (a, b) ∧ tally_Tally_Docs.f (some T) a b = some c ∧ colophonref16_Unlike.f d a b = some c := by
  obtain ⟨T, x, eT, ex, hx, h0, hT⟩ := new_ok (l0 := d) (l1 := h) (by omega) (by omega)
  obtain ⟨A, x', hA, ex', hx', hc⟩ := counts_ok (l0 := d) (l1 := h) (by omega) (by omega)
  rw [ex] at ex'
  have hxx : x = x' := by simpa using ex'
  subst hxx
  refine ⟨T, eT, fun p hp => ?_⟩
  obtain ⟨a, b, er, hR⟩ := Suf.range_ok s sa p (by omega) hp hsa hO
  by_cases hab : a < b
  · have hb : b ≤ sa.length := by
      rcases hR with ⟨h1, h2⟩ | ⟨_, h2, _⟩
      · omega
      · exact h2
    obtain ⟨E, hE⟩ : ∃ E : Nat → Bool, ∀ t, E t = true ↔ ∃ j, a ≤ j ∧ j < t ∧ d.getD j 0 = d.getD t 0 := ⟨fun t => @decide _ (Classical.propDecidable (∃ j, a ≤ j ∧ j < t ∧ d.getD j 0 = d.getD t 0)), fun t => @decide_eq_true_iff _ (Classical.propDecidable _)⟩
    have hm := count_main hsa hd hh hO hR hab hl hA hE
    have hsum := sum_span (n := d.length) hc (a + 1) b (by omega) (by omega)
    refine ⟨(a : Int), (b : Int), _, er, docs_in hT hab (by omega), ?_⟩
    rw [unlike_ok d (by omega) E a b (by omega) (by omega) hE]
    congr 1; omega
  · have h0 : a = 0 ∧ b = 0 := by
      rcases hR with h | ⟨h, _⟩
      · exact h
      · omega
    refine ⟨(a : Int), (b : Int), 0, er, docs_out hT (.inr (.inl (by omega))), ?_⟩
    rw [h0.1, h0.2]
    unfold colophonref16_Unlike.f
    rw [show FU = FU - 1 + 1 from rfl]
    unfold colophonref16_Unlike.l1
    rw [if_neg (by simp)]; rfl
end Tally
end Go.Proofs.Ytmdemfbkdbilpaa
