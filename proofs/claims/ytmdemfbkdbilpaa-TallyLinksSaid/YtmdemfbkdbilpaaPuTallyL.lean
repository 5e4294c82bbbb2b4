/-
  The law TallyLinks, in plain words: as many links as documents come again. No condition.
-/
import Derived.Test.YtmdemfbkdbilpaaPuTallyD
import Derived.Test.YtmdemfbkdbilpaaGTallyLinks
namespace Go.Proofs.Ytmdemfbkdbilpaa
open Go Go.Gol Tally
set_option linter.unusedVariables false
set_option linter.unusedSimpArgs false
set_option linter.unnecessarySimpa false
set_option maxRecDepth 100000
theorem pure_TallyLinks (l0 : List Int) (F0 : Fits (.slice 5 (.int .u8)) l0) (l1 : List Int) (F1 : Fits (.slice 5 (.int .u8)) l1) : colophonlaw16_TallyLinks.f l0 l1 = some true := by
  have by0 : ∀ i, i < l0.length → 0 ≤ l0.getD i 0 ∧ l0.getD i 0 ≤ 255 := fun i hi => by
    rw [List.getD_eq_getElem?_getD, List.getElem?_eq_getElem hi]; exact F0.2 _ (List.getElem_mem hi)
  have by1 : ∀ i, i < l1.length → 0 ≤ l1.getD i 0 ∧ l1.getD i 0 ≤ 255 := fun i hi => by
    rw [List.getD_eq_getElem?_getD, List.getElem?_eq_getElem hi]; exact F1.2 _ (List.getElem_mem hi)
  obtain ⟨n, en, hn, hn0, hn1⟩ : ∃ n : Nat, imin (imin (l0.length : Int) (l1.length : Int)) 200 = (n : Int) ∧ n ≤ 200 ∧ n ≤ l0.length ∧ n ≤ l1.length := by
    refine ⟨min (min l0.length l1.length) 200, ?_, by omega, by omega, by omega⟩
    unfold imin; split <;> split <;> omega
  obtain ⟨E, hE⟩ : ∃ E : Nat → Bool, ∀ t, E t = true ↔ ∃ j, j < t ∧ l0.getD j 0 = l0.getD t 0 := ⟨fun t => @decide _ (Classical.propDecidable (∃ j, j < t ∧ l0.getD j 0 = l0.getD t 0)), fun t => @decide_eq_true_iff _ (Classical.propDecidable _)⟩
  unfold colophonlaw16_TallyLinks.f
  rw [first_f, Option.bind_some, if_neg (by simp), en]
  have key : ∀ (m k i : Nat) (x y q : List Int), n - i = m → m < k → i ≤ n → x.length = i → y.length = i → (∀ j, j < i → x.getD j 0 = l0.getD j 0) → q.length = 256 →
      (∀ v : Nat, v < 256 → ((∃ j, j < i ∧ l0.getD j 0 = (v : Int)) → q.getD v 0 = 1) ∧ ((¬ ∃ j, j < i ∧ l0.getD j 0 = (v : Int)) → q.getD v 0 = 0)) →
      ∃ x' y' q', colophonlaw16_TallyLinks.l1 l0 l1 k x y (Cnt.cnt E i : Int) (i : Int) q = some (x', y', (Cnt.cnt E n : Int), q') ∧ x'.length = n ∧ y'.length = n ∧ ∀ j, j < n → x'.getD j 0 = l0.getD j 0 := by
    intro m
    induction m with
    | zero => intro k i x y q hm hk hi hx hy hxj hq hv; cases k with
      | zero => omega
      | succ k =>
        unfold colophonlaw16_TallyLinks.l1; rw [en, if_neg (by rw [decide_eq_true_eq]; omega)]
        have : i = n := by omega
        subst this; exact ⟨x, y, q, rfl, hx, hy, hxj⟩
    | succ m ih => intro k i x y q hm hk hi hx hy hxj hq hv; cases k with
      | zero => omega
      | succ k =>
        unfold colophonlaw16_TallyLinks.l1
        have b0 := by0 i (by omega)
        have b1 := by1 i (by omega)
        obtain ⟨v, ev⟩ : ∃ v : Nat, l0.getD i 0 = (v : Int) := ⟨(l0.getD i 0).toNat, by omega⟩
        have hvl : v < 256 := by omega
        have hc := Cnt.cnt_le E i
        have hqv : q.getD v 0 = if E i then 1 else 0 := by
          cases e : E i with
          | true =>
            obtain ⟨j, h1, h2⟩ := (hE i).1 e
            rw [if_pos rfl]; exact (hv v hvl).1 ⟨j, h1, by rw [h2, ev]⟩
          | false =>
            rw [if_neg (by simp)]
            refine (hv v hvl).2 (fun ⟨j, h1, h2⟩ => ?_)
            have := (hE i).2 ⟨j, h1, by rw [h2, ev]⟩
            rw [e] at this; cases this
        have hcs : ((Cnt.cnt E i : Int) + (if E i then 1 else 0)) = (Cnt.cnt E (i + 1) : Int) := by
          rw [Cnt.cnt_succ]; cases E i <;> simp
        rw [en, if_pos (by rw [decide_eq_true_eq]; omega), Docs.at_g (show i < l0.length by omega), Option.bind_some, Docs.at_g (show i < l1.length by omega), Option.bind_some, wi_eq (n := l0.getD i 0) (by omega) (by omega), wi_eq (n := l1.getD i 0) (by omega) (by omega), app?_eq (by simp; omega), Option.bind_some, app?_eq (by simp; omega), Option.bind_some, ev, Docs.at_g (show v < q.length by omega), Option.bind_some, Option.bind_some, set?_nat _ (show v < q.length by omega), Option.bind_some, hqv, wi_eq (n := (Cnt.cnt E i : Int) + (if E i then 1 else 0)) (by split <;> omega) (by split <;> omega), hcs, wi_eq (by omega) (by omega), show ((i : Int) + 1) = ((i + 1 : Nat) : Int) by omega]
        refine ih k (i + 1) _ _ _ (by omega) (by omega) (by omega) (by simp [hx]) (by simp [hy]) (fun j hj => ?_) (by simpa using hq) (fun u hu => ?_)
        · rw [List.getD_eq_getElem?_getD]
          rcases Nat.lt_or_ge j i with h | h
          · rw [List.getElem?_append_left (by omega), ← List.getD_eq_getElem?_getD]; exact hxj j h
          · have : j = i := by omega
            subst this
            rw [List.getElem?_append_right (by omega), hx, Nat.sub_self]; exact ev.symm
        · rw [Docs.getD_set (by omega)]
          by_cases e : u = v
          · rw [if_pos e]
            exact ⟨fun _ => rfl, fun h => absurd ⟨i, by omega, by rw [ev, e]⟩ h⟩
          · rw [if_neg e]
            refine ⟨fun ⟨j, h1, h2⟩ => (hv u hu).1 ⟨j, ?_, h2⟩, fun h => (hv u hu).2 (fun ⟨j, h1, h2⟩ => h ⟨j, by omega, h2⟩)⟩
            rcases Nat.lt_or_ge j i with h | h
            · exact h
            · exfalso
              have : j = i := by omega
              rw [this, ev] at h2; omega
  obtain ⟨d, h, q, e1, ld, lh, hd⟩ := key n FU 0 [] [] (List.replicate 256 (0 : Int)) (by omega) (by show n < 4611686018427387904; omega) (by omega) rfl rfl (fun j h => by omega) (by simp) (fun v hv => ⟨fun ⟨j, h, _⟩ => by omega, fun _ => by rw [List.getD_eq_getElem?_getD, List.getElem?_replicate, if_pos hv]; rfl⟩)
  rw [show (Cnt.cnt E 0 : Int) = 0 from rfl, show ((0 : Nat) : Int) = 0 from rfl] at e1
  obtain ⟨T, x, eT, ex, hx, h0, hT⟩ := new_ok (l0 := d) (l1 := h) (by omega) (by omega)
  obtain ⟨A, x', hA, ex', hx', hc⟩ := counts_ok (l0 := d) (l1 := h) (by omega) (by omega)
  rw [ex] at ex'
  have hxx : x = x' := by simpa using ex'
  subst hxx
  rw [ld] at hc hT h0
  -- a link is a document that came ahead
  have hlink : ∀ t, t < n → ((decide (((0 : Nat) : Int) ≤ A t) && decide (A t < (n : Int))) = E t) ∧ A t ≠ 0 := fun t ht => by
    rcases hA t (by omega) with ⟨e, hp⟩ | ⟨p, hp, hpt, hA0, hbest⟩
    · have hn : E t = false := by
        cases e' : E t with
        | false => rfl
        | true =>
          obtain ⟨j, j1, j2⟩ := (hE t).1 e'
          rcases hp with ⟨_, h⟩ | ⟨q, e, _⟩
          · exact absurd (by rw [hd j (by omega), hd t ht]; exact j2) (h j j1)
          · omega
      rw [hn, decide_eq_false (show ¬ ((0 : Nat) : Int) ≤ A t by omega)]
      exact ⟨rfl, by omega⟩
    · rcases hbest with ⟨_, e⟩ | ⟨r, er, hr, _⟩
      · omega
      · obtain ⟨s1, s2, s3⟩ := hr
        have hy : E t = true := (hE t).2 ⟨p, hpt, by
          rcases hp with ⟨e, _⟩ | ⟨p', e, _, h3, _⟩
          · omega
          · have : p' = p := by omega
            subst this
            rw [hd p' (by omega), hd t ht] at h3; exact h3⟩
        rw [hy, decide_eq_true (show ((0 : Nat) : Int) ≤ A t by omega), decide_eq_true (show A t < (n : Int) by omega)]
        exact ⟨rfl, by omega⟩
  have htot : sm (dn x) n = Cnt.cnt E n := by
    rw [sum_span hc 0 n (by omega) (Nat.le_refl _)]
    rw [Cnt.cnt_congr (C := E) (fun t ht => (hlink t ht).1)]
    show 0 + _ = _
    omega
  have hle := Cnt.cnt_le E n
  have hD0 : 0 < n → dn x 0 = 0 := fun hp => by
    unfold dn; rw [hc 0 hp, Cnt.cnt_zero (B := fun t => decide (A t = ((0 : Nat) : Int))) (fun t ht => decide_eq_false (hlink t ht).2)]; rfl
  have hmono : ∀ i, i ≤ n → sm (dn x) i ≤ 200 := fun i hi => by have := sm_mono (dn x) hi; omega
  have k2 : ∀ (m k i : Nat), n - i = m → m < k → i ≤ n → colophonlaw16_TallyLinks.l2 l0 l1 T k (sm (dn x) i : Int) (i : Int) = some (sm (dn x) n : Int) := by
    intro m
    induction m with
    | zero => intro k i hm hk hi; cases k with
      | zero => omega
      | succ k => unfold colophonlaw16_TallyLinks.l2; rw [en, if_neg (by rw [decide_eq_true_eq]; omega), show i = n by omega]
    | succ m ih => intro k i hm hk hi; cases k with
      | zero => omega
      | succ k =>
        unfold colophonlaw16_TallyLinks.l2
        have hs : sm (dn x) (i + 1) = sm (dn x) i + dn x i := rfl
        have h1 := hmono (i + 1) (by omega)
        rw [en, if_pos (by rw [decide_eq_true_eq]; omega), doubles_in hT (show i < n by omega), Option.bind_some, wi_eq (n := (sm (dn x) i : Int) + (dn x i : Int)) (by omega) (by omega), show (sm (dn x) i : Int) + (dn x i : Int) = (sm (dn x) (i + 1) : Int) by omega, wi_eq (by omega) (by omega), show ((i : Int) + 1) = ((i + 1 : Nat) : Int) by omega]
        exact ih k (i + 1) (by omega) (by omega) (by omega)
  have e2 := k2 n FU 0 (by omega) (by show n < 4611686018427387904; omega) (by omega)
  rw [show (sm (dn x) 0 : Int) = 0 from rfl, show ((0 : Nat) : Int) = 0 from rfl] at e2
  have edb : tally_Tally_Doubles.f (some T) 0 = some 0 := by
    by_cases hp : 0 < n
    · have := doubles_in hT hp
      rw [hD0 hp] at this; exact this
    · exact doubles_out hT (.inr (by omega))
  have edc : tally_Tally_Docs.f (some T) 0 (n : Int) = some ((n : Int) - (Cnt.cnt E n : Int)) := by
    by_cases hp : 0 < n
    · have := docs_in hT hp (Nat.le_refl n)
      rw [show ((0 : Nat) : Int) = 0 from rfl] at this
      rw [this, htot, show sm (dn x) (0 + 1) = 0 by show 0 + dn x 0 = 0; rw [hD0 hp]]
      congr 1
    · have hz : n = 0 := by omega
      rw [docs_out hT (.inr (.inl (by omega)))]
      congr 1; omega
  rw [e1, Option.bind_some]
  simp only []
  rw [eT, Option.bind_some]
  simp only []
  rw [Option.bind_some, e2, Option.bind_some, if_pos (by simp), if_pos (by rw [beq_iff_eq, htot]), edb, Option.bind_some, if_pos (by simp), edc, Option.bind_some, wi_eq (by omega) (by omega)]
  simp
end Go.Proofs.Ytmdemfbkdbilpaa
