/-
  The array of documents. No condition.
-/
import Derived.Test.YthnlihpmpmhidaaPuDocsA
import Derived.Test.YthnlihpmpmhidaaGDocsArrays
namespace Go.Proofs.Ythnlihpmpmhidaa
open Go Go.Gol Docs Text
set_option linter.unusedVariables false
set_option linter.unusedSimpArgs false
set_option maxRecDepth 100000
namespace Docs
theorem turns {l : List Int} (hl : l.length ≤ 1000000000) : (suffix_Turn.f l = some ([], 2) ∧ colophonref09_Turned.f l = some ([], false)) ∨ ∃ x y, suffix_Turn.f l = some (x, 0) ∧ colophonref09_Turned.f l = some (y, true) ∧ ∀ j, j < l.length → 0 ≤ l.getD j 0 ∧ l.getD j 0 < (l.length : Int) := by
  have k1 : ∀ (n : Nat), n ≤ 1000000000 → ∀ (y1 : List Int), y1.length = n → ∀ (m k i : Nat) (x : List Int), n - i = m → m < k → i ≤ n → x.length = n → (∀ j, j < i → x.getD j 0 = -1) → ∃ x', suffix_Turn.l1 y1 k x (i : Int) = some x' ∧ x'.length = n ∧ ∀ j, j < n → x'.getD j 0 = -1 := by
    intro n hn y1 hy m
    induction m with
    | zero => intro k i x hm hk hi hx hj; cases k with
      | zero => omega
      | succ k => unfold suffix_Turn.l1; rw [if_neg (by simp; omega)]; exact ⟨x, rfl, hx, fun j h => hj j (by omega)⟩
    | succ m ih => intro k i x hm hk hi hx hj; cases k with
      | zero => omega
      | succ k =>
        unfold suffix_Turn.l1
        rw [if_pos (by simp; omega), at_g (by omega), Option.bind_some, set?_nat _ (by omega), Option.bind_some, wi_eq (by omega) (by omega), show ((i : Int) + 1) = ((i + 1 : Nat) : Int) by omega]
        refine ih k (i + 1) _ (by omega) (by omega) (by omega) (by simpa using hx) (fun j hji => ?_)
        rw [getD_set (by omega)]
        by_cases e : j = i
        · rw [if_pos e]
        · rw [if_neg e]; exact hj j (by omega)
  have k2 : ∀ (m k k' i : Nat) (x y x5 : List Int), l.length - i = m → m < k → m < k' → i ≤ l.length → x.length = l.length → y.length = l.length → x5.length = l.length →
      (∀ j, j < l.length → (0 ≤ x.getD j 0 ↔ x5.getD j 0 = 1)) → (∀ j, j < i → 0 ≤ l.getD j 0 ∧ l.getD j 0 < (l.length : Int)) →
      (suffix_Turn.l2 l k x (i : Int) = some (.inl ([], 2)) ∧ colophonref09_Turned.l1 l k' y x5 (i : Int) = some (.inl ([], false))) ∨
      ∃ x' y', suffix_Turn.l2 l k x (i : Int) = some (.inr x') ∧ colophonref09_Turned.l1 l k' y x5 (i : Int) = some (.inr y') ∧ ∀ j, j < l.length → 0 ≤ l.getD j 0 ∧ l.getD j 0 < (l.length : Int) := by
    intro m
    induction m with
    | zero => intro k k' i x y x5 hm hk hk' hi hx hy h5 hxy hr; cases k with
      | zero => omega
      | succ k => cases k' with
        | zero => omega
        | succ k' =>
          unfold suffix_Turn.l2 colophonref09_Turned.l1
          rw [if_neg (by simp; omega), if_neg (by simp; omega)]
          exact .inr ⟨x, y, rfl, rfl, fun j h => hr j (by omega)⟩
    | succ m ih => intro k k' i x y x5 hm hk hk' hi hx hy h5 hxy hr; cases k with
      | zero => omega
      | succ k => cases k' with
        | zero => omega
        | succ k' =>
          unfold suffix_Turn.l2 colophonref09_Turned.l1
          have hil : i < l.length := by omega
          rw [if_pos (by simp; omega), if_pos (by simp; omega), at_g hil, Option.bind_some, Option.bind_some]
          by_cases h1 : l.getD i 0 < 0
          · have d1 : decide (l.getD i 0 < 0) = true := by rw [decide_eq_true_eq]; exact h1
            rw [if_pos d1, if_pos d1]; exact .inl ⟨rfl, rfl⟩
          have d1 : ¬ decide (l.getD i 0 < 0) = true := by rw [decide_eq_true_eq]; exact h1
          rw [if_neg d1, if_neg d1]
          by_cases h2 : l.getD i 0 ≥ (l.length : Int)
          · have d2 : decide (l.getD i 0 ≥ (l.length : Int)) = true := by rw [decide_eq_true_eq]; exact h2
            rw [if_pos d2, if_pos d2]; exact .inl ⟨rfl, rfl⟩
          have d2 : ¬ decide (l.getD i 0 ≥ (l.length : Int)) = true := by rw [decide_eq_true_eq]; exact h2
          rw [if_neg d2, if_neg d2]
          have hri : ∀ j, j < i + 1 → 0 ≤ l.getD j 0 ∧ l.getD j 0 < (l.length : Int) := fun j hj => by
            by_cases e : j = i
            · subst e; omega
            · exact hr j (by omega)
          obtain ⟨v, hv⟩ : ∃ v : Nat, l.getD i 0 = (v : Int) := ⟨(l.getD i 0).toNat, by omega⟩
          rw [hv] at h1 h2 ⊢
          have hvl : v < l.length := by omega
          rw [show at? x (v : Int) = some (x.getD v 0) from at_g (by omega), show at? x5 (v : Int) = some (x5.getD v 0) from at_g (by omega)]
          simp only [Option.bind_some]
          by_cases h3 : x.getD v 0 ≥ 0
          · rw [if_pos (by rw [decide_eq_true_eq]; exact h3), if_pos (by rw [beq_iff_eq]; exact (hxy v hvl).1 h3)]; exact .inl ⟨rfl, rfl⟩
          have h3' : ¬ x5.getD v 0 = 1 := fun h => h3 ((hxy v hvl).2 h)
          rw [if_neg (by rw [decide_eq_true_eq]; exact h3), if_neg (by rw [beq_iff_eq]; exact h3'), set?_nat _ (by omega), Option.bind_some, set?_nat _ (by omega), Option.bind_some, at_g (by omega), Option.bind_some, set?_nat _ (by omega), Option.bind_some, wi_eq (by omega) (by omega), show ((i : Int) + 1) = ((i + 1 : Nat) : Int) by omega]
          refine ih k k' (i + 1) _ _ _ (by omega) (by omega) (by omega) (by omega) (by simpa using hx) (by simpa using hy) (by simpa using h5) (fun j hj => ?_) hri
          rw [getD_set (by omega), getD_set (by omega)]
          by_cases e : j = v
          · rw [if_pos e, if_pos e]; simp
          · rw [if_neg e, if_neg e]; exact hxy j hj
  obtain ⟨x, ex, lx, hx⟩ := k1 l.length hl (List.replicate l.length 0) (by simp) l.length FU 0 (List.replicate l.length 0) (by omega) (by show l.length < 4611686018427387904; omega) (by omega) (by simp) (fun j h => by omega)
  have := k2 l.length FU FU 0 x (List.replicate l.length 0) (List.replicate l.length 0) (by omega) (by show l.length < 4611686018427387904; omega) (by show l.length < 4611686018427387904; omega) (by omega) lx (by simp) (by simp) (fun j hj => by
    rw [hx j hj]; simp [List.getD_eq_getElem?_getD, List.getElem?_replicate, hj]) (fun j h => by omega)
  rw [show ((0 : Nat) : Int) = 0 from rfl] at this ex
  unfold suffix_Turn.f colophonref09_Turned.f
  rw [make?_nat _ (by omega), Option.bind_some, ex, Option.bind_some, make?_nat _ (by omega), Option.bind_some, Option.bind_some]
  rcases this with ⟨h1, h2⟩ | ⟨x', y', h1, h2, h3⟩
  · rw [h1, h2]; exact .inl ⟨rfl, rfl⟩
  · rw [h1, h2]; exact .inr ⟨x', y', rfl, rfl, h3⟩
theorem refSym_len (l : List (List Int)) (h1 : l.length ≤ 256) (h2 : tot l l.length ≤ 65536) : ∃ r, colophonref08_Symbols.f l = some r ∧ r.length = stt l l.length := by
  have hst : stt l l.length = tot l l.length + l.length := rfl
  have k2 : ∀ (v : List Int), v.length ≤ 100000 → ∀ (m k o : Nat) (x : List Int), v.length - o = m → m < k → o ≤ v.length → x.length ≤ 200000 + o → ∃ r, colophonref08_Symbols.l2 l v k x (o : Int) = some r ∧ r.length = x.length + (v.length - o) := by
    intro v hv m
    induction m with
    | zero => intro k o x hm hk ho hx; cases k with
      | zero => omega
      | succ k => unfold colophonref08_Symbols.l2; rw [if_neg (by simp; omega)]; exact ⟨x, rfl, by omega⟩
    | succ m ih => intro k o x hm hk ho hx; cases k with
      | zero => omega
      | succ k =>
        unfold colophonref08_Symbols.l2
        rw [if_pos (by simp; omega), at_g (by omega), Option.bind_some, app?_eq (by simp; omega), Option.bind_some, wi_eq (n := (o : Int) + 1) (by omega) (by omega), show ((o : Int) + 1) = ((o + 1 : Nat) : Int) by omega]
        obtain ⟨r, e, hr⟩ := ih k (o + 1) (x ++ [wi (wi (v.getD o 0) + (l.length : Int))]) (by omega) (by omega) (by omega) (by simp; omega)
        exact ⟨r, e, by rw [hr, List.length_append, List.length_singleton]; omega⟩
  have k1 : ∀ (m k i : Nat) (x : List Int), l.length - i = m → m < k → i ≤ l.length → x.length = stt l i → ∃ r, colophonref08_Symbols.l1 l k x (i : Int) = some r ∧ r.length = stt l l.length := by
    intro m
    induction m with
    | zero => intro k i x hm hk hi hx; cases k with
      | zero => omega
      | succ k => unfold colophonref08_Symbols.l1; rw [if_neg (by simp; omega)]; exact ⟨x, rfl, by rw [hx, show i = l.length by omega]⟩
    | succ m ih => intro k i x hm hk hi hx; cases k with
      | zero => omega
      | succ k =>
        unfold colophonref08_Symbols.l1
        have hil : i < l.length := by omega
        have hlt := stt_lt l hil
        have hsu := stt_succ l i
        rw [if_pos (by simp; omega), at_get [] hil, Option.bind_some]
        obtain ⟨r, e, hr⟩ := k2 (l.getD i []) (by show (D l i).length ≤ _; omega) (l.getD i []).length FU 0 x (by omega) (by show (D l i).length < 4611686018427387904; omega) (by omega) (by omega)
        rw [show ((0 : Nat) : Int) = 0 from rfl] at e
        have hr' : r.length = x.length + (D l i).length := hr
        rw [e, Option.bind_some, app?_eq (by simp; omega), Option.bind_some, wi_eq (by omega) (by omega), show ((i : Int) + 1) = ((i + 1 : Nat) : Int) by omega]
        exact ih k (i + 1) _ (by omega) (by omega) (by omega) (by rw [List.length_append, List.length_singleton, hr']; omega)
  obtain ⟨r, e, hr⟩ := k1 l.length FU 0 [] (by omega) (by show l.length < 4611686018427387904; omega) (by omega) rfl
  unfold colophonref08_Symbols.f
  rw [show ((0 : Nat) : Int) = 0 from rfl] at e
  rw [e]; exact ⟨r, rfl, hr⟩
theorem refDoc_ok {l : List (List Int)} (hl : l.length ≤ 256) (ht : tot l l.length ≤ 65536) (d o : Nat) (hd : d < l.length) (ho : o ≤ (D l d).length) :
    colophonref08_Doc.f l ((stt l d + o : Nat) : Int) = some ((d : Int), (o : Int)) := by
  have hst : stt l l.length = tot l l.length + l.length := rfl
  have hlt := stt_lt l hd
  have key : ∀ (m k i : Nat), d - i = m → m < k → i ≤ d → colophonref08_Doc.l1 l k ((stt l d + o - stt l i : Nat) : Int) (i : Int) = some (.inl ((d : Int), (o : Int))) := by
    intro m
    induction m with
    | zero => intro k i hm hk hi; cases k with
      | zero => omega
      | succ k =>
        have : i = d := by omega
        subst this
        unfold colophonref08_Doc.l1
        rw [if_pos (by simp; omega), at_get [] hd, Option.bind_some, if_pos (by show decide (_ ≤ ((D l i).length : Int)) = true; rw [decide_eq_true_eq]; omega), Nat.add_sub_cancel_left]
    | succ m ih => intro k i hm hk hi; cases k with
      | zero => omega
      | succ k =>
        unfold colophonref08_Doc.l1
        have h1 := stt_mono l (show i + 1 ≤ d by omega)
        have h2 := stt_succ l i
        rw [if_pos (by simp; omega), at_get [] (by omega), Option.bind_some]
        show (if decide (((stt l d + o - stt l i : Nat) : Int) ≤ ((D l i).length : Int)) then _ else colophonref08_Doc.l1 l k (wi (((stt l d + o - stt l i : Nat) : Int) - wi (((D l i).length : Int) + 1))) _) = _
        rw [if_neg (by rw [decide_eq_true_eq]; omega), wi_eq (n := ((D l i).length : Int) + 1) (by omega) (by omega), wi_eq (n := ((stt l d + o - stt l i : Nat) : Int) - (((D l i).length : Int) + 1)) (by omega) (by omega), show ((stt l d + o - stt l i : Nat) : Int) - (((D l i).length : Int) + 1) = ((stt l d + o - stt l (i + 1) : Nat) : Int) by omega, wi_eq (by omega) (by omega), show ((i : Int) + 1) = ((i + 1 : Nat) : Int) by omega]
        exact ih k (i + 1) (by omega) (by omega) (by omega)
  have := key d FU 0 (by omega) (by show d < 4611686018427387904; omega) (by omega)
  rw [show stt l 0 = 0 from rfl, Nat.sub_zero, show ((0 : Nat) : Int) = 0 from rfl] at this
  unfold colophonref08_Doc.f
  rw [if_neg (by simp; omega), this]; rfl
/-- what stands in the array -/
def Arr (l : List (List Int)) (a : List Int) (j : Nat) (v : Int) : Prop := ∃ d o : Nat, d < l.length ∧ o ≤ (D l d).length ∧ a.getD j 0 = ((stt l d + o : Nat) : Int) ∧ v = (d : Int)
theorem array_ok {l : List (List Int)} {T : List (List Int) × List Int × Int} (h : Txt l T) (hl : l.length ≤ 256) (ht : tot l l.length ≤ 65536) (a : List Int) (ha : a.length = stt l l.length) (hr : ∀ j, j < a.length → 0 ≤ a.getD j 0 ∧ a.getD j 0 < (a.length : Int)) :
    ∃ x, docs_Array.l1 a T FU (List.replicate a.length 0) 0 = some x ∧ x.length = a.length ∧ ∀ j, j < a.length → Arr l a j (x.getD j 0) := by
  have hst : stt l l.length = tot l l.length + l.length := rfl
  have key : ∀ (m k i : Nat) (x : List Int), a.length - i = m → m < k → i ≤ a.length → x.length = a.length → (∀ j, j < i → Arr l a j (x.getD j 0)) → ∃ x', docs_Array.l1 a T k x (i : Int) = some x' ∧ x'.length = a.length ∧ ∀ j, j < a.length → Arr l a j (x'.getD j 0) := by
    intro m
    induction m with
    | zero => intro k i x hm hk hi hx hj; cases k with
      | zero => omega
      | succ k => unfold docs_Array.l1; rw [if_neg (by simp; omega)]; exact ⟨x, rfl, hx, fun j h => hj j (by omega)⟩
    | succ m ih => intro k i x hm hk hi hx hj; cases k with
      | zero => omega
      | succ k =>
        unfold docs_Array.l1
        have hil : i < a.length := by omega
        have hv := hr i hil
        obtain ⟨d, o, hd, ho, e⟩ := place l (n := l.length) (p := (a.getD i 0).toNat) (by omega)
        have e' : a.getD i 0 = ((stt l d + o : Nat) : Int) := by omega
        rw [if_pos (by simp; omega), at_g hil, Option.bind_some, e', doc_ok h hl ht d o hd ho, Option.bind_some, at_g (by omega), Option.bind_some, set?_nat _ (by omega), Option.bind_some, wi_eq (by omega) (by omega), show ((i : Int) + 1) = ((i + 1 : Nat) : Int) by omega]
        refine ih k (i + 1) _ (by omega) (by omega) (by omega) (by simpa using hx) (fun j hji => ?_)
        rw [getD_set (by omega)]
        by_cases ej : j = i
        · rw [if_pos ej, ej]; exact ⟨d, o, hd, ho, e', rfl⟩
        · rw [if_neg ej]; exact hj j (by omega)
  exact key a.length FU 0 _ (by omega) (by show a.length < 4611686018427387904; omega) (by omega) (by simp) (fun j h => by omega)
theorem docs_byte {e e2 : TypeId} {l : List (List Int)} (F : Fits (.slice e (.slice e2 (.int .u8))) l) : (∀ i, i < l.length → (D l i).length ≤ maxLen) ∧ l.length ≤ maxLen := by
  refine ⟨fun i hi => ?_, F.1⟩
  have e : D l i = l[i] := by show l.getD i [] = _; rw [List.getD_eq_getElem?_getD, List.getElem?_eq_getElem hi]; rfl
  rw [e]; exact (F.2 _ (List.getElem_mem hi)).1
end Docs
theorem pure_DocsArrays (l0 : List (List Int)) (F0 : Fits (.slice 44 (.slice 5 (.int .u8))) l0) (l1 : List Int) (F1 : Fits (.slice 3 (.int .i64)) l1) : colophonlaw12_DocsArrays.f l0 l1 = some true := by
  obtain ⟨hd, hl⟩ := docs_byte F0
  unfold colophonlaw12_DocsArrays.f
  rw [first_f, Option.bind_some, if_neg (by simp)]
  obtain ⟨b, e, hs⟩ := small_ok l0 hd hl 400 256 (by decide) (by decide)
  rw [show ((400 : Nat) : Int) = 400 from rfl, show ((256 : Nat) : Int) = 256 from rfl] at e
  rw [e, Option.bind_some]
  cases b with
  | false => rfl
  | true =>
    obtain ⟨h256, htot⟩ := hs rfl
    rw [if_neg (by simp)]
    by_cases h2 : l1.length > 1000
    · rw [if_pos (by simp; omega)]
    rw [if_neg (by simp; omega)]
    obtain ⟨T, eT, hT⟩ := new_ok h256 (show tot l0 l0.length ≤ 65536 by omega)
    obtain ⟨r, er, hr⟩ := refSym_len l0 h256 (by omega)
    rw [eT, Option.bind_some]
    rcases turns (l := l1) (by omega) with ⟨e1, e2⟩ | ⟨x, y, e1, e2, hrg⟩
    · have ea : docs_Array.f (some T) l1 = some ([], 2) := by unfold docs_Array.f; simp only []; rw [e1, Option.bind_some, if_pos (by simp)]
      simp only []
      rw [ea, Option.bind_some, e2, Option.bind_some, if_pos (by simp)]; rfl
    · by_cases hn : l1.length = stt l0 l0.length
      · obtain ⟨z, ez, lz, hz⟩ := array_ok hT h256 (by omega) l1 hn hrg
        have ea : docs_Array.f (some T) l1 = some (z, 0) := by
          unfold docs_Array.f; simp only []; rw [e1, Option.bind_some, if_neg (by simp), len_ok hT, Option.bind_some, if_neg (by rw [bne_iff_ne]; omega), make?_nat _ (by omega), Option.bind_some, ez]; rfl
        simp only []
        rw [ea, Option.bind_some, e2, Option.bind_some, if_neg (by simp), er, Option.bind_some, if_neg (by rw [bne_iff_ne]; omega), if_neg (by simp), if_neg (by rw [bne_iff_ne]; simp only []; omega)]
        have key : ∀ (m k i : Nat), l1.length - i = m → m < k → colophonlaw12_DocsArrays.l1 l0 l1 (z, 0) k (i : Int) = some (.inr ()) := by
          intro m
          induction m with
          | zero => intro k i hm hk; cases k with
            | zero => omega
            | succ k => unfold colophonlaw12_DocsArrays.l1; rw [if_neg (by simp; omega)]
          | succ m ih => intro k i hm hk; cases k with
            | zero => omega
            | succ k =>
              unfold colophonlaw12_DocsArrays.l1
              have hil : i < l1.length := by omega
              obtain ⟨d, o, hd, ho, e', ev⟩ := hz i hil
              rw [if_pos (by simp; omega), at_g hil, Option.bind_some, e', refDoc_ok h256 (by omega) d o hd ho, Option.bind_some]
              simp only []
              rw [at_g (by omega), Option.bind_some, ev, if_neg (by simp), wi_eq (by omega) (by omega), show ((i : Int) + 1) = ((i + 1 : Nat) : Int) by omega]
              exact ih k (i + 1) (by omega) (by omega)
        have := key l1.length FU 0 (by omega) (by show l1.length < 4611686018427387904; omega)
        rw [show ((0 : Nat) : Int) = 0 from rfl] at this
        rw [this]; rfl
      · have ea : docs_Array.f (some T) l1 = some ([], 2) := by
          unfold docs_Array.f; simp only []; rw [e1, Option.bind_some, if_neg (by simp), len_ok hT, Option.bind_some, if_pos (by rw [bne_iff_ne]; omega)]
        simp only []
        rw [ea, Option.bind_some, e2, Option.bind_some, if_neg (by simp), er, Option.bind_some, if_pos (by rw [bne_iff_ne]; omega)]; rfl
end Go.Proofs.Ythnlihpmpmhidaa
