/-
  Which documents are a collection, in plain words. No condition.
-/
import Derived.Test.YtoonceaeaigkpaaPuTextA
import Derived.Test.YtoonceaeaigkpaaGTextMakes
namespace Go.Proofs.Ytoonceaeaigkpaa
open Go Go.Gol Text
set_option linter.unusedVariables false
set_option linter.unusedSimpArgs false
set_option maxRecDepth 100000
namespace Text
theorem docs_byte {e e2 : TypeId} {l : List (List Int)} (F : Fits (.slice e (.slice e2 (.int .u8))) l) : (∀ i, i < l.length → Byte (D l i)) ∧ (∀ i, i < l.length → (D l i).length ≤ maxLen) := by
  refine ⟨fun i hi v hv => ?_, fun i hi => ?_⟩
  · have e : D l i = l[i] := by show l.getD i [] = _; rw [List.getD_eq_getElem?_getD, List.getElem?_eq_getElem hi]; rfl
    rw [e] at hv
    exact (F.2 _ (List.getElem_mem hi)).2 v hv
  · have e : D l i = l[i] := by show l.getD i [] = _; rw [List.getD_eq_getElem?_getD, List.getElem?_eq_getElem hi]; rfl
    rw [e]; exact (F.2 _ (List.getElem_mem hi)).1
theorem own_ok (l : List (List Int)) (hl : l.length ≤ 5864062014800) : colophonlaw08_TextMakes.l1 l FU [] 0 = some l := by
  have key : ∀ (m k i : Nat), l.length - i = m → m < k → i ≤ l.length → colophonlaw08_TextMakes.l1 l k (l.take i) (i : Int) = some l := by
    intro m
    induction m with
    | zero => intro k i hm hk hi; cases k with
      | zero => omega
      | succ k => rw [colophonlaw08_TextMakes.l1, if_neg (by rw [decide_eq_true_eq]; omega), show i = l.length by omega, List.take_length]
    | succ m ih => intro k i hm hk hi; cases k with
      | zero => omega
      | succ k =>
        have hil : i < l.length := by omega
        have e1 : app? 5864062014805 (l.take i) [l.getD i []] = some (l.take (i + 1)) := by
          rw [app?_eq (by rw [List.length_take, List.length_cons, List.length_nil]; omega), ← take_one hil]
        rw [colophonlaw08_TextMakes.l1, if_pos (by rw [decide_eq_true_eq]; omega), at_get [] hil, Option.bind_some, e1, wi_eq (n := (i : Int) + 1) (by omega) (by omega), show ((i : Int) + 1) = ((i + 1 : Nat) : Int) by omega, Option.bind_some, ih k (i + 1) (by omega) (by omega) (by omega)]
        by_cases c1 : (i : Int) < 300
        · rw [if_pos (by rw [decide_eq_true_eq]; exact c1)]
          by_cases c2 : ((l.getD i []).length : Int) ≤ 70000
          · rw [if_pos (by rw [decide_eq_true_eq]; exact c2), app?_eq (by rw [List.length_nil]; omega), Option.bind_some, List.nil_append, e1, Option.bind_some, ih k (i + 1) (by omega) (by omega) (by omega)]
          · rw [if_neg (by rw [decide_eq_true_eq]; exact c2)]
        · rw [if_neg (by rw [decide_eq_true_eq]; exact c1)]
  have := key l.length FU 0 (by omega) (by show l.length < 4611686018427387904; omega) (by omega)
  rw [show ((0 : Nat) : Int) = 0 from rfl, List.take_zero] at this
  exact this
theorem right_ok (l : List (List Int)) (hl : l.length ≤ 5864062014800) : colophonref08_Right.f l = some (decide (l.length ≤ 256 ∧ tot l l.length ≤ 65536)) := by
  unfold colophonref08_Right.f
  by_cases h1 : l.length > 256
  · rw [if_pos (by rw [decide_eq_true_eq]; omega), decide_eq_false (by omega)]
  rw [if_neg (by rw [decide_eq_true_eq]; omega)]
  have key : ∀ (m k i : Nat), l.length - i = m → m < k → i ≤ l.length → tot l i ≤ 65536 → colophonref08_Right.l1 l k ((65536 - tot l i : Nat) : Int) (i : Int) = some (if tot l l.length ≤ 65536 then .inr () else .inl false) := by
    intro m
    induction m with
    | zero => intro k i hm hk hi ht; cases k with
      | zero => omega
      | succ k =>
        have e : i = l.length := by omega
        subst e
        rw [colophonref08_Right.l1, if_neg (by rw [decide_eq_true_eq]; omega), if_pos ht]
    | succ m ih => intro k i hm hk hi ht; cases k with
      | zero => omega
      | succ k =>
        have hil : i < l.length := by omega
        have e1 : tot l (i + 1) = tot l i + (D l i).length := rfl
        have hm1 := tot_mono l (show i + 1 ≤ l.length from hil)
        rw [colophonref08_Right.l1, if_pos (by rw [decide_eq_true_eq]; omega), at_get [] hil, Option.bind_some]
        show (if decide (((D l i).length : Int) > ((65536 - tot l i : Nat) : Int)) = true then _ else colophonref08_Right.l1 l k (wi (((65536 - tot l i : Nat) : Int) - ((D l i).length : Int))) _) = _
        by_cases c : (D l i).length > 65536 - tot l i
        · rw [if_pos (by rw [decide_eq_true_eq]; omega), if_neg (by omega)]
        · rw [if_neg (by rw [decide_eq_true_eq]; omega), wi_eq (n := ((65536 - tot l i : Nat) : Int) - ((D l i).length : Int)) (by omega) (by omega), wi_eq (by omega) (by omega), show ((i : Int) + 1) = ((i + 1 : Nat) : Int) by omega, show ((65536 - tot l i : Nat) : Int) - ((D l i).length : Int) = ((65536 - tot l (i + 1) : Nat) : Int) by omega]
          exact ih k (i + 1) (by omega) (by omega) (by omega) (by omega)
  have := key l.length FU 0 (by omega) (by show l.length < 4611686018427387904; omega) (by omega) (by show 0 ≤ 65536; omega)
  rw [show ((0 : Nat) : Int) = 0 from rfl, show ((65536 - tot l 0 : Nat) : Int) = 65536 from rfl] at this
  rw [this, Option.bind_some]
  by_cases h2 : tot l l.length ≤ 65536
  · rw [if_pos h2, decide_eq_true ⟨by omega, h2⟩]
  · rw [if_neg h2, decide_eq_false (fun h => h2 h.2)]
theorem new_no {l : List (List Int)} (h : ¬ (l.length ≤ 256 ∧ tot l l.length ≤ 65536)) : text_New.f l = some (none, 80) := by
  unfold text_New.f
  by_cases h1 : l.length > 256
  · rw [if_pos (by rw [decide_eq_true_eq]; omega)]
  rw [if_neg (by rw [decide_eq_true_eq]; omega)]
  have h2 : 65536 < tot l l.length := by omega
  have key : ∀ (m k i : Nat) (s : List Int), l.length - i = m → m < k → i ≤ l.length → s.length = i → tot l i ≤ 65536 → ∃ q, text_New.l1 l k (i : Int) (l.take i, s, (stt l i : Int)) = some (.inl (80, q)) := by
    intro m
    induction m with
    | zero => intro k i s hm hk hi hs ht
              have e : i = l.length := by omega
              subst e; omega
    | succ m ih => intro k i s hm hk hi hs ht; cases k with
      | zero => omega
      | succ k =>
        unfold text_New.l1
        have hil : i < l.length := by omega
        have e1 : tot l (i + 1) = tot l i + (D l i).length := rfl
        have e2 : stt l i = tot l i + i := rfl
        rw [if_pos (by rw [decide_eq_true_eq]; omega), at_get [] hil, Option.bind_some]
        simp only []
        have e3 : wi (65536 - (wi ((stt l i : Int) - ((l.take i).length : Int)))) = ((65536 - tot l i : Nat) : Int) := by
          rw [List.length_take, Nat.min_eq_left (by omega), wi_eq (n := (stt l i : Int) - (i : Int)) (by omega) (by omega), wi_eq (by omega) (by omega)]; omega
        rw [e3]
        by_cases c : (D l i).length > 65536 - tot l i
        · rw [if_pos (by rw [decide_eq_true_eq]; show ((D l i).length : Int) > _; omega)]; exact ⟨_, rfl⟩
        rw [if_neg (by rw [decide_eq_true_eq]; show ¬ (((D l i).length : Int) > _); omega), app?_eq (by simp; omega), Option.bind_some, clone_f (l.getD i []) (by show (D l i).length ≤ _; omega), Option.bind_some, app?_eq (by simp; omega), Option.bind_some]
        rw [take_one hil, wi_eq (n := ((l.getD i []).length : Int) + 1) (by omega) (by show ((D l i).length : Int) + 1 < _; omega), wi_eq (n := (stt l i : Int) + (((l.getD i []).length : Int) + 1)) (by omega) (by show (stt l i : Int) + (((D l i).length : Int) + 1) < _; omega),
          show (stt l i : Int) + (((l.getD i []).length : Int) + 1) = (stt l (i + 1) : Int) by rw [stt_succ]; show (stt l i : Int) + (((D l i).length : Int) + 1) = _; omega, wi_eq (by omega) (by omega), show ((i : Int) + 1) = ((i + 1 : Nat) : Int) by omega]
        exact ih k (i + 1) _ (by omega) (by omega) (by omega) (by simp [hs]) (by omega)
  obtain ⟨q, e⟩ := key l.length FU 0 [] (by omega) (by show l.length < 4611686018427387904; omega) (by omega) rfl (by show 0 ≤ 65536; omega)
  rw [show ((0 : Nat) : Int) = 0 from rfl, show (stt l 0 : Int) = 0 from rfl, List.take_zero] at e
  rw [e]; rfl
/-! ### bytes turned -/
theorem turn_l3 (i : Nat) (v : List Int) (L : List Nat) (hi : L[i]? = some v.length) (hv : v.length ≤ 70000) : ∀ (m k j : Nat) (X : List (List Int)), v.length - j = m → m < k → j ≤ v.length → X.map List.length = L →
    ∃ Y, colophonlaw08_TextMakes.l3 (i : Int) v k X (j : Int) = some Y ∧ Y.map List.length = L := by
  intro m
  induction m with
  | zero => intro k j X hm hk hj hX; cases k with
    | zero => omega
    | succ k => exact ⟨X, by rw [colophonlaw08_TextMakes.l3, if_neg (by rw [decide_eq_true_eq]; omega)], hX⟩
  | succ m ih => intro k j X hm hk hj hX; cases k with
    | zero => omega
    | succ k =>
      have hXi : X[i]?.map List.length = some v.length := by rw [← List.getElem?_map, hX]; exact hi
      obtain ⟨row, hr, hrl⟩ := Option.map_eq_some_iff.1 hXi
      have hjr : j < row.length := by omega
      rw [colophonlaw08_TextMakes.l3, if_pos (by rw [decide_eq_true_eq]; omega), at?_nat, hr, Option.bind_some, at?_nat, List.getElem?_eq_getElem hjr, Option.bind_some, set?_nat _ hjr, Option.bind_some, Int.toNat_natCast, wi_eq (by omega) (by omega), show ((j : Int) + 1) = ((j + 1 : Nat) : Int) by omega]
      refine ih k (j + 1) _ (by omega) (by omega) (by omega) ?_
      rw [List.map_set, List.length_set, hX, hrl]
      apply List.ext_getElem?
      intro q
      rw [List.getElem?_set]
      by_cases hq : i = q
      · subst hq
        rw [if_pos rfl, hi]
        split
        · rfl
        · rename_i hno
          rw [List.getElem?_eq_none (by omega)] at hi; cases hi
      · rw [if_neg hq]
theorem turn_l2 (l : List (List Int)) (L : List Nat) (hL : L = l.map List.length) (hl : l.length ≤ 300) (h7 : ∀ x ∈ L, x ≤ 70000) : ∀ (m k i : Nat) (X : List (List Int)), l.length - i = m → m < k → i ≤ l.length → X.map List.length = L → colophonlaw08_TextMakes.l2 l k X (i : Int) = some () := by
  intro m
  induction m with
  | zero => intro k i X hm hk hi hX; cases k with
    | zero => omega
    | succ k => rw [colophonlaw08_TextMakes.l2, if_neg (by rw [decide_eq_true_eq]; omega)]
  | succ m ih => intro k i X hm hk hi hX; cases k with
    | zero => omega
    | succ k =>
      have hXl : X.length = l.length := by
        have := congrArg List.length hX
        rw [List.length_map, hL, List.length_map] at this; exact this
      have hil : i < X.length := by omega
      have hLi : L[i]? = some X[i].length := by rw [← hX, List.getElem?_map, List.getElem?_eq_getElem hil]; rfl
      have h70 : X[i].length ≤ 70000 := h7 _ (List.mem_of_getElem? hLi)
      obtain ⟨Y, e, hY⟩ := turn_l3 i X[i] L hLi h70 X[i].length FU 0 X (by omega) (by show X[i].length < 4611686018427387904; omega) (by omega) hX
      rw [show ((0 : Nat) : Int) = 0 from rfl] at e
      rw [colophonlaw08_TextMakes.l2, if_pos (by rw [decide_eq_true_eq]; omega), at?_nat, List.getElem?_eq_getElem hil, Option.bind_some, e, Option.bind_some, wi_eq (by omega) (by omega), show ((i : Int) + 1) = ((i + 1 : Nat) : Int) by omega]
      exact ih k (i + 1) Y (by omega) (by omega) (by omega) hY
/-! ### the document's answers -/
theorem rsym_l2 (l : List (List Int)) (v S : List Int) (hl : l.length ≤ 256) (hv : Byte v) (hs : S.length + v.length ≤ 1000000) : ∀ (m k o : Nat), v.length - o = m → m < k → o ≤ v.length →
    colophonref08_Symbols.l2 l v k (S ++ (v.take o).map ((l.length : Int) + ·)) (o : Int) = some (S ++ v.map ((l.length : Int) + ·)) := by
  intro m
  induction m with
  | zero => intro k o hm hk ho; cases k with
    | zero => omega
    | succ k => rw [colophonref08_Symbols.l2, if_neg (by rw [decide_eq_true_eq]; omega), show o = v.length by omega, List.take_length]
  | succ m ih => intro k o hm hk ho; cases k with
    | zero => omega
    | succ k =>
      have hol : o < v.length := by omega
      have hb := hv _ (List.getElem_mem hol)
      have := ih k (o + 1) (by omega) (by omega) (by omega)
      rw [List.take_add_one, List.getElem?_eq_getElem hol, Option.toList_some, List.map_append, ← List.append_assoc] at this
      rw [colophonref08_Symbols.l2, if_pos (by rw [decide_eq_true_eq]; omega), at?_nat, List.getElem?_eq_getElem hol, Option.bind_some, wi_eq (n := v[o]) (by omega) (by omega), wi_eq (n := v[o] + (l.length : Int)) (by omega) (by omega), app?_eq (by rw [List.length_append, List.length_map, List.length_take, List.length_cons, List.length_nil]; omega), Option.bind_some, wi_eq (by omega) (by omega), show ((o : Int) + 1) = ((o + 1 : Nat) : Int) by omega, show v[o] + (l.length : Int) = (l.length : Int) + v[o] by omega]
      exact this
theorem rsym_ok (l : List (List Int)) (hl : l.length ≤ 256) (ht : tot l l.length ≤ 65536) (hb : ∀ i, i < l.length → Byte (D l i)) : colophonref08_Symbols.f l = some (sy l l.length) := by
  unfold colophonref08_Symbols.f
  have key : ∀ (m k i : Nat), l.length - i = m → m < k → i ≤ l.length → colophonref08_Symbols.l1 l k (sy l i) (i : Int) = some (sy l l.length) := by
    intro m
    induction m with
    | zero => intro k i hm hk hi; cases k with
      | zero => omega
      | succ k => rw [colophonref08_Symbols.l1, if_neg (by rw [decide_eq_true_eq]; omega), show i = l.length by omega]
    | succ m ih => intro k i hm hk hi; cases k with
      | zero => omega
      | succ k =>
        have hil : i < l.length := by omega
        have ht1 := tot_mono l (show i + 1 ≤ l.length from hil)
        have e1 : tot l (i + 1) = tot l i + (D l i).length := rfl
        have e2 : stt l i = tot l i + i := rfl
        have h2 := rsym_l2 l (D l i) (sy l i) hl (hb i hil) (by rw [sy_len]; omega) (D l i).length FU 0 (by omega) (by show (D l i).length < 4611686018427387904; omega) (by omega)
        rw [show ((0 : Nat) : Int) = 0 from rfl, List.take_zero, List.map_nil, List.append_nil] at h2
        rw [colophonref08_Symbols.l1, if_pos (by rw [decide_eq_true_eq]; omega), at_get [] hil, Option.bind_some, h2, Option.bind_some, app?_eq (by rw [List.length_append, sy_len, List.length_map, List.length_cons, List.length_nil]; omega), Option.bind_some, wi_eq (by omega) (by omega), show ((i : Int) + 1) = ((i + 1 : Nat) : Int) by omega]
        exact ih k (i + 1) (by omega) (by omega) (by omega)
  have := key l.length FU 0 (by omega) (by show l.length < 4611686018427387904; omega) (by omega)
  rw [show ((0 : Nat) : Int) = 0 from rfl] at this
  rw [show ([] : List Int) = sy l 0 from rfl, this]; rfl
theorem rsame_ok (a : List Int) (ha : a.length ≤ 1000000) : colophonref08_Same.f a a = some true := by
  unfold colophonref08_Same.f
  rw [if_neg (by simp)]
  have key : ∀ (m k i : Nat), a.length - i = m → m < k → i ≤ a.length → colophonref08_Same.l1 a a k (i : Int) = some (.inr ()) := by
    intro m
    induction m with
    | zero => intro k i hm hk hi; cases k with
      | zero => omega
      | succ k => rw [colophonref08_Same.l1, if_neg (by rw [decide_eq_true_eq]; omega)]
    | succ m ih => intro k i hm hk hi; cases k with
      | zero => omega
      | succ k =>
        have hil : i < a.length := by omega
        rw [colophonref08_Same.l1, if_pos (by rw [decide_eq_true_eq]; omega), at?_nat, List.getElem?_eq_getElem hil, Option.bind_some, Option.bind_some, if_neg (by simp), wi_eq (by omega) (by omega), show ((i : Int) + 1) = ((i + 1 : Nat) : Int) by omega]
        exact ih k (i + 1) (by omega) (by omega) (by omega)
  have := key a.length FU 0 (by omega) (by show a.length < 4611686018427387904; omega) (by omega)
  rw [show ((0 : Nat) : Int) = 0 from rfl] at this
  rw [this]; rfl
theorem rdoc_ok (l : List (List Int)) (hl : l.length ≤ 256) (ht : tot l l.length ≤ 65536) {p : Int} (hp : p < 9223372036854775808) :
    (p < 0 → colophonref08_Doc.f l p = some (-1, -1)) ∧ ((stt l l.length : Int) ≤ p → colophonref08_Doc.f l p = some (-1, -1)) ∧ ∀ d o : Nat, d < l.length → o ≤ (D l d).length → p = ((stt l d + o : Nat) : Int) → colophonref08_Doc.f l p = some ((d : Int), (o : Int)) := by
  have hF : l.length < FU := by show l.length < 4611686018427387904; omega
  have hsl : stt l l.length = tot l l.length + l.length := rfl
  refine ⟨fun h => ?_, fun h => ?_, fun d o hd ho h => ?_⟩
  · unfold colophonref08_Doc.f; rw [if_pos (by rw [decide_eq_true_eq]; exact h)]
  · unfold colophonref08_Doc.f
    have key : ∀ (m k i : Nat), l.length - i = m → m < k → i ≤ l.length → colophonref08_Doc.l1 l k (p - (stt l i : Int)) (i : Int) = some (.inr ()) := by
      intro m
      induction m with
      | zero => intro k i hm hk hi; cases k with
        | zero => omega
        | succ k => rw [colophonref08_Doc.l1, if_neg (by rw [decide_eq_true_eq]; omega)]
      | succ m ih => intro k i hm hk hi; cases k with
        | zero => omega
        | succ k =>
          have hil : i < l.length := by omega
          have hs := stt_mono l (show i + 1 ≤ l.length from hil)
          rw [stt_succ] at hs
          rw [colophonref08_Doc.l1, if_pos (by rw [decide_eq_true_eq]; omega), at_get [] hil, Option.bind_some]
          show (if decide (p - (stt l i : Int) ≤ ((D l i).length : Int)) = true then _ else colophonref08_Doc.l1 l k (wi (p - (stt l i : Int) - (wi (((D l i).length : Int) + 1)))) _) = _
          rw [if_neg (by rw [decide_eq_true_eq]; omega), wi_eq (n := ((D l i).length : Int) + 1) (by omega) (by omega), wi_eq (n := p - _ - _) (by omega) (by omega), wi_eq (by omega) (by omega), show ((i : Int) + 1) = ((i + 1 : Nat) : Int) by omega, show p - (stt l i : Int) - (((D l i).length : Int) + 1) = p - (stt l (i + 1) : Int) by rw [stt_succ]; omega]
          exact ih k (i + 1) (by omega) (by omega) (by omega)
    have := key l.length FU 0 (by omega) hF (by omega)
    rw [show ((0 : Nat) : Int) = 0 from rfl, show (stt l 0 : Int) = 0 from rfl, Int.sub_zero] at this
    rw [if_neg (by rw [decide_eq_true_eq]; omega), this]; rfl
  · unfold colophonref08_Doc.f
    have key : ∀ (m k i : Nat), d - i = m → m < k → i ≤ d → colophonref08_Doc.l1 l k (p - (stt l i : Int)) (i : Int) = some (.inl ((d : Int), (o : Int))) := by
      intro m
      induction m with
      | zero => intro k i hm hk hi; cases k with
        | zero => omega
        | succ k =>
          have e : i = d := by omega
          subst e
          rw [colophonref08_Doc.l1, if_pos (by rw [decide_eq_true_eq]; omega), at_get [] hd, Option.bind_some]
          show (if decide (p - (stt l i : Int) ≤ ((D l i).length : Int)) = true then _ else _) = _
          rw [if_pos (by rw [decide_eq_true_eq]; omega), show p - (stt l i : Int) = (o : Int) by omega]
      | succ m ih => intro k i hm hk hi; cases k with
        | zero => omega
        | succ k =>
          have hil : i < l.length := by omega
          have hs := stt_lt l (show i < d by omega)
          have hs2 := stt_mono l (show d + 1 ≤ l.length from hd)
          rw [stt_succ] at hs2
          rw [colophonref08_Doc.l1, if_pos (by rw [decide_eq_true_eq]; omega), at_get [] hil, Option.bind_some]
          show (if decide (p - (stt l i : Int) ≤ ((D l i).length : Int)) = true then _ else colophonref08_Doc.l1 l k (wi (p - (stt l i : Int) - (wi (((D l i).length : Int) + 1)))) _) = _
          rw [if_neg (by rw [decide_eq_true_eq]; omega), wi_eq (n := ((D l i).length : Int) + 1) (by omega) (by omega), wi_eq (n := p - _ - _) (by omega) (by omega), wi_eq (by omega) (by omega), show ((i : Int) + 1) = ((i + 1 : Nat) : Int) by omega, show p - (stt l i : Int) - (((D l i).length : Int) + 1) = p - (stt l (i + 1) : Int) by rw [stt_succ]; omega]
          exact ih k (i + 1) (by omega) (by omega) (by omega)
    have hdF : d < FU := by show d < 4611686018427387904; omega
    have := key d FU 0 (by omega) hdF (by omega)
    rw [show ((0 : Nat) : Int) = 0 from rfl, show (stt l 0 : Int) = 0 from rfl, Int.sub_zero] at this
    rw [if_neg (by rw [decide_eq_true_eq]; omega), this]; rfl
theorem doc_no {l : List (List Int)} {T : List (List Int) × List Int × Int} (h : Txt l T) {p : Int} (hp : p < 0 ∨ (stt l l.length : Int) ≤ p) : text_Text_Doc.f (some T) p = some (-1, -1) := by
  unfold text_Text_Doc.f
  by_cases h0 : p < 0
  · rw [if_pos (by rw [decide_eq_true_eq]; exact h0)]
  · rw [if_neg (by rw [decide_eq_true_eq]; exact h0), len_ok h, Option.bind_some, if_pos (by rw [decide_eq_true_eq]; omega)]
theorem start_no {l : List (List Int)} {T : List (List Int) × List Int × Int} (h : Txt l T) {p : Int} (hp : p < 0 ∨ (l.length : Int) < p) : text_Text_Start.f (some T) p = some (-1) := by
  obtain ⟨s, rfl, hs, hj⟩ := h
  unfold text_Text_Start.f
  simp only []
  by_cases h0 : p < 0
  · rw [if_pos (by rw [decide_eq_true_eq]; exact h0)]
  · rw [if_neg (by rw [decide_eq_true_eq]; exact h0), if_pos (by rw [decide_eq_true_eq]; omega)]
theorem bytes_no {l : List (List Int)} {T : List (List Int) × List Int × Int} (h : Txt l T) {p : Int} (hp : p < 0 ∨ (l.length : Int) ≤ p) : text_Text_Bytes.f (some T) p = some [] := by
  unfold text_Text_Bytes.f
  by_cases h0 : p < 0
  · rw [if_pos (by rw [decide_eq_true_eq]; exact h0)]
  · rw [if_neg (by rw [decide_eq_true_eq]; exact h0), docs_ok h, Option.bind_some, if_pos (by rw [decide_eq_true_eq]; omega)]
theorem bytes_ok {l : List (List Int)} {T : List (List Int) × List Int × Int} (h : Txt l T) {i : Nat} (hi : i < l.length) (hb : (D l i).length ≤ 65536) : text_Text_Bytes.f (some T) (i : Int) = some (D l i) := by
  have hT1 : T.1 = l := by obtain ⟨s, rfl, _⟩ := h; rfl
  unfold text_Text_Bytes.f
  rw [if_neg (by rw [decide_eq_true_eq]; omega), docs_ok h, Option.bind_some, if_neg (by rw [decide_eq_true_eq]; omega), Option.bind_some, hT1, at_get [] hi, Option.bind_some, clone_f _ (by show (D l i).length ≤ _; omega)]; rfl
theorem sum_l4 (l : List (List Int)) (a : Nat) (ha : a ≤ l.length) (hl : l.length ≤ 256) (ht : tot l l.length ≤ 65536) : ∀ (m k i : Nat), a - i = m → m < k → i ≤ a → colophonlaw08_TextMakes.l4 l (a : Int) k (stt l i : Int) (i : Int) = some (stt l a : Int) := by
  intro m
  induction m with
  | zero => intro k i hm hk hi; cases k with
    | zero => omega
    | succ k => rw [colophonlaw08_TextMakes.l4, if_neg (by rw [decide_eq_true_eq]; omega), show i = a by omega]
  | succ m ih => intro k i hm hk hi; cases k with
    | zero => omega
    | succ k =>
      have hil : i < l.length := by omega
      have hs := stt_mono l (show i + 1 ≤ l.length from hil)
      rw [stt_succ] at hs
      have hsl : stt l l.length = tot l l.length + l.length := rfl
      rw [colophonlaw08_TextMakes.l4, if_pos (by rw [decide_eq_true_eq]; omega), at_get [] hil, Option.bind_some]
      show colophonlaw08_TextMakes.l4 l (a : Int) k (wi ((stt l i : Int) + (wi (((D l i).length : Int) + 1)))) _ = _
      rw [wi_eq (n := ((D l i).length : Int) + 1) (by omega) (by omega), wi_eq (n := (stt l i : Int) + _) (by omega) (by omega), wi_eq (by omega) (by omega), show ((i : Int) + 1) = ((i + 1 : Nat) : Int) by omega, show (stt l i : Int) + (((D l i).length : Int) + 1) = (stt l (i + 1) : Int) by rw [stt_succ]; omega]
      exact ih k (i + 1) (by omega) (by omega) (by omega)
end Text
theorem pure_TextMakes (l0 : List (List Int)) (F0 : Fits (.slice 24 (.slice 5 (.int .u8))) l0) (S0 : l0.length * 24 ≤ 140737488351232) (a1 : Int) (F1 : Fits (.int .i64) a1) (a2 : Int) (F2 : Fits (.int .i64) a2) : colophonlaw08_TextMakes.f l0 a1 a2 = some true := by
  obtain ⟨hb, hd⟩ := docs_byte F0
  have hl : l0.length ≤ 5864062014800 := by omega
  unfold colophonlaw08_TextMakes.f
  rw [Text.first_f, Option.bind_some, if_neg (by simp), own_ok l0 hl, Option.bind_some, right_ok l0 hl]
  by_cases hr : ¬ (l0.length ≤ 256 ∧ tot l0 l0.length ≤ 65536)
  · rw [new_no hr, Option.bind_some, Option.bind_some, decide_eq_false hr, if_pos (by simp), if_pos (by simp)]
  replace hr : l0.length ≤ 256 ∧ tot l0 l0.length ≤ 65536 := Classical.byContradiction hr
  obtain ⟨h256, htot⟩ := hr
  obtain ⟨T, eT, hT⟩ := new_ok h256 htot
  have hDl : ∀ i, i < l0.length → (D l0 i).length ≤ 65536 := fun i hi => by
    have h1 := tot_mono l0 (show i + 1 ≤ l0.length from hi)
    have h2 : tot l0 (i + 1) = tot l0 i + (D l0 i).length := rfl
    omega
  have hml : ∀ x ∈ l0, x.length ≤ 65536 := fun x hx => by
    obtain ⟨i, hi⟩ := List.getElem?_of_mem hx
    have hil : i < l0.length := by
      rcases Nat.lt_or_ge i l0.length with q | q
      · exact q
      · rw [List.getElem?_eq_none q] at hi; cases hi
    have e : D l0 i = x := by show l0.getD i [] = _; rw [List.getD_eq_getElem?_getD, hi]; rfl
    rw [← e]; exact hDl i hil
  have hsl : stt l0 l0.length = tot l0 l0.length + l0.length := rfl
  have hp1 : a1 < 9223372036854775808 := Int.lt_of_le_of_lt F1.2 (by decide)
  rw [eT, Option.bind_some, Option.bind_some, decide_eq_true ⟨h256, htot⟩, if_neg (by simp), chk?_eq (by
    rw [Bool.and_eq_true, decide_eq_true_eq, List.all_eq_true]
    exact ⟨by omega, fun x hx => by rw [decide_eq_true_eq]; have := hml x hx; omega⟩), Option.bind_some, Option.bind_some]
  have h2 := turn_l2 l0 _ rfl (by omega) (fun x hx => by
    obtain ⟨y, hy, rfl⟩ := List.mem_map.1 hx
    have := hml y hy; omega) l0.length FU 0 l0 (by omega) (by show l0.length < 4611686018427387904; omega) (by omega) rfl
  rw [show ((0 : Nat) : Int) = 0 from rfl] at h2
  rw [h2, Option.bind_some, rsym_ok l0 h256 htot hb, Option.bind_some, if_neg (by simp), docs_ok hT, Option.bind_some, if_neg (by simp), len_ok hT, Option.bind_some, if_neg (by rw [sy_len]; simp), alph_ok hT h256, Option.bind_some, if_neg (by rw [wi_eq (by omega) (by omega)]; simp), symbols_ok hT h256 htot hb, Option.bind_some, rsame_ok _ (by rw [sy_len]; omega), Option.bind_some, if_neg (by simp)]
  obtain ⟨r1, r2, r3⟩ := rdoc_ok l0 h256 htot hp1
  have hdoc : ∃ x, text_Text_Doc.f (some T) a1 = some x ∧ colophonref08_Doc.f l0 a1 = some x := by
    by_cases c1 : a1 < 0
    · exact ⟨_, doc_no hT (.inl c1), r1 c1⟩
    · by_cases c2 : (stt l0 l0.length : Int) ≤ a1
      · exact ⟨_, doc_no hT (.inr c2), r2 c2⟩
      · obtain ⟨d, o, q1, q2, q3⟩ := place l0 (n := l0.length) (p := a1.toNat) (by omega)
        have e : a1 = ((stt l0 d + o : Nat) : Int) := by omega
        refine ⟨_, ?_, r3 d o q1 q2 e⟩
        rw [e]; exact doc_ok hT h256 htot d o q1 q2
  obtain ⟨x, hx1, hx2⟩ := hdoc
  rw [hx1, Option.bind_some, hx2, Option.bind_some, if_neg (by simp), if_neg (by simp)]
  by_cases c1 : a2 < 0
  · rw [if_pos (by rw [decide_eq_true_eq]; exact c1), start_no hT (.inl c1), Option.bind_some, if_pos (by simp), bytes_no hT (.inl c1)]; rfl
  rw [if_neg (by rw [decide_eq_true_eq]; exact c1)]
  by_cases c2 : a2 > (l0.length : Int)
  · rw [if_pos (by rw [decide_eq_true_eq]; exact c2), start_no hT (.inr c2), Option.bind_some, if_pos (by simp), bytes_no hT (.inr (by omega))]; rfl
  rw [if_neg (by rw [decide_eq_true_eq]; exact c2)]
  obtain ⟨a, rfl⟩ : ∃ a : Nat, a2 = (a : Int) := ⟨a2.toNat, by omega⟩
  have h4 := sum_l4 l0 a (by omega) h256 htot a FU 0 (by omega) (by show a < 4611686018427387904; omega) (by omega)
  rw [show ((0 : Nat) : Int) = 0 from rfl, show (stt l0 0 : Int) = 0 from rfl] at h4
  rw [h4, Option.bind_some, start_ok hT a (by omega), Option.bind_some, if_pos (by simp)]
  by_cases c3 : a = l0.length
  · rw [if_pos (by rw [beq_iff_eq, c3]), bytes_no hT (.inr (by omega)), Option.bind_some, if_pos (by simp)]
  · have hal : a < l0.length := by omega
    rw [if_neg (by rw [beq_iff_eq]; omega), if_pos (by rw [decide_eq_true_eq]; omega), at_get [] hal, Option.bind_some, bytes_ok hT hal (hDl a hal), Option.bind_some]
    show some ((bs (D l0 a)).toList == (bs (D l0 a)).toList) = some true
    rw [beq_self_eq_true]
end Go.Proofs.Ytoonceaeaigkpaa
