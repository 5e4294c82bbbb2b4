/-
  The plain laws of layer text: documents as one row of symbols. No condition.
-/
import Derived.Test.YtoonceaeaigkpaaGP1
import Derived.Test.YtoonceaeaigkpaaGI
namespace Go.Proofs.Ytoonceaeaigkpaa
open Go Go.Gol
set_option linter.unusedVariables false
set_option linter.unusedSimpArgs false
set_option maxRecDepth 100000
namespace Text
theorem at_get {α : Type} {l : List α} {q : Nat} (d : α) (h : q < l.length) : at? l (q : Int) = some (l.getD q d) := by
  rw [at?_nat, List.getElem?_eq_getElem h]; simp [List.getD_eq_getElem?_getD, List.getElem?_eq_getElem h]
abbrev D (l : List (List Int)) (i : Nat) : List Int := l.getD i []
/-- how many bytes the first documents have -/
def tot (l : List (List Int)) : Nat → Nat
  | 0 => 0
  | i + 1 => tot l i + (D l i).length
/-- where a document begins -/
def stt (l : List (List Int)) (i : Nat) : Nat := tot l i + i
theorem stt_succ (l : List (List Int)) (i : Nat) : stt l (i + 1) = stt l i + (D l i).length + 1 := by simp only [stt, tot]; omega
theorem tot_mono (l : List (List Int)) {a b : Nat} (h : a ≤ b) : tot l a ≤ tot l b := by
  induction b with
  | zero => have : a = 0 := by omega
            subst this; exact Nat.le_refl _
  | succ b ih =>
    rcases Nat.lt_or_ge a (b + 1) with h' | h'
    · have := ih (by omega); simp only [tot]; omega
    · have : a = b + 1 := by omega
      subst this; exact Nat.le_refl _
theorem stt_mono (l : List (List Int)) {a b : Nat} (h : a ≤ b) : stt l a ≤ stt l b := by have := tot_mono l h; simp only [stt]; omega
theorem stt_lt (l : List (List Int)) {a b : Nat} (h : a < b) : stt l a + (D l a).length < stt l b := by have := stt_mono l (show a + 1 ≤ b from h); rw [stt_succ] at this; omega
/-- the collection -/
def Txt (l : List (List Int)) (T : List (List Int) × List Int × Int) : Prop := ∃ s : List Int, T = (l, s, (stt l l.length : Int)) ∧ s.length = l.length ∧ ∀ i, i < l.length → s[i]? = some (stt l i : Int)
theorem clone_f (l : List Int) (h : l.length ≤ 140737488355328) : slices_Clone.f l = some l := by
  unfold slices_Clone.f; rw [app?_eq (by simpa using h)]; rfl
theorem take_one {l : List (List Int)} {i : Nat} (h : i < l.length) : l.take i ++ [D l i] = l.take (i + 1) := by
  rw [List.take_add_one]
  congr 1
  show [l.getD i []] = _
  rw [List.getElem?_eq_getElem h, List.getD_eq_getElem?_getD, List.getElem?_eq_getElem h]; rfl
theorem new_ok {l : List (List Int)} (h1 : l.length ≤ 256) (h2 : tot l l.length ≤ 65536) : ∃ T, text_New.f l = some (some T, 0) ∧ Txt l T := by
  unfold text_New.f
  rw [if_neg (by simp; omega)]
  have key : ∀ (m k i : Nat) (s : List Int), l.length - i = m → m < k → i ≤ l.length → s.length = i → (∀ j, j < i → s[j]? = some (stt l j : Int)) →
      ∃ T, text_New.l1 l k (i : Int) (l.take i, s, (stt l i : Int)) = some (.inr T) ∧ Txt l T := by
    intro m
    induction m with
    | zero => intro k i s hm hk hi hs hj; cases k with
      | zero => omega
      | succ k =>
        unfold text_New.l1
        have : i = l.length := by omega
        subst this
        rw [if_neg (by simp)]
        exact ⟨_, rfl, s, by rw [List.take_length], hs, hj⟩
    | succ m ih => intro k i s hm hk hi hs hj; cases k with
      | zero => omega
      | succ k =>
        unfold text_New.l1
        have hil : i < l.length := by omega
        have ht := tot_mono l (show i + 1 ≤ l.length from hil)
        have e1 : tot l (i + 1) = tot l i + (D l i).length := rfl
        have e2 : stt l i = tot l i + i := rfl
        rw [if_pos (by simp; omega), at_get [] hil, Option.bind_some]
        simp only []
        have e3 : wi (65536 - (wi ((stt l i : Int) - ((l.take i).length : Int)))) = ((65536 - tot l i : Nat) : Int) := by
          rw [List.length_take, Nat.min_eq_left (by omega), wi_eq (n := (stt l i : Int) - (i : Int)) (by omega) (by omega), wi_eq (by omega) (by omega)]; omega
        rw [e3, if_neg (by rw [decide_eq_true_eq]; show ¬ (((D l i).length : Int) > _); omega), app?_eq (by simp; omega), Option.bind_some, clone_f (l.getD i []) (by show (D l i).length ≤ _; omega), Option.bind_some, app?_eq (by simp; omega), Option.bind_some]
        rw [take_one hil, wi_eq (n := ((l.getD i []).length : Int) + 1) (by omega) (by show ((D l i).length : Int) + 1 < _; omega), wi_eq (n := (stt l i : Int) + (((l.getD i []).length : Int) + 1)) (by omega) (by show (stt l i : Int) + (((D l i).length : Int) + 1) < _; omega),
          show (stt l i : Int) + (((l.getD i []).length : Int) + 1) = (stt l (i + 1) : Int) by rw [stt_succ]; show (stt l i : Int) + (((D l i).length : Int) + 1) = _; omega, wi_eq (by omega) (by omega), show ((i : Int) + 1) = ((i + 1 : Nat) : Int) by omega]
        refine ih k (i + 1) _ (by omega) (by omega) (by omega) (by simp [hs]) (fun j h => ?_)
        rcases Nat.lt_or_ge j i with h3 | h3
        · rw [List.getElem?_append_left (by omega)]; exact hj j h3
        · have : j = s.length := by omega
          subst this
          rw [List.getElem?_append_right (Nat.le_refl _), Nat.sub_self, hs]; rfl
  obtain ⟨T, e, h⟩ := key l.length FU 0 [] (by omega) (by show l.length < 4611686018427387904; omega) (by omega) rfl (fun j h => by omega)
  rw [show ((0 : Nat) : Int) = 0 from rfl, show (stt l 0 : Int) = 0 from rfl, List.take_zero] at e
  rw [e, Option.bind_some]
  exact ⟨T, rfl, h⟩
theorem docs_ok {l : List (List Int)} {T : List (List Int) × List Int × Int} (h : Txt l T) : text_Text_Docs.f (some T) = some (l.length : Int) := by obtain ⟨s, rfl, _⟩ := h; rfl
theorem len_ok {l : List (List Int)} {T : List (List Int) × List Int × Int} (h : Txt l T) : text_Text_Len.f (some T) = some (stt l l.length : Int) := by obtain ⟨s, rfl, _⟩ := h; rfl
theorem alph_ok {l : List (List Int)} {T : List (List Int) × List Int × Int} (h : Txt l T) (hl : l.length ≤ 256) : text_Text_Alphabet.f (some T) = some ((l.length : Int) + 256) := by
  obtain ⟨s, rfl, _⟩ := h
  unfold text_Text_Alphabet.f
  simp only []
  rw [wi_eq (by omega) (by omega)]
theorem start_ok {l : List (List Int)} {T : List (List Int) × List Int × Int} (h : Txt l T) (i : Nat) (hi : i ≤ l.length) : text_Text_Start.f (some T) (i : Int) = some (stt l i : Int) := by
  obtain ⟨s, rfl, hs, hj⟩ := h
  unfold text_Text_Start.f
  simp only []
  rw [if_neg (by simp), if_neg (by simp; omega)]
  by_cases he : i = l.length
  · subst he; rw [if_pos (by simp)]
  · rw [if_neg (by simp; omega), at?_nat, hj i (by omega)]; rfl
/-- a search by halves in a row that rises -/
theorem search_ok (a : List Int) (x : Int) (ha : a.length ≤ 1000000000) (hm : ∀ i j, i ≤ j → j < a.length → a.getD i 0 ≤ a.getD j 0) :
    ∃ r : Nat, sort_SearchInts.f a x = some (r : Int) ∧ r ≤ a.length ∧ (∀ j, j < r → a.getD j 0 < x) ∧ (r < a.length → x ≤ a.getD r 0) := by
  have key : ∀ (m k lo hi : Nat), hi - lo = m → m < k → lo ≤ hi → hi ≤ a.length → (∀ j, j < lo → a.getD j 0 < x) → (hi < a.length → x ≤ a.getD hi 0) →
      ∃ r : Nat, sort_SearchInts.l1 a x k (lo : Int) (hi : Int) = some (r : Int) ∧ r ≤ a.length ∧ (∀ j, j < r → a.getD j 0 < x) ∧ (r < a.length → x ≤ a.getD r 0) := by
    intro m
    induction m using Nat.strongRecOn with
    | _ m ih =>
      intro k lo hi hmm hk hle hhi h1 h2; cases k with
      | zero => omega
      | succ k =>
        unfold sort_SearchInts.l1
        by_cases hlt : lo < hi
        · have e : wi (ishr .u64 (IntKind.wrap .u64 (wi ((lo : Int) + (hi : Int)))) 1) = (((lo + hi) / 2 : Nat) : Int) := by
            have e : IntKind.wrap .u64 (wi ((lo : Int) + (hi : Int))) = ((lo + hi : Nat) : Int) := by rw [wi_eq (by omega) (by omega), wrap_u64_eq]; omega
            rw [e, show (1 : Int) = ((1 : Nat) : Int) from rfl, ishr_nat .u64 _ 1 (by decide), show (2 : Nat) ^ 1 = 2 from rfl, wi_eq (by omega) (by omega)]
          rw [e, if_pos (by simp; omega), at_get 0 (by omega), Option.bind_some, wi_eq (by omega) (by omega), show ((((lo + hi) / 2 : Nat) : Int) + 1) = (((lo + hi) / 2 + 1 : Nat) : Int) by omega]
          by_cases hc : a.getD ((lo + hi) / 2) 0 ≥ x
          · rw [if_neg (by rw [decide_eq_true hc]; simp)]
            exact ih ((lo + hi) / 2 - lo) (by omega) k lo ((lo + hi) / 2) rfl (by omega) (by omega) (by omega) h1 (fun _ => hc)
          · rw [if_pos (by rw [decide_eq_false hc]; simp)]
            refine ih (hi - ((lo + hi) / 2 + 1)) (by omega) k ((lo + hi) / 2 + 1) hi rfl (by omega) (by omega) hhi (fun j hj => ?_) h2
            have := hm j ((lo + hi) / 2) (by omega) (by omega)
            omega
        · rw [if_neg (by simp; omega)]
          have : lo = hi := by omega
          subst this
          exact ⟨lo, rfl, hhi, h1, h2⟩
  obtain ⟨r, e, h⟩ := key a.length FU 0 a.length (by omega) (by show a.length < 4611686018427387904; omega) (by omega) (Nat.le_refl _) (fun j h => by omega) (fun h => by omega)
  unfold sort_SearchInts.f
  rw [show ((0 : Nat) : Int) = 0 from rfl] at e
  rw [e]; exact ⟨r, rfl, h⟩
theorem doc_ok {l : List (List Int)} {T : List (List Int) × List Int × Int} (h : Txt l T) (hl : l.length ≤ 256) (ht : tot l l.length ≤ 65536) (d o : Nat) (hd : d < l.length) (ho : o ≤ (D l d).length) :
    text_Text_Doc.f (some T) ((stt l d + o : Nat) : Int) = some ((d : Int), (o : Int)) := by
  have hlt := stt_lt l hd
  have hst : stt l l.length = tot l l.length + l.length := rfl
  unfold text_Text_Doc.f
  rw [if_neg (by simp; omega), len_ok h, Option.bind_some, if_neg (by simp; omega)]
  obtain ⟨s, rfl, hs, hj⟩ := h
  simp only [Option.bind_some]
  have hg : ∀ i, i < l.length → s.getD i 0 = (stt l i : Int) := fun i hi => by rw [List.getD_eq_getElem?_getD, hj i hi]; rfl
  obtain ⟨r, e, hr, h1, h2⟩ := search_ok s (((stt l d + o + 1 : Nat)) : Int) (by omega) (fun i j hij hjl => by
    rw [hg i (by omega), hg j (by omega)]; have := stt_mono l hij; omega)
  have hrd : r = d + 1 := by
    rcases Nat.lt_trichotomy r (d + 1) with h | h | h
    · exfalso
      have := h2 (by omega)
      rw [hg r (by omega)] at this
      have := stt_mono l (show r ≤ d by omega); omega
    · exact h
    · exfalso
      have := h1 (d + 1) (by omega)
      rw [hg (d + 1) (by omega), stt_succ] at this; omega
  rw [wi_eq (n := ((stt l d + o : Nat) : Int) + 1) (by omega) (by omega), show (((stt l d + o : Nat) : Int) + 1) = ((stt l d + o + 1 : Nat) : Int) by omega, e, Option.bind_some, hrd, wi_eq (n := ((d + 1 : Nat) : Int) - 1) (by omega) (by omega), show (((d + 1 : Nat) : Int) - 1) = (d : Int) by omega, at?_nat, hj d hd, Option.bind_some, wi_eq (by omega) (by omega)]
  congr 2; omega
def Byte (l : List Int) : Prop := ∀ v ∈ l, 0 ≤ v ∧ v ≤ 255
theorem pattern_ok {l : List (List Int)} {T : List (List Int) × List Int × Int} (h : Txt l T) (hl : l.length ≤ 256) {p : List Int} (hp : Byte p) (hpl : p.length ≤ 1000000) : text_Text_Pattern.f (some T) p = some (p.map ((l.length : Int) + ·)) := by
  obtain ⟨s, rfl, _⟩ := h
  unfold text_Text_Pattern.f
  simp only []
  have key : ∀ (m k i : Nat), p.length - i = m → m < k → i ≤ p.length → text_Text_Pattern.l1 p (l, s, (stt l l.length : Int)) k ((p.take i).map ((l.length : Int) + ·)) (i : Int) = some (p.map ((l.length : Int) + ·)) := by
    intro m
    induction m with
    | zero => intro k i hm hk hi; cases k with
      | zero => omega
      | succ k => unfold text_Text_Pattern.l1; rw [if_neg (by simp; omega), List.take_of_length_le (by omega)]
    | succ m ih => intro k i hm hk hi; cases k with
      | zero => omega
      | succ k =>
        unfold text_Text_Pattern.l1
        have hil : i < p.length := by omega
        have hb := hp _ (List.getElem_mem hil)
        have e : p.getD i 0 = p[i] := by rw [List.getD_eq_getElem?_getD, List.getElem?_eq_getElem hil]; rfl
        rw [if_pos (by simp; omega), at_get 0 hil, Option.bind_some, e]
        simp only []
        rw [wi_eq (n := p[i]) (by omega) (by omega), wi_eq (n := (l.length : Int) + p[i]) (by omega) (by omega), app?_eq (by simp; omega), Option.bind_some, wi_eq (by omega) (by omega), show ((i : Int) + 1) = ((i + 1 : Nat) : Int) by omega]
        have : (p.take i).map ((l.length : Int) + ·) ++ [(l.length : Int) + p[i]] = (p.take (i + 1)).map ((l.length : Int) + ·) := by
          rw [List.take_add_one, List.map_append, List.getElem?_eq_getElem hil]; rfl
        rw [this]
        exact ih k (i + 1) (by omega) (by omega) (by omega)
  have := key p.length FU 0 (by omega) (by show p.length < 4611686018427387904; omega) (by omega)
  rw [show ((0 : Nat) : Int) = 0 from rfl, List.take_zero, List.map_nil] at this
  rw [this]; rfl
/-- the symbols of the first documents -/
def sy (l : List (List Int)) : Nat → List Int
  | 0 => []
  | i + 1 => sy l i ++ (D l i).map ((l.length : Int) + ·) ++ [(i : Int)]
theorem sy_len (l : List (List Int)) (i : Nat) : (sy l i).length = stt l i := by
  induction i with
  | zero => rfl
  | succ i ih => simp only [sy, List.length_append, List.length_map, ih, List.length_cons, List.length_nil, stt_succ]
theorem sy_byte (l : List (List Int)) {k i o : Nat} (hi : i < k) (ho : o < (D l i).length) : (sy l k)[stt l i + o]? = some ((l.length : Int) + (D l i).getD o 0) := by
  induction k with
  | zero => omega
  | succ k ih =>
    simp only [sy]
    rcases Nat.lt_or_ge i k with h | h
    · have := stt_lt l h
      rw [List.append_assoc, List.getElem?_append_left (by rw [sy_len]; omega)]; exact ih h
    · have : i = k := by omega
      subst this
      rw [List.append_assoc, List.getElem?_append_right (by rw [sy_len]; omega), sy_len, Nat.add_sub_cancel_left, List.getElem?_append_left (by simpa using ho), List.getElem?_map, List.getElem?_eq_getElem ho, List.getD_eq_getElem?_getD, List.getElem?_eq_getElem ho]; rfl
theorem sy_end (l : List (List Int)) {k i : Nat} (hi : i < k) : (sy l k)[stt l i + (D l i).length]? = some (i : Int) := by
  induction k with
  | zero => omega
  | succ k ih =>
    simp only [sy]
    rcases Nat.lt_or_ge i k with h | h
    · have := stt_lt l h
      rw [List.append_assoc, List.getElem?_append_left (by rw [sy_len]; omega)]; exact ih h
    · have : i = k := by omega
      subst this
      have e : (sy l i ++ (D l i).map ((l.length : Int) + ·)).length = stt l i + (D l i).length := by rw [List.length_append, sy_len, List.length_map]
      rw [List.getElem?_append_right (by rw [e]; exact Nat.le_refl _), e, Nat.sub_self]; rfl
theorem symbols_ok {l : List (List Int)} {T : List (List Int) × List Int × Int} (h : Txt l T) (hl : l.length ≤ 256) (ht : tot l l.length ≤ 65536) (hb : ∀ i, i < l.length → Byte (D l i)) : text_Text_Symbols.f (some T) = some (sy l l.length) := by
  unfold text_Text_Symbols.f
  rw [docs_ok h, Option.bind_some]
  have hst : stt l l.length = tot l l.length + l.length := rfl
  have key : ∀ (m k i : Nat), l.length - i = m → m < k → i ≤ l.length → text_Text_Symbols.l1 (some T) (l.length : Int) k (sy l i) (i : Int) = some (sy l l.length) := by
    intro m
    induction m with
    | zero => intro k i hm hk hi; cases k with
      | zero => omega
      | succ k => unfold text_Text_Symbols.l1; rw [if_neg (by simp; omega), show i = l.length by omega]
    | succ m ih => intro k i hm hk hi; cases k with
      | zero => omega
      | succ k =>
        unfold text_Text_Symbols.l1
        have hil : i < l.length := by omega
        have h1 := stt_lt l hil
        have hT1 : T.1 = l := by obtain ⟨s, rfl, _⟩ := h; rfl
        rw [if_pos (by simp; omega)]
        simp only [Option.bind_some]
        rw [hT1, at_get [] hil, Option.bind_some, pattern_ok h hl (hb i hil) (by show (D l i).length ≤ _; omega), Option.bind_some, app?_eq (by rw [sy_len, List.length_map]; show stt l i + (D l i).length ≤ _; omega), Option.bind_some,
          app?_eq (by rw [List.length_append, sy_len, List.length_map]; show stt l i + (D l i).length + 1 ≤ _; omega), Option.bind_some, wi_eq (by omega) (by omega), show ((i : Int) + 1) = ((i + 1 : Nat) : Int) by omega]
        exact ih k (i + 1) (by omega) (by omega) (by omega)
  have := key l.length FU 0 (by omega) (by show l.length < 4611686018427387904; omega) (by omega)
  rw [show ((0 : Nat) : Int) = 0 from rfl] at this
  rw [show ([] : List Int) = sy l 0 from rfl, this]; rfl
theorem first_f : colophonlaw08_first.f = some true := by decide +kernel
/-- each place is one of a document -/
theorem place (l : List (List Int)) {n p : Nat} (h : p < stt l n) : ∃ d o, d < n ∧ o ≤ (D l d).length ∧ p = stt l d + o := by
  induction n with
  | zero => have : stt l 0 = 0 := rfl
            omega
  | succ n ih =>
    rcases Nat.lt_or_ge p (stt l n) with h' | h'
    · obtain ⟨d, o, h1, h2, h3⟩ := ih h'; exact ⟨d, o, by omega, h2, h3⟩
    · rw [stt_succ] at h; exact ⟨n, p - stt l n, by omega, by omega, by omega⟩
end Text
end Go.Proofs.Ytoonceaeaigkpaa
