/-
  The laws of layer text, in plain words. No condition.
-/
import Derived.Test.YtoonceaeaigkpaaPuTextA
import Derived.Test.YtoonceaeaigkpaaGTextPatterns
import Derived.Test.YtoonceaeaigkpaaGTextPlaces
import Derived.Test.YtoonceaeaigkpaaGTextEnds
namespace Go.Proofs.Ytoonceaeaigkpaa
open Go Go.Gol Text
set_option linter.unusedVariables false
set_option linter.unusedSimpArgs false
set_option maxRecDepth 100000
namespace Text
theorem docs_byte {e e2 : TypeId} {l : List (List Int)} (F : Fits (.slice e (.slice e2 (.int .u8))) l) : (∀ i, i < l.length → Byte (D l i)) ∧ (∀ i, i < l.length → (D l i).length ≤ maxLen) ∧ l.length ≤ maxLen := by
  refine ⟨fun i hi v hv => ?_, fun i hi => ?_, F.1⟩
  · have e : D l i = l[i] := by show l.getD i [] = _; rw [List.getD_eq_getElem?_getD, List.getElem?_eq_getElem hi]; rfl
    rw [e] at hv
    exact (F.2 _ (List.getElem_mem hi)).2 v hv
  · have e : D l i = l[i] := by show l.getD i [] = _; rw [List.getD_eq_getElem?_getD, List.getElem?_eq_getElem hi]; rfl
    rw [e]; exact (F.2 _ (List.getElem_mem hi)).1
end Text
theorem pure_TextPatterns (l0 : List (List Int)) (F0 : Fits (.slice 24 (.slice 5 (.int .u8))) l0) (l1 : List Int) (F1 : Fits (.slice 5 (.int .u8)) l1) : colophonlaw08_TextPatterns.f l0 l1 = some true := by
  obtain ⟨hb, hd, hl⟩ := docs_byte F0
  have hp : Byte l1 := fun v hv => F1.2 v hv
  unfold colophonlaw08_TextPatterns.f
  rw [first_f, Option.bind_some, if_neg (by simp)]
  obtain ⟨b, e, hs⟩ := small_ok l0 hd hl 20000 256 (by decide) (by decide)
  rw [show ((20000 : Nat) : Int) = 20000 from rfl, show ((256 : Nat) : Int) = 256 from rfl] at e
  rw [e, Option.bind_some]
  cases b with
  | false => rfl
  | true =>
    obtain ⟨h256, htot⟩ := hs rfl
    rw [if_neg (by simp)]
    by_cases h2 : l1.length > 2000
    · rw [if_pos (by simp; omega)]
    rw [if_neg (by simp; omega)]
    obtain ⟨T, eT, hT⟩ := new_ok h256 (by omega)
    rw [eT, Option.bind_some]
    simp only []
    rw [if_neg (by simp), pattern_ok hT h256 hp (by omega), Option.bind_some, if_neg (by simp), Option.bind_some]
    have key : ∀ (m k i : Nat), l1.length - i = m → m < k → i ≤ l1.length → colophonlaw08_TextPatterns.l1 l0 l1 (l1.map ((l0.length : Int) + ·)) T k (i : Int) = some (.inr ()) := by
      intro m
      induction m with
      | zero => intro k i hm hk hi; cases k with
        | zero => omega
        | succ k => unfold colophonlaw08_TextPatterns.l1; rw [if_neg (by simp; omega)]
      | succ m ih => intro k i hm hk hi; cases k with
        | zero => omega
        | succ k =>
          unfold colophonlaw08_TextPatterns.l1
          have hil : i < l1.length := by omega
          have hv := hp _ (List.getElem_mem hil)
          rw [if_pos (by simp; omega), at?_nat, List.getElem?_map, List.getElem?_eq_getElem hil]
          simp only [Option.map_some, Option.bind_some]
          rw [at?_nat, List.getElem?_eq_getElem hil, Option.bind_some, wi_eq (n := l1[i]) (by omega) (by omega), wi_eq (n := l1[i] + (l0.length : Int)) (by omega) (by omega), if_neg (by rw [bne_iff_ne]; omega), alph_ok hT h256, Option.bind_some, if_neg (by simp; omega), wi_eq (by omega) (by omega), show ((i : Int) + 1) = ((i + 1 : Nat) : Int) by omega]
          exact ih k (i + 1) (by omega) (by omega) (by omega)
    have := key l1.length FU 0 (by omega) (by show l1.length < 4611686018427387904; omega) (by omega)
    rw [show ((0 : Nat) : Int) = 0 from rfl] at this
    rw [this, Option.bind_some]
    have n1 : text_Text_Doc.f none 0 = some (-1, -1) := by decide +kernel
    have n2 : text_Text_Docs.f none = some 0 := rfl
    have n3 : text_Text_Len.f none = some 0 := rfl
    have n4 : text_Text_Alphabet.f none = some 0 := rfl
    have n5 : text_Text_Symbols.f none = some [] := by decide +kernel
    have n6 : text_Text_Pattern.f none l1 = some [] := rfl
    have n7 : text_Text_Start.f none 0 = some (-1) := rfl
    have n8 : text_Text_Bytes.f none 0 = some [] := by decide +kernel
    simp only [n1, n2, n3, n4, n5, n6, n7, n8, Option.bind_some]
    rfl
theorem pure_TextPlaces (l0 : List (List Int)) (F0 : Fits (.slice 24 (.slice 5 (.int .u8))) l0) : colophonlaw08_TextPlaces.f l0 = some true := by
  obtain ⟨hb, hd, hl⟩ := docs_byte F0
  unfold colophonlaw08_TextPlaces.f
  rw [first_f, Option.bind_some, if_neg (by simp)]
  obtain ⟨b, e, hs⟩ := small_ok l0 hd hl 3000 256 (by decide) (by decide)
  rw [show ((3000 : Nat) : Int) = 3000 from rfl, show ((256 : Nat) : Int) = 256 from rfl] at e
  rw [e, Option.bind_some]
  cases b with
  | false => rfl
  | true =>
    obtain ⟨h256, htot⟩ := hs rfl
    rw [if_neg (by simp)]
    obtain ⟨T, eT, hT⟩ := new_ok h256 (by omega)
    rw [eT, Option.bind_some]
    simp only []
    rw [symbols_ok hT h256 (by omega) hb, Option.bind_some, Option.bind_some]
    have hst : stt l0 l0.length = tot l0 l0.length + l0.length := rfl
    have hsl := sy_len l0 l0.length
    have key : ∀ (m k p : Nat), stt l0 l0.length - p = m → m < k → p ≤ stt l0 l0.length → colophonlaw08_TextPlaces.l1 l0 (sy l0 l0.length) T k (p : Int) = some (.inr ()) := by
      intro m
      induction m with
      | zero => intro k i hm hk hi; cases k with
        | zero => omega
        | succ k => unfold colophonlaw08_TextPlaces.l1; rw [if_neg (by simp; omega)]
      | succ m ih => intro k p hm hk hi; cases k with
        | zero => omega
        | succ k =>
          unfold colophonlaw08_TextPlaces.l1
          obtain ⟨d, o, hdl, ho, rfl⟩ := place l0 (show p < stt l0 l0.length by omega)
          have hlt := stt_lt l0 hdl
          rw [if_pos (by simp; omega), doc_ok hT h256 (by omega) d o hdl ho, Option.bind_some]
          simp only []
          rw [if_neg (by simp), if_neg (by simp; omega), start_ok hT d (by omega), Option.bind_some, wi_eq (n := (stt l0 d : Int) + (o : Int)) (by omega) (by omega), if_neg (by rw [bne_iff_ne]; omega), at_get [] hdl, Option.bind_some,
            if_neg (by rw [decide_eq_true_eq]; show ¬ ((o : Int) > ((D l0 d).length : Int)); omega), wi_eq (n := ((stt l0 d + o : Nat) : Int) + 1) (by omega) (by omega), show (((stt l0 d + o : Nat) : Int) + 1) = ((stt l0 d + o + 1 : Nat) : Int) by omega]
          have nxt := ih k (stt l0 d + o + 1) (by omega) (by omega) (by omega)
          by_cases he : o = (D l0 d).length
          · rw [if_pos (by rw [beq_iff_eq]; show (o : Int) = ((D l0 d).length : Int); omega), at?_nat, he, sy_end l0 hdl, Option.bind_some, if_neg (by simp), if_neg (by rw [decide_eq_true_eq]; show ¬ (((D l0 d).length : Int) < ((D l0 d).length : Int)); omega)]
            rw [he] at nxt; exact nxt
          · have hol : o < (D l0 d).length := by omega
            rw [if_neg (by rw [beq_iff_eq]; show ¬ (o : Int) = ((D l0 d).length : Int); omega), if_pos (by rw [decide_eq_true_eq]; show (o : Int) < ((D l0 d).length : Int); omega), at?_nat, sy_byte l0 hdl hol, Option.bind_some, at_get 0 hol, Option.bind_some]
            have hv : 0 ≤ (D l0 d).getD o 0 ∧ (D l0 d).getD o 0 ≤ 255 := by
              have := hb d hdl _ (List.getElem_mem hol)
              rw [List.getD_eq_getElem?_getD, List.getElem?_eq_getElem hol]; exact this
            rw [wi_eq (n := (D l0 d).getD o 0) (by omega) (by omega), wi_eq (by omega) (by omega), if_neg (by simp)]
            exact nxt
    have := key (stt l0 l0.length) FU 0 (by omega) (by show stt l0 l0.length < 4611686018427387904; omega) (by omega)
    rw [show ((0 : Nat) : Int) = 0 from rfl] at this
    rw [this, Option.bind_some]
    simp only []
    rw [docs_ok hT, Option.bind_some, start_ok hT l0.length (Nat.le_refl _), Option.bind_some, len_ok hT, Option.bind_some]
    simp
theorem pure_TextEnds (l0 : List (List Int)) (F0 : Fits (.slice 24 (.slice 5 (.int .u8))) l0) : colophonlaw08_TextEnds.f l0 = some true := by
  obtain ⟨hb, hd, hl⟩ := docs_byte F0
  unfold colophonlaw08_TextEnds.f
  rw [first_f, Option.bind_some, if_neg (by simp)]
  obtain ⟨b, e, hs⟩ := small_ok l0 hd hl 3000 256 (by decide) (by decide)
  rw [show ((3000 : Nat) : Int) = 3000 from rfl, show ((256 : Nat) : Int) = 256 from rfl] at e
  rw [e, Option.bind_some]
  cases b with
  | false => rfl
  | true =>
    obtain ⟨h256, htot⟩ := hs rfl
    rw [if_neg (by simp)]
    obtain ⟨T, eT, hT⟩ := new_ok h256 (by omega)
    rw [eT, Option.bind_some]
    simp only []
    rw [symbols_ok hT h256 (by omega) hb, Option.bind_some]
    have hst : stt l0 l0.length = tot l0 l0.length + l0.length := rfl
    have hsl := sy_len l0 l0.length
    have key : ∀ (m k d o : Nat) (q : List Int), stt l0 l0.length - (stt l0 d + o) = m → m < k → d ≤ l0.length → (d < l0.length → o ≤ (D l0 d).length) → (d = l0.length → o = 0) → q.length = 256 → (∀ j, j < 256 → q.getD j 0 = if j < d then 1 else 0) →
        ∃ q', colophonlaw08_TextEnds.l1 l0 (sy l0 l0.length) k (d : Int) ((D l0 d).take o) ((stt l0 d + o : Nat) : Int) q = some (.inr ((l0.length : Int), [], q')) ∧ q'.length = 256 ∧ (∀ j, j < 256 → q'.getD j 0 = if j < l0.length then 1 else 0) := by
      intro m
      induction m with
      | zero =>
        intro k d o q hm hk hdl ho hoe hq hj; cases k with
        | zero => omega
        | succ k =>
          unfold colophonlaw08_TextEnds.l1
          have hde : d = l0.length := by
            rcases Nat.lt_or_ge d l0.length with h | h
            · have := stt_lt l0 h; have := ho h; omega
            · omega
          have ho0 := hoe hde
          subst hde; subst ho0
          rw [if_neg (by simp; omega), List.take_zero]
          exact ⟨q, rfl, hq, hj⟩
      | succ m ih =>
        intro k d o q hm hk hdl ho hoe hq hj; cases k with
        | zero => omega
        | succ k =>
          unfold colophonlaw08_TextEnds.l1
          have hd2 : d < l0.length := by
            rcases Nat.lt_or_ge d l0.length with h | h
            · exact h
            · have : d = l0.length := by omega
              have h0 := hoe this; subst h0; rw [this] at hm; omega
          have hol := ho hd2
          have hlt := stt_lt l0 hd2
          rw [if_pos (by simp; omega), wi_eq (n := ((stt l0 d + o : Nat) : Int) + 1) (by omega) (by omega)]
          by_cases he : o < (D l0 d).length
          · have hv : 0 ≤ (D l0 d)[o] ∧ (D l0 d)[o] ≤ 255 := hb d hd2 _ (List.getElem_mem he)
            have hge : (D l0 d).getD o 0 = (D l0 d)[o] := by rw [List.getD_eq_getElem?_getD, List.getElem?_eq_getElem he]; rfl
            rw [at?_nat, sy_byte l0 hd2 he, Option.bind_some, hge, if_pos (by rw [decide_eq_true_eq]; omega), wi_eq (by omega) (by omega), wrap_u8_eq, show ((l0.length : Int) + (D l0 d)[o] - (l0.length : Int)) % 256 = (D l0 d)[o] by omega,
              app?_eq (by simp; omega), Option.bind_some, show (((stt l0 d + o : Nat) : Int) + 1) = ((stt l0 d + (o + 1) : Nat) : Int) by omega]
            have : (D l0 d).take o ++ [(D l0 d)[o]] = (D l0 d).take (o + 1) := by rw [List.take_add_one, List.getElem?_eq_getElem he]; rfl
            rw [this]
            exact ih k d (o + 1) q (by omega) (by omega) hdl (fun _ => he) (fun h => by omega) hq hj
          · have hoe2 : o = (D l0 d).length := by omega
            subst hoe2
            have hm256 : Int.tmod (d : Int) 256 = (d : Int) := by rw [Int.tmod_eq_emod_of_nonneg (by omega)]; omega
            have hqd : q.getD d 0 = 0 := by rw [hj d (by omega), if_neg (by omega)]
            rw [at?_nat, sy_end l0 hd2, Option.bind_some, if_neg (by simp; omega), hm256, at_get 0 (by omega), Option.bind_some, Option.bind_some, hqd, set?_nat _ (by omega), Option.bind_some, if_neg (by simp), at_get [] hd2, Option.bind_some,
              List.take_of_length_le (Nat.le_refl _), if_neg (by simp), wi_eq (by omega) (by omega), show ((d : Int) + 1) = ((d + 1 : Nat) : Int) by omega, show (((stt l0 d + (D l0 d).length : Nat) : Int) + 1) = ((stt l0 (d + 1) + 0 : Nat) : Int) by rw [stt_succ]; omega]
            have := ih k (d + 1) 0 (q.set d (wi (0 + 1))) (by rw [stt_succ]; omega) (by omega) (by omega) (fun _ => Nat.zero_le _) (fun _ => rfl) (by simpa using hq) (fun j hj2 => by
              rw [List.getD_eq_getElem?_getD, List.getElem?_set]
              by_cases h : d = j
              · subst h; rw [if_pos rfl, if_pos (by omega), if_pos (by omega)]; rfl
              · rw [if_neg h, ← List.getD_eq_getElem?_getD, hj j hj2]
                by_cases h3 : j < d
                · rw [if_pos h3, if_pos (by omega)]
                · rw [if_neg h3, if_neg (by omega)])
            rw [List.take_zero] at this
            exact this
    obtain ⟨q', eq, hq, hj⟩ := key (stt l0 l0.length) FU 0 0 (List.replicate 256 0) (by show stt l0 l0.length - (0 + 0) = _; omega) (by show stt l0 l0.length < 4611686018427387904; omega) (by omega) (fun _ => Nat.zero_le _) (fun _ => rfl) (by simp) (fun j h => by
      rw [List.getD_eq_getElem?_getD, List.getElem?_replicate, if_pos h]; simp)
    rw [List.take_zero, show ((stt l0 0 + 0 : Nat) : Int) = 0 from rfl, show ((0 : Nat) : Int) = 0 from rfl] at eq
    rw [eq, Option.bind_some]
    simp only []
    have k2 : ∀ (m k i : Nat), l0.length - i = m → m < k → i ≤ l0.length → colophonlaw08_TextEnds.l2 l0 ((l0.length : Int), [], q') k (i : Int) = some (.inr ()) := by
      intro m
      induction m with
      | zero => intro k i hm hk hi; cases k with
        | zero => omega
        | succ k => unfold colophonlaw08_TextEnds.l2; rw [if_neg (by simp; omega)]
      | succ m ih => intro k i hm hk hi; cases k with
        | zero => omega
        | succ k =>
          unfold colophonlaw08_TextEnds.l2
          have e1 : at? q' (i : Int) = some 1 := by rw [at_get 0 (by omega), hj i (by omega), if_pos (by omega)]
          rw [if_pos (by simp; omega)]
          simp only []
          rw [e1, Option.bind_some, if_neg (by simp), wi_eq (by omega) (by omega), show ((i : Int) + 1) = ((i + 1 : Nat) : Int) by omega]
          exact ih k (i + 1) (by omega) (by omega) (by omega)
    have := k2 l0.length FU 0 (by omega) (by show l0.length < 4611686018427387904; omega) (by omega)
    rw [show ((0 : Nat) : Int) = 0 from rfl] at this
    rw [this, Option.bind_some]
    simp
end Go.Proofs.Ytoonceaeaigkpaa
