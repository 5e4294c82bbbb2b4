/-
  The plain laws of layer rank: lists of bits out of bytes, the document's counts, and the laws. No condition.
-/
import Derived.Test.YtlkgejhnjbbogaaPuRankA
import Derived.Test.YtlkgejhnjbbogaaGRankCounts
import Derived.Test.YtlkgejhnjbbogaaGRankAll
namespace Go.Proofs.Ytlkgejhnjbbogaa
open Go Go.Gol
set_option linter.unusedVariables false
set_option linter.unusedSimpArgs false
set_option maxRecDepth 100000
namespace Rank
open Pack Cnt
def Byte (l : List Int) : Prop := ∀ v ∈ l, 0 ≤ v ∧ v ≤ 255
def odd (l : List Int) (i : Nat) : Bool := l.getD i 0 % 2 == 1
theorem byte_of {e : TypeId} {l : List Int} (h : Fits (.slice e (.int .u8)) l) : Byte l := fun v hv => h.2 v hv
theorem and1 (v : Int) (h0 : 0 ≤ v) (h1 : v ≤ 255) : iand .u8 v 1 = v % 2 := by
  have key : ∀ x : Fin 256, iand .u8 ((x.val : Nat) : Int) 1 = ((x.val : Nat) : Int) % 2 := by decide +kernel
  have := key ⟨v.toNat, by omega⟩
  rw [show ((v.toNat : Nat) : Int) = v by omega] at this
  exact this
theorem Byte.get {l : List Int} (h : Byte l) {i : Nat} (hi : i < l.length) : 0 ≤ l.getD i 0 ∧ l.getD i 0 ≤ 255 := by
  have := h _ (List.getElem_mem hi)
  rw [List.getD_eq_getElem?_getD, List.getElem?_eq_getElem hi]; exact this
theorem at_get {l : List Int} {q : Nat} (h : q < l.length) : at? l (q : Int) = some (l.getD q 0) := by
  rw [at?_nat, List.getElem?_eq_getElem h]; simp [List.getD_eq_getElem?_getD, List.getElem?_eq_getElem h]
theorem odd_past (l : List Int) (k : Nat) (h : l.length ≤ k) : odd l k = false := by
  unfold odd; rw [List.getD_eq_getElem?_getD, List.getElem?_eq_none h]; rfl
theorem odd_w (l : List Int) (h : Byte l) {i : Nat} (hi : i < l.length) : IntKind.wrap .u64 (iand .u8 (l.getD i 0) 1) = w1 (odd l i) := by
  have hb := h.get hi
  rw [and1 _ hb.1 hb.2, wrap_u64_eq]
  unfold odd w1
  generalize l.getD i 0 = v at *
  have : v % 2 = 0 ∨ v % 2 = 1 := by omega
  rcases this with e | e <;> simp [e]
theorem vec_ok {l : List Int} (hb : Byte l) (hl : l.length ≤ 4194304) : ∃ V, colophonlaw02_Vec.f l = some (some V) ∧ VecOk V l.length (odd l) := by
  unfold colophonlaw02_Vec.f
  obtain ⟨U0, e0, h0⟩ := new1 l.length hl
  rw [e0, Option.bind_some]
  simp only []
  rw [if_neg (by simp), Option.bind_some]
  have key : ∀ (m k i : Nat) (U : List W64) (B : Nat → Bool), l.length - i = m → m < k → i ≤ l.length → Bits l.length U B → (∀ j, B j = (decide (j < i) && odd l j)) →
      ∃ U', colophonlaw02_Vec.l1 l k (i : Int) ((1 : Int), (l.length : Int), U.map uw) = some ((1 : Int), (l.length : Int), U'.map uw) ∧ Bits l.length U' (odd l) := by
    intro m
    induction m with
    | zero => intro k i U B hm hk hi hU hB; cases k with
      | zero => omega
      | succ k =>
        unfold colophonlaw02_Vec.l1
        rw [if_neg (by simp; omega)]
        refine ⟨U, rfl, ?_⟩
        have : B = odd l := funext fun j => by
          rw [hB j]
          rcases Nat.lt_or_ge j i with h | h
          · simp [h]
          · rw [odd_past l j (by omega)]; simp
        rw [← this]; exact hU
    | succ m ih => intro k i U B hm hk hi hU hB; cases k with
      | zero => omega
      | succ k =>
        unfold colophonlaw02_Vec.l1
        have hil : i < l.length := by omega
        obtain ⟨U', e, h'⟩ := set1 hU hil (odd l i)
        rw [if_pos (by simp; omega), at_get hil, Option.bind_some, odd_w l hb hil, e, Option.bind_some, wi_eq (by omega) (by omega), show ((i : Int) + 1) = ((i + 1 : Nat) : Int) by omega]
        refine ih k (i + 1) U' _ (by omega) (by omega) (by omega) h' (fun j => ?_)
        show (if j = i then odd l i else B j) = (decide (j < i + 1) && odd l j)
        by_cases hj : j = i
        · subst hj; simp
        · rw [if_neg hj, hB j]; congr 1; rw [decide_eq_decide]; omega
  obtain ⟨U', e1, h1⟩ := key l.length FU 0 U0 _ (by omega) (by show l.length < 4611686018427387904; omega) (by omega) h0 (fun j => by simp)
  rw [show ((0 : Nat) : Int) = 0 from rfl] at e1
  rw [e1, Option.bind_some]
  obtain ⟨V, e2, h2⟩ := newV h1
  rw [e2]; exact ⟨V, rfl, h2⟩
theorem first_f : colophonlaw02_first.f = some true := by decide +kernel
/-- the places of the bit b -/
def isb (l : List Int) (b : Int) (i : Nat) : Bool := decide (i < l.length) && (l.getD i 0 % 2 == b)
theorem isb_one (l : List Int) (i : Nat) : isb l 1 i = odd l i := by
  unfold isb odd
  rcases Nat.lt_or_ge i l.length with h | h
  · simp [h]
  · rw [List.getD_eq_getElem?_getD, List.getElem?_eq_none h]; simp
theorem isb_zero (l : List Int) (i : Nat) : isb l 0 i = oth (odd l) l.length i := by
  unfold isb oth odd
  congr 1
  generalize l.getD i 0 = v at *
  have : v % 2 = 0 ∨ v % 2 = 1 := by omega
  rcases this with e | e <;> simp [e]
theorem refRank {l : List Int} (hb : Byte l) (hl : l.length ≤ 4194304) (b i : Int) : colophonref02_Rank.f l b i = some (cnt (isb l b) i.toNat : Int) := by
  have key : ∀ (m k j : Nat), l.length - j = m → m < k → j ≤ l.length → (j : Int) ≤ max i 0 → colophonref02_Rank.l1 l b i k (cnt (isb l b) j : Int) (j : Int) = some (cnt (isb l b) i.toNat : Int) := by
    intro m
    induction m with
    | zero => intro k j hm hk hj hji; cases k with
      | zero => omega
      | succ k =>
        unfold colophonref02_Rank.l1
        rw [if_neg (by simp; omega), cnt_past (n := j) (m := i.toNat) (fun t ht => by unfold isb; rw [decide_eq_false (by omega)]; rfl) (by omega)]
    | succ m ih => intro k j hm hk hj hji; cases k with
      | zero => omega
      | succ k =>
        unfold colophonref02_Rank.l1
        rw [if_pos (by simp; omega)]
        by_cases hi : (j : Int) < i
        · have hjl : j < l.length := by omega
          have hbb := hb.get hjl
          have hc := cnt_le (isb l b) j
          rw [if_pos (by simpa using hi), at_get hjl, Option.bind_some, and1 _ hbb.1 hbb.2, wi_eq (n := (j : Int) + 1) (by omega) (by omega), show ((j : Int) + 1) = ((j + 1 : Nat) : Int) by omega]
          have hs : isb l b j = (l.getD j 0 % 2 == b) := by unfold isb; rw [decide_eq_true hjl]; rfl
          by_cases hbit : (l.getD j 0 % 2 == b) = true
          · rw [if_pos hbit, wi_eq (by omega) (by omega), show ((cnt (isb l b) j : Int) + 1) = (cnt (isb l b) (j + 1) : Int) by rw [cnt_succ, hs, hbit]; simp]
            exact ih k (j + 1) (by omega) (by omega) (by omega) (by omega)
          · rw [if_neg hbit, show (cnt (isb l b) j : Int) = (cnt (isb l b) (j + 1) : Int) by rw [cnt_succ, hs, if_neg hbit]; rfl]
            exact ih k (j + 1) (by omega) (by omega) (by omega) (by omega)
        · rw [if_neg (by simpa using hi), show i.toNat = j by omega]
  have := key l.length FU 0 (by omega) (by show l.length < 4611686018427387904; omega) (by omega) (by omega)
  unfold colophonref02_Rank.f
  rw [show ((0 : Nat) : Int) = 0 from rfl, show (cnt (isb l b) 0 : Int) = 0 from rfl] at this
  rw [this]; rfl
theorem refSelect {l : List Int} (hb : Byte l) (hl : l.length ≤ 4194304) (b k : Int) : ∃ p, colophonref02_Select.f l b k = some p ∧ Sel (isb l b) l.length k p := by
  have key : ∀ (m f j : Nat), l.length - j = m → m < f → j ≤ l.length → (∀ q, q < j → isb l b q = true → (cnt (isb l b) q : Int) ≠ k) →
      (∃ q : Nat, colophonref02_Select.l1 l b k f (cnt (isb l b) j : Int) (j : Int) = some (.inl (q : Int)) ∧ Sel (isb l b) l.length k (q : Int)) ∨
      (colophonref02_Select.l1 l b k f (cnt (isb l b) j : Int) (j : Int) = some (.inr ()) ∧ Sel (isb l b) l.length k (-1)) := by
    intro m
    induction m with
    | zero => intro f j hm hk hj hq; cases f with
      | zero => omega
      | succ f =>
        right
        unfold colophonref02_Select.l1
        have e : j = l.length := by omega
        rw [if_neg (by simp; omega)]
        refine ⟨rfl, .inl ⟨?_, rfl⟩⟩
        subst e
        rcases Int.lt_or_le k 0 with h | h
        · exact .inl h
        · right
          rcases Int.lt_or_le k (cnt (isb l b) l.length : Int) with h2 | h2
          · exfalso
            have up : ∀ n, (cnt (isb l b) n : Int) > k → ∃ q, q < n ∧ isb l b q = true ∧ (cnt (isb l b) q : Int) = k := by
              intro n
              induction n with
              | zero => intro h; have : cnt (isb l b) 0 = 0 := rfl; omega
              | succ n ihn =>
                intro h3
                rcases Int.lt_or_le k (cnt (isb l b) n : Int) with h4 | h4
                · obtain ⟨q, a1, a2, a3⟩ := ihn h4; exact ⟨q, by omega, a2, a3⟩
                · rw [cnt_succ] at h3
                  cases hbn : isb l b n with
                  | true => rw [hbn] at h3; simp at h3; exact ⟨n, by omega, hbn, by omega⟩
                  | false => rw [hbn] at h3; simp at h3; omega
            obtain ⟨q, a1, a2, a3⟩ := up l.length h2
            exact hq q a1 a2 a3
          · exact h2
    | succ m ih => intro f j hm hk hj hq; cases f with
      | zero => omega
      | succ f =>
        unfold colophonref02_Select.l1
        have hjl : j < l.length := by omega
        have hbb := hb.get hjl
        have hcl := cnt_le (isb l b) j
        have hs : isb l b j = (l.getD j 0 % 2 == b) := by unfold isb; rw [decide_eq_true hjl]; rfl
        rw [if_pos (by simp; omega), at_get hjl, Option.bind_some, and1 _ hbb.1 hbb.2, wi_eq (n := (j : Int) + 1) (by omega) (by omega), show ((j : Int) + 1) = ((j + 1 : Nat) : Int) by omega]
        by_cases hbit : l.getD j 0 % 2 = b
        · have hst : isb l b j = true := by rw [hs, hbit]; simp
          rw [if_neg (by rw [hbit]; simp)]
          by_cases hk2 : (cnt (isb l b) j : Int) = k
          · left
            rw [if_pos (by simpa using hk2)]
            exact ⟨j, rfl, .inr ⟨j, rfl, hjl, hst, hk2⟩⟩
          · rw [if_neg (by simpa using hk2), wi_eq (by omega) (by omega), show ((cnt (isb l b) j : Int) + 1) = (cnt (isb l b) (j + 1) : Int) by rw [cnt_succ, hst]; simp]
            exact ih f (j + 1) (by omega) (by omega) (by omega) (fun q h1 h2 => by
                rcases Nat.lt_or_ge q j with h3 | h3
                · exact hq q h3 h2
                · have : q = j := by omega
                  subst this; exact hk2)
        · have hst : isb l b j = false := by rw [hs]; exact beq_false_of_ne hbit
          rw [if_pos (by rw [bne_iff_ne]; exact hbit), show (cnt (isb l b) j : Int) = (cnt (isb l b) (j + 1) : Int) by rw [cnt_succ, hst]; simp]
          exact ih f (j + 1) (by omega) (by omega) (by omega) (fun q h1 h2 => by
            rcases Nat.lt_or_ge q j with h3 | h3
            · exact hq q h3 h2
            · have : q = j := by omega
              subst this; rw [hst] at h2; cases h2)
  have := key l.length FU 0 (by omega) (by show l.length < 4611686018427387904; omega) (by omega) (fun q h => by omega)
  unfold colophonref02_Select.f
  rw [show ((0 : Nat) : Int) = 0 from rfl, show (cnt (isb l b) 0 : Int) = 0 from rfl] at this
  rcases this with ⟨q, e, h⟩ | ⟨e, h⟩
  · rw [e]; exact ⟨_, rfl, h⟩
  · rw [e]; exact ⟨_, rfl, h⟩
end Rank
end Go.Proofs.Ytlkgejhnjbbogaa
