/-
  The laws of layer sparse, in plain words: a set from its words. No condition.
-/
import Derived.Test.YtomeiphaohjeoaaPuSparseR
import Derived.Test.YtomeiphaohjeoaaGSparseFrom
import Derived.Test.YtomeiphaohjeoaaGSparseBack
namespace Go.Proofs.Ytomeiphaohjeoaa
open Go Go.Gol
set_option linter.unusedVariables false
set_option linter.unusedSimpArgs false
set_option linter.unnecessarySimpa false
set_option maxRecDepth 100000
namespace Sparse
open Pack Cnt Rank
theorem u64_ex {e : TypeId} {l : List Int} (h : Fits (.slice e (.int .u64)) l) : ∃ U : List W64, l = U.map uw := by
  obtain ⟨_, h⟩ := h
  refine ⟨l.map (fun n => BitVec.ofInt 64 n), ?_⟩
  rw [List.map_map]
  conv => lhs; rw [← List.map_id l]
  apply List.map_congr_left
  intro v hv
  have : 0 ≤ v ∧ v ≤ 18446744073709551615 := h v hv
  show v = ((BitVec.ofInt 64 v).toNat : Int)
  rw [BitVec.toNat_ofInt]; omega
theorem at_w {U : List W64} {q : Nat} (h : q < U.length) : at? (U.map uw) (q : Int) = some (uw U[q]) := Refw.at_w h
theorem cpy_same {α : Type} {xs ys : List α} (h : ys.length = xs.length) : cpy xs ys = ys := by
  unfold cpy
  rw [h, Nat.min_self, List.drop_length, ← h, List.take_length, List.append_nil]
/-- when words are taken -/
def Fine (w n : Nat) (U : List W64) : Prop := U.length = need w n ∧ ∀ k, n * w ≤ k → bitAt U k = false
theorem packFrom_ok (w n : Nat) (U : List W64) (hw : 1 ≤ w) (hw2 : w ≤ 64) (hn : n ≤ 4194304) :
    (Fine w n U → pack_From.f (w : Int) (n : Int) (U.map uw) = some (some ((w : Int), (n : Int), U.map uw), 0)) ∧ (¬ Fine w n U → pack_From.f (w : Int) (n : Int) (U.map uw) = some (none, 10)) := by
  have hnw : w * n ≤ 64 * 4194304 := Nat.mul_le_mul hw2 hn
  unfold pack_From.f
  rw [new_f w n hw hw2 hn, Option.bind_some]
  simp only []
  rw [if_neg (by simp), Option.bind_some]
  simp only [List.length_map, List.length_replicate]
  by_cases hl : U.length = need w n
  · rw [if_neg (by rw [bne_iff_ne]; omega), cpy_same (by simpa using hl)]
    have ewn : wi ((w : Int) * (n : Int)) = ((w * n : Nat) : Int) := by rw [← Int.natCast_mul]; exact wi_eq (by omega) (by omega)
    have ew2 : Int.tmod (wi ((w : Int) * (n : Int))) 64 = ((w * n % 64 : Nat) : Int) := by rw [ewn, Int.tmod_eq_emod_of_nonneg (by omega)]; omega
    rw [ew2]
    have hneed : need w n = (w * n + 63) / 64 := rfl
    by_cases h0 : w * n % 64 > 0
    · have hlast : U.length - 1 < U.length := by omega
      have hq : U.length - 1 = w * n / 64 := by omega
      rw [if_pos (by simp; omega), wi_eq (n := (U.length : Int) - 1) (by omega) (by omega), show ((U.length : Int) - 1) = ((U.length - 1 : Nat) : Int) by omega, at_w hlast, Option.bind_some, chk?_eq (decide_eq_true (by omega)), Option.bind_some, ishr_nat .u64 _ _ (by show w * n % 64 ≤ 64; omega)]
      obtain ⟨x, hx⟩ : ∃ x, x = U[U.length - 1] := ⟨_, rfl⟩
      have hxk : ∀ j, j < 64 → bitAt U (64 * (w * n / 64) + j) = x.getLsbD j := fun j hj => by
        unfold bitAt
        rw [show (64 * (w * n / 64) + j) / 64 = U.length - 1 by omega, show (64 * (w * n / 64) + j) % 64 = j by omega, List.getD_eq_getElem?_getD, List.getElem?_eq_getElem hlast, hx]; rfl
      rw [← hx]
      have hp : 0 < 2 ^ (w * n % 64) := Nat.pow_pos (by decide)
      by_cases hz : x.toNat / 2 ^ (w * n % 64) = 0
      · have hlt : x.toNat < 2 ^ (w * n % 64) := by
          rcases Nat.div_eq_zero_iff.1 hz with h | h
          · omega
          · exact h
        rw [hz, if_neg (by simp)]
        have fine : Fine w n U := ⟨hl, fun k hk => by
          rw [Nat.mul_comm] at hk
          rcases Nat.lt_or_ge k (64 * U.length) with h | h
          · have := hxk (k - 64 * (w * n / 64)) (by omega)
            rw [show 64 * (w * n / 64) + (k - 64 * (w * n / 64)) = k by omega] at this
            rw [this, ← BitVec.testBit_toNat]
            exact Nat.testBit_lt_two_pow (Nat.lt_of_lt_of_le hlt (Nat.pow_le_pow_right (by decide) (by omega)))
          · exact bitAt_past U k h⟩
        exact ⟨fun _ => rfl, fun h => absurd fine h⟩
      · have hz' : (((x.toNat / 2 ^ (w * n % 64) : Nat) : Int) != 0) = true := by
          rw [bne_iff_ne]; intro h; exact hz (by omega)
        rw [if_pos hz']
        refine ⟨fun hf => absurd ?_ hz, fun _ => rfl⟩
        apply Nat.div_eq_of_lt
        refine Nat.lt_pow_two_of_testBit _ (fun j hj => ?_)
        rw [BitVec.testBit_toNat]
        rcases Nat.lt_or_ge j 64 with hj' | hj'
        · rw [← hxk j hj']; exact hf.2 _ (by rw [Nat.mul_comm]; omega)
        · exact BitVec.getLsbD_of_ge _ _ hj'
    · rw [if_neg (by simp; omega)]
      have fine : Fine w n U := ⟨hl, fun k hk => bitAt_past U k (by rw [Nat.mul_comm] at hk; omega)⟩
      exact ⟨fun _ => rfl, fun h => absurd fine h⟩
  · rw [if_pos (by rw [bne_iff_ne]; omega)]
    exact ⟨fun h => absurd h.1 hl, fun _ => rfl⟩
theorem equal_ok (a b : List Int) (h : a.length ≤ 1000000000) : slices_Equal.f a b = some (decide (a = b)) := by
  unfold slices_Equal.f
  by_cases hl : a.length = b.length
  · rw [if_neg (by rw [bne_iff_ne]; omega)]
    have key : ∀ (m k i : Nat), a.length - i = m → m < k → i ≤ a.length → (∀ j, j < i → a.getD j 0 = b.getD j 0) → (slices_Equal.l1 a b k (i : Int) = some (.inl false) ∧ a ≠ b) ∨ (slices_Equal.l1 a b k (i : Int) = some (.inr ()) ∧ a = b) := by
      intro m
      induction m with
      | zero => intro k i hm hk hi hj; cases k with
        | zero => omega
        | succ k =>
          unfold slices_Equal.l1; rw [if_neg (by simp; omega)]
          refine .inr ⟨rfl, List.ext_getElem hl (fun j h1 h2 => ?_)⟩
          have := hj j (by omega)
          rw [List.getD_eq_getElem?_getD, List.getElem?_eq_getElem h1, List.getD_eq_getElem?_getD, List.getElem?_eq_getElem h2] at this
          exact this
      | succ m ih => intro k i hm hk hi hj; cases k with
        | zero => omega
        | succ k =>
          unfold slices_Equal.l1
          rw [if_pos (by simp; omega), at_g (by omega), Option.bind_some, at_g (by omega), Option.bind_some]
          by_cases he : a.getD i 0 = b.getD i 0
          · rw [if_neg (by rw [bne_iff_ne]; exact fun h => h he), wi_eq (by omega) (by omega), show ((i : Int) + 1) = ((i + 1 : Nat) : Int) by omega]
            exact ih k (i + 1) (by omega) (by omega) (by omega) (fun j h => by
              by_cases e : j = i
              · rw [e]; exact he
              · exact hj j (by omega))
          · rw [if_pos (by rw [bne_iff_ne]; exact he)]
            exact .inl ⟨rfl, fun e => he (by rw [e])⟩
    have := key a.length FU 0 (by omega) (by show a.length < 4611686018427387904; omega) (by omega) (fun j h => by omega)
    rw [show ((0 : Nat) : Int) = 0 from rfl] at this
    rcases this with ⟨e, hne⟩ | ⟨e, he⟩
    · rw [e, decide_eq_false hne]; rfl
    · rw [e, decide_eq_true he]; rfl
  · rw [if_pos (by rw [bne_iff_ne]; omega), decide_eq_false (fun e => hl (by rw [e]))]
theorem from_bad {a0 a1 : Int} {l2 l3 : List Int} (h : a0 < 0 ∨ a0 > 4194304 ∨ a1 < 0 ∨ a1 > a0) : sparse_From.f a0 a1 l2 l3 = some (none, 2) := by
  unfold sparse_From.f
  by_cases h0 : a0 < 0
  · rw [if_pos (by simpa using h0)]
  rw [if_neg (by simpa using h0)]
  by_cases h1 : a0 > 4194304
  · rw [if_pos (by simpa using h1)]
  rw [if_neg (by simpa using h1)]
  by_cases h2 : a1 < 0
  · rw [if_pos (by simpa using h2)]
  rw [if_neg (by simpa using h2)]
  rw [if_pos (by rw [decide_eq_true_eq]; omega)]
/-- what From does once the words are taken -/
theorem from_step {u n w m : Nat} {U1 U2 : List W64} (hu : u ≤ 100000) (hn : n ≤ u) (es : sparse_shape.f (u : Int) (n : Int) = some ((w : Int), (m : Int))) (hs : Shape u n w m) (f1 : Fine 1 m U1) (f2 : Fine (max 1 w) n U2) :
    ∃ V, VecOk V m (bitAt U1) ∧ sparse_From.f (u : Int) (n : Int) (U1.map uw) (U2.map uw) = ((sparse_From.l1 (n : Int) ((w : Int), (m : Int)) (((max 1 w : Nat) : Int), (n : Int), U2.map uw) V FU ([] : List Int) 0).bind fun o86 => (match o86 with | .inl o88 => some (none, o88) | .inr o92 => ((sparse_New.f (u : Int) o92).bind fun r96 => (if (r96.2 != 0) then some (none, 10) else (r96.1.bind fun y107 => ((pack_Ints_Words.f y107.2.2.2.2.1).bind fun r115 => ((slices_Equal.f r115 (U1.map uw)).bind fun r126 => (if (!r126) then some (none, 10) else ((pack_Ints_Words.f y107.2.2.2.2.2).bind fun r136 => ((slices_Equal.f r136 (U2.map uw)).bind fun r147 => (if (!r147) then some (none, 10) else some (some y107, 0)))))))))))) := by
  have hw := hs.hw
  have hm := hs.hm
  have hB : Bits m U1 (bitAt U1) := ⟨by omega, by have := f1.1; unfold need at this; omega, fun k => rfl, fun k hk => f1.2 k (by omega)⟩
  obtain ⟨V, eV, hV⟩ := newV hB
  refine ⟨V, hV, ?_⟩
  have emax : imax 1 (w : Int) = ((max 1 w : Nat) : Int) := by unfold imax; split <;> omega
  have e1 := (packFrom_ok 1 m U1 (by omega) (by omega) (by omega)).1 f1
  have e2 := (packFrom_ok (max 1 w) n U2 (by omega) (by omega) (by omega)).1 f2
  rw [show ((1 : Nat) : Int) = 1 from rfl] at e1
  unfold sparse_From.f
  rw [if_neg (by simp), if_neg (by simp; omega), if_neg (by simp), if_neg (by simp; omega), es, Option.bind_some]
  simp only []
  rw [e1, Option.bind_some, emax, e2, Option.bind_some]
  simp only []
  rw [if_neg (by simp), if_neg (by simp), eV, Option.bind_some]
  rfl
theorem set_words {S : Int × Int × Int × (Option (Int × (List Int) × (List Int) × Int)) × (Option (Int × Int × (List Int))) × (Option (Int × Int × (List Int)))} {W1 W2 : List Int} (h : sparse_Set_Words.f (some S) = some (W1, W2)) : pack_Ints_Words.f S.2.2.2.2.1 = some W1 ∧ pack_Ints_Words.f S.2.2.2.2.2 = some W2 := by
  unfold sparse_Set_Words.f at h
  simp only [] at h
  cases e1 : pack_Ints_Words.f S.2.2.2.2.1 with
  | none => rw [e1] at h; cases h
  | some A =>
    cases e2 : pack_Ints_Words.f S.2.2.2.2.2 with
    | none => rw [e1, e2] at h; cases h
    | some B =>
      rw [e1, e2] at h
      have h' : (A, B) = (W1, W2) := by simpa using h
      cases h'; exact ⟨rfl, rfl⟩
/-- whatever words: an error, or a set of these very words -/
theorem from_any {u n : Nat} (U1 U2 : List W64) (hu : u ≤ 100000) (hn : n ≤ u) :
    sparse_From.f (u : Int) (n : Int) (U1.map uw) (U2.map uw) = some (none, 10) ∨ ∃ S l, sparse_From.f (u : Int) (n : Int) (U1.map uw) (U2.map uw) = some (some S, 0) ∧ Good u l ∧ l.length = n ∧ SetOk S u l ∧ sparse_Set_Words.f (some S) = some (U1.map uw, U2.map uw) := by
  obtain ⟨w, m, es, hs⟩ := shape_ok u n (by omega) hn
  have hw := hs.hw
  have hm := hs.hm
  have emax : imax 1 (w : Int) = ((max 1 w : Nat) : Int) := by unfold imax; split <;> omega
  have p1 := packFrom_ok 1 m U1 (by omega) (by omega) (by omega)
  have p2 := packFrom_ok (max 1 w) n U2 (by omega) (by omega) (by omega)
  rw [show ((1 : Nat) : Int) = 1 from rfl] at p1
  by_cases f1 : ¬ Fine 1 m U1
  · left
    unfold sparse_From.f
    rw [if_neg (by simp), if_neg (by simp; omega), if_neg (by simp), if_neg (by simp; omega), es, Option.bind_some]
    simp only []
    rw [p1.2 f1, Option.bind_some, emax]
    by_cases f2 : Fine (max 1 w) n U2
    · rw [p2.1 f2, Option.bind_some]; rfl
    · rw [p2.2 f2, Option.bind_some]; rfl
  have f1 := Classical.not_not.1 f1
  by_cases f2 : ¬ Fine (max 1 w) n U2
  · left
    unfold sparse_From.f
    rw [if_neg (by simp), if_neg (by simp; omega), if_neg (by simp), if_neg (by simp; omega), es, Option.bind_some]
    simp only []
    rw [p1.1 f1, Option.bind_some, emax, p2.2 f2, Option.bind_some]; rfl
  have f2 := Classical.not_not.1 f2
  obtain ⟨V, hV, ef⟩ := from_step hu hn es hs f1 f2
  rw [ef]
  have key : ∀ (x k i : Nat) (L : List Int), n - i = x → x < k → i ≤ n → L.length = i → sparse_From.l1 (n : Int) ((w : Int), (m : Int)) (((max 1 w : Nat) : Int), (n : Int), U2.map uw) V k L (i : Int) = some (.inl 10) ∨ ∃ L', sparse_From.l1 (n : Int) ((w : Int), (m : Int)) (((max 1 w : Nat) : Int), (n : Int), U2.map uw) V k L (i : Int) = some (.inr L') ∧ L'.length = n := by
    intro x
    induction x with
    | zero => intro k i L hx hk hi hl; cases k with
      | zero => omega
      | succ k => unfold sparse_From.l1; rw [if_neg (by simp; omega)]; exact .inr ⟨L, rfl, by omega⟩
    | succ x ih => intro k i L hx hk hi hl; cases k with
      | zero => omega
      | succ k =>
        unfold sparse_From.l1
        obtain ⟨p, ep, _⟩ := select_ok hV (i : Int)
        have hneed := need_ok (max 1 w) n
        obtain ⟨v, ev, _⟩ := get_f (max 1 w) n i U2 (by omega) (by omega) (by omega) (by rw [f2.1]; exact hneed) (by omega)
        rw [if_pos (by simp; omega), ep, Option.bind_some]
        by_cases h0 : p < 0
        · rw [if_pos (by simpa using h0)]; exact .inl rfl
        · rw [if_neg (by simpa using h0), chk?_eq (decide_eq_true (by show (0 : Int) ≤ (w : Int); omega)), Option.bind_some, ev, Option.bind_some, app?_eq (by simp; omega), Option.bind_some, wi_eq (n := (i : Int) + 1) (by omega) (by omega), show ((i : Int) + 1) = ((i + 1 : Nat) : Int) by omega]
          exact ih k (i + 1) _ (by omega) (by omega) (by omega) (by simp [hl])
  have := key n FU 0 [] (by omega) (by show n < 4611686018427387904; omega) (by omega) rfl
  rw [show ((0 : Nat) : Int) = 0 from rfl] at this
  rcases this with e | ⟨L, e, hL⟩
  · left; rw [e]; rfl
  · rw [e, Option.bind_some]
    simp only []
    by_cases hg : Good u L
    · obtain ⟨S, eS, hS⟩ := new_ok (u := u) (l := L) (by omega) (.inl (by omega)) hg
      obtain ⟨W1, W2, w1, w2, l1, l2⟩ := words_ok hS hg hu
      obtain ⟨s1, s2⟩ := set_words w1
      rw [eS, Option.bind_some]
      simp only []
      rw [if_neg (by simp), Option.bind_some, s1, Option.bind_some, equal_ok _ _ (by omega), Option.bind_some]
      by_cases q1 : W1 = U1.map uw
      · rw [decide_eq_true q1, if_neg (by simp), s2, Option.bind_some, equal_ok _ _ (by omega), Option.bind_some]
        by_cases q2 : W2 = U2.map uw
        · rw [decide_eq_true q2, if_neg (by simp)]
          exact .inr ⟨S, L, rfl, hg, hL, hS, by rw [w1, q1, q2]⟩
        · rw [decide_eq_false q2]; exact .inl rfl
      · rw [decide_eq_false q1]; exact .inl rfl
    · rw [new_bad (u := (u : Int)) (by omega) (fun h => hg h.2.2)]; exact .inl rfl
/-- the words of a set give the set -/
theorem from_exact {u : Nat} {l W1 W2 : List Int} (hG : Good u l) (hu : u ≤ 100000) (hr : colophonref03_Words.f (u : Int) l = some (W1, W2)) :
    ∃ (S : _) (U1 U2 : List W64), W1 = U1.map uw ∧ W2 = U2.map uw ∧ (0 < l.length → 0 < U1.length) ∧ U1.length ≤ 1000000 ∧ sparse_From.f (u : Int) (l.length : Int) W1 W2 = some (some S, 0) ∧ SetOk S u l := by
  have hlen := hG.len
  obtain ⟨S, eS, hS⟩ := new_ok (u := u) (l := l) (by omega) (.inl (by omega)) hG
  obtain ⟨X1, X2, x1, x2, l1, l2⟩ := words_ok hS hG hu
  rw [hr] at x2
  have hX : X1 = W1 ∧ X2 = W2 := by simpa [eq_comm] using x2
  obtain ⟨rfl, rfl⟩ := hX
  obtain ⟨s1, s2⟩ := set_words x1
  obtain ⟨w, m, V0, U1, U2, xs, hSe, hs, hB, hV0, hP, hx⟩ := id hS
  have hw := hs.hw
  have hm := hs.hm
  have hwn : max 1 w * l.length ≤ 22 * l.length := Nat.mul_le_mul_right _ (by omega)
  have b2 : U2.length ≤ 10000000 := by rw [hP.len]; unfold need; generalize max 1 w * l.length = z at *; omega
  have b1 : U1.length ≤ 1000000 := by have := hB.len; omega
  rw [hSe] at s1 s2
  simp only [] at s1 s2
  rw [words_f _ _ U1 (by omega)] at s1
  rw [words_f _ _ U2 (by omega)] at s2
  have t1 : X1 = U1.map uw := by simpa [eq_comm] using s1
  have t2 : X2 = U2.map uw := by simpa [eq_comm] using s2
  obtain ⟨w', m', es, hs'⟩ := shape_ok u l.length (by omega) hlen
  have hww : w' = w ∧ m' = m := by
    rcases Nat.eq_zero_or_pos l.length with h0 | h0
    · have a := hs.zero h0; have b := hs'.zero h0; omega
    · have a := refWidth_ok hs h0 (by omega)
      have b := refWidth_ok hs' h0 (by omega)
      rw [a] at b
      have hwe : w = w' := by
        have : (w : Int) = (w' : Int) := by simpa using b
        omega
      subst hwe
      exact ⟨rfl, by rw [(hs.pos h0).1, (hs'.pos h0).1]⟩
  obtain ⟨rfl, rfl⟩ := hww
  have f1 : Fine 1 m' U1 := ⟨by rw [hB.len]; unfold need; rw [Nat.one_mul], fun k hk => by rw [hB.bit]; exact hB.past k (by omega)⟩
  have f2 : Fine (max 1 w') l.length U2 := ⟨hP.len, hP.past⟩
  obtain ⟨V, hV, ef⟩ := from_step hu hlen es hs f1 f2
  refine ⟨S, U1, U2, t1, t2, fun h => by
    have h1 := hB.len
    have h2 := (hs.pos h).1
    generalize (u - 1) / 2 ^ w' = d at h2
    omega, b1, ?_, hS⟩
  rw [t1, t2, ef]
  have hV' : VecOk V m' (hb l w' l.length) := by
    have : bitAt U1 = hb l w' l.length := funext hB.bit
    rw [← this]; exact hV
  have hS2 : SetOk ((u : Int), (l.length : Int), (w' : Int), some V, some ((1 : Int), (m' : Int), U1.map uw), some (((max 1 w' : Nat) : Int), (l.length : Int), U2.map uw)) u l := ⟨w', m', V, U1, U2, xs, rfl, hs, hB, hV', hP, hx⟩
  have key : ∀ (x k i : Nat) (L : List Int), l.length - i = x → x < k → i ≤ l.length → L = l.take i → sparse_From.l1 (l.length : Int) ((w' : Int), (m' : Int)) (((max 1 w' : Nat) : Int), (l.length : Int), U2.map uw) V k L (i : Int) = some (.inr l) := by
    intro x
    induction x with
    | zero => intro k i L hx hk hi hL; cases k with
      | zero => omega
      | succ k => unfold sparse_From.l1; rw [if_neg (by simp; omega), hL, show i = l.length by omega, List.take_length]
    | succ x ih => intro k i L hx hk hi hL; cases k with
      | zero => omega
      | succ k =>
        unfold sparse_From.l1
        have hil : i < l.length := by omega
        have ha := at_ok hS2 hG (by omega) hil
        unfold sparse_Set_At.f at ha
        simp only [] at ha
        rw [if_neg (by simp), if_neg (by simp; omega)] at ha
        obtain ⟨p, ep, hp'⟩ := select_ok hV' (i : Int)
        have hpp : ¬ p < 0 := by
          rcases hp' with ⟨h, e⟩ | ⟨q, e, _⟩
          · have hpm : hp l w' i < m' := by
              have := (hs.pos (by omega)).1
              have := (hG.vn hil).2
              have : vn l i / 2 ^ w' ≤ (u - 1) / 2 ^ w' := Nat.div_le_div_right (by omega)
              unfold hp; omega
            have h1 := cnt_hb hG w' hil _ (Nat.le_refl l.length)
            have h2 := cnt_mono (hb l w' l.length) (show hp l w' i + 1 ≤ m' by omega)
            rw [cnt_succ, (hb_iff l w' l.length (hp l w' i)).2 ⟨i, hil, rfl⟩, if_pos rfl] at h2
            omega
          · omega
        rw [ep, Option.bind_some] at ha
        cases ec : chk? (decide (0 ≤ (w' : Int))) with
        | none => rw [chk?_eq (decide_eq_true (by omega))] at ec; cases ec
        | some z =>
          rw [ec, Option.bind_some] at ha
          cases eg : pack_Ints_Get.f (some (((max 1 w' : Nat) : Int), (l.length : Int), U2.map uw)) (i : Int) with
          | none => rw [eg] at ha; cases ha
          | some g =>
            rw [eg, Option.bind_some] at ha
            have hv : ior .i64 (ishl .i64 (wi (p - (i : Int))) (w' : Int)) (wi g) = l.getD i 0 := by simpa using ha
            rw [if_pos (by simp; omega), ep, Option.bind_some, if_neg (by simpa using hpp), Option.bind_some, Option.bind_some]
            simp only []
            rw [hv, app?_eq (by rw [hL]; simp; omega), Option.bind_some, wi_eq (n := (i : Int) + 1) (by omega) (by omega), show ((i : Int) + 1) = ((i + 1 : Nat) : Int) by omega]
            refine ih k (i + 1) _ (by omega) (by omega) (by omega) ?_
            rw [hL, List.take_add_one, List.getElem?_eq_getElem hil, List.getD_eq_getElem?_getD, List.getElem?_eq_getElem hil]; rfl
  have e := key l.length FU 0 [] (by omega) (by show l.length < 4611686018427387904; omega) (by omega) rfl
  rw [show ((0 : Nat) : Int) = 0 from rfl] at e
  rw [e, Option.bind_some]
  simp only []
  rw [eS, Option.bind_some]
  simp only []
  rw [hSe, if_neg (by simp), Option.bind_some]
  simp only []
  rw [words_f _ _ U1 (by omega), Option.bind_some, equal_ok _ _ (by simp; omega), Option.bind_some, decide_eq_true rfl, if_neg (by simp), words_f _ _ U2 (by omega), Option.bind_some, equal_ok _ _ (by simp; omega), Option.bind_some, decide_eq_true rfl, if_neg (by simp)]
theorem ext_get {a b : List Int} (hl : a.length = b.length) (h : ∀ i, i < a.length → a.getD i 0 = b.getD i 0) : a = b := by
  apply List.ext_getElem hl
  intro i h1 h2
  have := h i h1
  rw [List.getD_eq_getElem?_getD, List.getElem?_eq_getElem h1, List.getD_eq_getElem?_getD, List.getElem?_eq_getElem h2] at this
  exact this
end Sparse
end Go.Proofs.Ytomeiphaohjeoaa
