/-
  The law of pack that plays moves, in plain words. No condition.
-/
import Derived.Test.YtamlfkfdpgchiaaPuPackP
import Derived.Test.YtamlfkfdpgchiaaGPackPlays
namespace Go.Proofs.Ytamlfkfdpgchiaa
open Go Go.Gol
set_option linter.unusedVariables false
set_option linter.unusedSimpArgs false
set_option maxRecDepth 100000
namespace Packed
open Pack
theorem first_f : colophonlaw01_first.f = some true := by decide +kernel
theorem right_f (a0 a1 : Int) : colophonref01_Right.f a0 a1 = some (decide (1 ≤ a0 ∧ a0 ≤ 64 ∧ 0 ≤ a1 ∧ a1 ≤ 4194304)) := by
  unfold colophonref01_Right.f
  by_cases h1 : a0 ≥ 1
  · rw [if_pos (by simpa using h1)]
    by_cases h2 : a0 ≤ 64
    · rw [if_pos (by simpa using h2)]
      by_cases h3 : a1 ≥ 0
      · rw [if_pos (by simpa using h3)]
        congr 1; rw [decide_eq_decide]; omega
      · rw [if_neg (by simpa using h3), decide_eq_false (by omega)]
    · rw [if_neg (by simpa using h2), decide_eq_false (by omega)]
  · rw [if_neg (by simpa using h1), decide_eq_false (by omega)]
theorem new_bad {a0 a1 : Int} (h : ¬ (1 ≤ a0 ∧ a0 ≤ 64 ∧ 0 ≤ a1 ∧ a1 ≤ 4194304)) : pack_New.f a0 a1 = some (none, 2) := by
  unfold pack_New.f
  by_cases h1 : a0 < 1
  · rw [if_pos (by simpa using h1)]
  rw [if_neg (by simpa using h1)]
  by_cases h2 : a0 > 64
  · rw [if_pos (by simpa using h2)]
  rw [if_neg (by simpa using h2)]
  by_cases h3 : a1 < 0
  · rw [if_pos (by simpa using h3)]
  rw [if_neg (by simpa using h3), if_pos (by rw [decide_eq_true_eq]; omega)]
theorem fits_ok (w : Nat) (v : W64) (hw : w ≤ 64) : ∃ b, colophonref01_Fits.f (w : Int) (uw v) = some b ∧ (b = true ↔ Fit w v) := by
  unfold colophonref01_Fits.f
  by_cases h : w = 64
  · subst h; rw [if_pos (by simp)]
    exact ⟨true, rfl, ⟨fun _ j hj => BitVec.getLsbD_of_ge _ _ hj, fun _ => rfl⟩⟩
  · rw [if_neg (by rw [beq_iff_eq]; omega), Refw.wrapu (by omega) (by omega), show uw v = ((v.toNat : Nat) : Int) from rfl, ishr_nat .u64 _ _ (by show w ≤ 64; omega)]
    refine ⟨_, rfl, ?_⟩
    rw [beq_iff_eq]
    have hp : 0 < 2 ^ w := Nat.pow_pos (by decide)
    constructor
    · intro hz j hj
      have hz' : v.toNat / 2 ^ w = 0 := by
        generalize v.toNat / 2 ^ w = z at *; omega
      have hlt : v.toNat < 2 ^ w := by
        rcases Nat.div_eq_zero_iff.1 hz' with h | h
        · omega
        · exact h
      rw [← BitVec.testBit_toNat]
      exact Nat.testBit_lt_two_pow (Nat.lt_of_lt_of_le hlt (Nat.pow_le_pow_right (by decide) hj))
    · intro hf
      have : v.toNat / 2 ^ w = 0 := Nat.div_eq_of_lt (Nat.lt_pow_two_of_testBit _ (fun j hj => by rw [BitVec.testBit_toNat]; exact hf j hj))
      rw [this]; rfl
/-- what the program's list and the plain list share -/
structure Same (w n : Nat) (U : List W64) (xs : Nat → W64) (X : List Int) : Prop where
  pk : PkZ w n U xs
  len : X.length = n
  val : ∀ i, i < n → X.getD i 0 = uw (xs i)
theorem ref_words {w n : Nat} {U : List W64} {xs : Nat → W64} {X : List Int} (h : Same w n U xs X) (hw : 1 ≤ w) (hw2 : w ≤ 64) (hn : n ≤ 10000) : ∃ R, colophonref01_Bits.f (w : Int) X = some R ∧ colophonref01_Words.f R = some (U.map uw) := by
  have hl := h.len
  have hnw : n * w ≤ 10000 * 64 := Nat.mul_le_mul hn hw2
  obtain ⟨R, er, lr, hr⟩ := Refw.bits_ok w hw2 X (fun i hi => by
    rw [h.val i (by omega)]
    have := (xs i).isLt
    show 0 ≤ ((xs i).toNat : Int) ∧ ((xs i).toNat : Int) < 18446744073709551616
    omega) (by omega)
  rw [hl] at lr
  have hcov : ∀ k, k < R.length → ∃ i j, i < n ∧ j < w ∧ k = i * w + j := fun k hk => by
    rw [lr] at hk
    refine ⟨k / w, k % w, Nat.div_lt_of_lt_mul (by rw [Nat.mul_comm]; exact hk), Nat.mod_lt _ (by omega), ?_⟩
    rw [Nat.mul_comm]; exact (Nat.div_add_mod k w).symm
  obtain ⟨A, ea, la, ba⟩ := Refw.words_ok R (fun k hk => by
    obtain ⟨i, j, hi, hj, e⟩ := hcov k hk
    rw [e, hr i (by omega) j hj]; split <;> simp) (by rw [lr]; omega)
  refine ⟨R, er, ?_⟩
  have : A = U := Refw.bits_ext (by rw [la, lr, h.pk.len]; unfold need; rw [Nat.mul_comm n]) (fun k => by
    rw [ba]
    rcases Nat.lt_or_ge k R.length with hk | hk
    · obtain ⟨i, j, hi, hj, e⟩ := hcov k hk
      rw [decide_eq_true hk, Bool.true_and, e, hr i (by omega) j hj, h.pk.pk.bit i hi j hj, h.val i hi, ← BitVec.testBit_toNat]
      show ((if ((xs i).toNat : Int).toNat.testBit j = true then (1 : Int) else 0) == 1) = _
      rw [Int.toNat_natCast]
      cases (xs i).toNat.testBit j <;> rfl
    · rw [decide_eq_false (by omega), h.pk.past k (by rw [lr] at hk; exact hk)]; rfl)
  rw [ea, this]
theorem wipe2 (l2 : List (Int × Int)) (y : List Int) (hy : y.length ≤ 1000000) : colophonlaw01_PackPlays.l2 l2 y FU y 0 = some () := by
  have key : ∀ (m k i : Nat) (x : List Int), y.length - i = m → m < k → x.length = y.length → colophonlaw01_PackPlays.l2 l2 y k x (i : Int) = some () := by
    intro m
    induction m with
    | zero => intro k i x hm hk hx; cases k with
      | zero => omega
      | succ k => unfold colophonlaw01_PackPlays.l2; rw [if_neg (by simp; omega)]
    | succ m ih => intro k i x hm hk hx; cases k with
      | zero => omega
      | succ k =>
        unfold colophonlaw01_PackPlays.l2
        rw [if_pos (by simp; omega), at_g (by omega), Option.bind_some, set?_nat _ (by omega), Option.bind_some, wi_eq (by omega) (by omega), show ((i : Int) + 1) = ((i + 1 : Nat) : Int) by omega]
        exact ih k (i + 1) _ (by omega) (by omega) (by simpa using hx)
  have := key y.length FU 0 y (by omega) (by show y.length < 4611686018427387904; omega) rfl
  rw [show ((0 : Nat) : Int) = 0 from rfl] at this
  exact this
theorem wipe4  (y : List Int) (hy : y.length ≤ 1000000) : colophonlaw01_PackPlays.l4 y FU y 0 = some () := by
  have key : ∀ (m k i : Nat) (x : List Int), y.length - i = m → m < k → x.length = y.length → colophonlaw01_PackPlays.l4 y k x (i : Int) = some () := by
    intro m
    induction m with
    | zero => intro k i x hm hk hx; cases k with
      | zero => omega
      | succ k => unfold colophonlaw01_PackPlays.l4; rw [if_neg (by simp; omega)]
    | succ m ih => intro k i x hm hk hx; cases k with
      | zero => omega
      | succ k =>
        unfold colophonlaw01_PackPlays.l4
        rw [if_pos (by simp; omega), at_g (by omega), Option.bind_some, set?_nat _ (by omega), Option.bind_some, wi_eq (by omega) (by omega), show ((i : Int) + 1) = ((i + 1 : Nat) : Int) by omega]
        exact ih k (i + 1) _ (by omega) (by omega) (by simpa using hx)
  have := key y.length FU 0 y (by omega) (by show y.length < 4611686018427387904; omega) rfl
  rw [show ((0 : Nat) : Int) = 0 from rfl] at this
  exact this
theorem wipe6  (y : List Int) (hy : y.length ≤ 1000000) : colophonlaw01_PackPlays.l6 y FU y 0 = some () := by
  have key : ∀ (m k i : Nat) (x : List Int), y.length - i = m → m < k → x.length = y.length → colophonlaw01_PackPlays.l6 y k x (i : Int) = some () := by
    intro m
    induction m with
    | zero => intro k i x hm hk hx; cases k with
      | zero => omega
      | succ k => unfold colophonlaw01_PackPlays.l6; rw [if_neg (by simp; omega)]
    | succ m ih => intro k i x hm hk hx; cases k with
      | zero => omega
      | succ k =>
        unfold colophonlaw01_PackPlays.l6
        rw [if_pos (by simp; omega), at_g (by omega), Option.bind_some, set?_nat _ (by omega), Option.bind_some, wi_eq (by omega) (by omega), show ((i : Int) + 1) = ((i + 1 : Nat) : Int) by omega]
        exact ih k (i + 1) _ (by omega) (by omega) (by simpa using hx)
  have := key y.length FU 0 y (by omega) (by show y.length < 4611686018427387904; omega) rfl
  rw [show ((0 : Nat) : Int) = 0 from rfl] at this
  exact this
theorem wipe8  (y : List Int) (hy : y.length ≤ 1000000) : colophonlaw01_PackPlays.l8 y FU y 0 = some () := by
  have key : ∀ (m k i : Nat) (x : List Int), y.length - i = m → m < k → x.length = y.length → colophonlaw01_PackPlays.l8 y k x (i : Int) = some () := by
    intro m
    induction m with
    | zero => intro k i x hm hk hx; cases k with
      | zero => omega
      | succ k => unfold colophonlaw01_PackPlays.l8; rw [if_neg (by simp; omega)]
    | succ m ih => intro k i x hm hk hx; cases k with
      | zero => omega
      | succ k =>
        unfold colophonlaw01_PackPlays.l8
        rw [if_pos (by simp; omega), at_g (by omega), Option.bind_some, set?_nat _ (by omega), Option.bind_some, wi_eq (by omega) (by omega), show ((i : Int) + 1) = ((i + 1 : Nat) : Int) by omega]
        exact ih k (i + 1) _ (by omega) (by omega) (by simpa using hx)
  have := key y.length FU 0 y (by omega) (by show y.length < 4611686018427387904; omega) rfl
  rw [show ((0 : Nat) : Int) = 0 from rfl] at this
  exact this
theorem look3 {w n : Nat} {U : List W64} {xs : Nat → W64} {X : List Int} (h : Same w n U xs X) (hw : 1 ≤ w) (hw2 : w ≤ 64) (hn : n ≤ 10000) (b : Bool) : colophonlaw01_PackPlays.l3 (n : Int) (b, ((w : Int), (n : Int), U.map uw)) X FU (-1) = some (.inr ()) := by
  have key : ∀ (m k i : Nat), n + 2 - i = m → m < k → colophonlaw01_PackPlays.l3 (n : Int) (b, ((w : Int), (n : Int), U.map uw)) X k ((i : Int) - 1) = some (.inr ()) := by
    intro m
    induction m with
    | zero => intro k i hm hk; cases k with
      | zero => omega
      | succ k => unfold colophonlaw01_PackPlays.l3; rw [if_neg (by rw [decide_eq_true_eq]; omega)]
    | succ m ih => intro k i hm hk; cases k with
      | zero => omega
      | succ k =>
        unfold colophonlaw01_PackPlays.l3
        have nx := ih k (i + 1) (by omega) (by omega)
        rw [show ((i + 1 : Nat) : Int) - 1 = (i : Int) - 1 + 1 by omega] at nx
        rw [if_pos (by rw [decide_eq_true_eq]; omega), wi_eq (n := (i : Int) - 1 + 1) (by omega) (by omega)]
        by_cases h0 : i = 0
        · subst h0
          rw [if_neg (by simp), get_out w n _ U (.inl (by simp)), Option.bind_some, if_neg (by simp)]; exact nx
        · rw [if_pos (by rw [decide_eq_true_eq]; omega)]
          by_cases h1 : i - 1 < n
          · have ei : ((i : Int) - 1) = ((i - 1 : Nat) : Int) := by omega
            have hl := h.len
            rw [if_pos (by rw [decide_eq_true_eq]; omega)]
            rw [ei] at nx ⊢
            rw [at_g (by omega), Option.bind_some, pk_get h.pk.pk hw hw2 (by omega) h1, Option.bind_some, h.val _ h1, if_neg (by simp)]; exact nx
          · rw [if_neg (by rw [decide_eq_true_eq]; omega), get_out w n _ U (.inr (by omega)), Option.bind_some, if_neg (by simp)]; exact nx
  have := key (n + 2) FU 0 (by omega) (by show n + 2 < 4611686018427387904; omega)
  rw [show (((0 : Nat) : Int) - 1) = -1 from rfl] at this
  exact this
theorem look5 {w n : Nat} {U : List W64} {xs : Nat → W64} {X : List Int} (h : Same w n U xs X) (hw : 1 ≤ w) (hw2 : w ≤ 64) (hn : n ≤ 10000) (b : Bool) : colophonlaw01_PackPlays.l5 (n : Int) X (b, ((w : Int), (n : Int), U.map uw)) FU (-1) = some (.inr ()) := by
  have key : ∀ (m k i : Nat), n + 2 - i = m → m < k → colophonlaw01_PackPlays.l5 (n : Int) X (b, ((w : Int), (n : Int), U.map uw)) k ((i : Int) - 1) = some (.inr ()) := by
    intro m
    induction m with
    | zero => intro k i hm hk; cases k with
      | zero => omega
      | succ k => unfold colophonlaw01_PackPlays.l5; rw [if_neg (by rw [decide_eq_true_eq]; omega)]
    | succ m ih => intro k i hm hk; cases k with
      | zero => omega
      | succ k =>
        unfold colophonlaw01_PackPlays.l5
        have nx := ih k (i + 1) (by omega) (by omega)
        rw [show ((i + 1 : Nat) : Int) - 1 = (i : Int) - 1 + 1 by omega] at nx
        rw [if_pos (by rw [decide_eq_true_eq]; omega), wi_eq (n := (i : Int) - 1 + 1) (by omega) (by omega)]
        by_cases h0 : i = 0
        · subst h0
          rw [if_neg (by simp), get_out w n _ U (.inl (by simp)), Option.bind_some, if_neg (by simp)]; exact nx
        · rw [if_pos (by rw [decide_eq_true_eq]; omega)]
          by_cases h1 : i - 1 < n
          · have ei : ((i : Int) - 1) = ((i - 1 : Nat) : Int) := by omega
            have hl := h.len
            rw [if_pos (by rw [decide_eq_true_eq]; omega)]
            rw [ei] at nx ⊢
            rw [at_g (by omega), Option.bind_some, pk_get h.pk.pk hw hw2 (by omega) h1, Option.bind_some, h.val _ h1, if_neg (by simp)]; exact nx
          · rw [if_neg (by rw [decide_eq_true_eq]; omega), get_out w n _ U (.inr (by omega)), Option.bind_some, if_neg (by simp)]; exact nx
  have := key (n + 2) FU 0 (by omega) (by show n + 2 < 4611686018427387904; omega)
  rw [show (((0 : Nat) : Int) - 1) = -1 from rfl] at this
  exact this
theorem look7 {w n : Nat} {U : List W64} {xs : Nat → W64} {X : List Int} (h : Same w n U xs X) (hw : 1 ≤ w) (hw2 : w ≤ 64) (hn : n ≤ 10000) (b : Bool) : colophonlaw01_PackPlays.l7 (n : Int) X (b, ((w : Int), (n : Int), U.map uw)) FU (-1) = some (.inr ()) := by
  have key : ∀ (m k i : Nat), n + 2 - i = m → m < k → colophonlaw01_PackPlays.l7 (n : Int) X (b, ((w : Int), (n : Int), U.map uw)) k ((i : Int) - 1) = some (.inr ()) := by
    intro m
    induction m with
    | zero => intro k i hm hk; cases k with
      | zero => omega
      | succ k => unfold colophonlaw01_PackPlays.l7; rw [if_neg (by rw [decide_eq_true_eq]; omega)]
    | succ m ih => intro k i hm hk; cases k with
      | zero => omega
      | succ k =>
        unfold colophonlaw01_PackPlays.l7
        have nx := ih k (i + 1) (by omega) (by omega)
        rw [show ((i + 1 : Nat) : Int) - 1 = (i : Int) - 1 + 1 by omega] at nx
        rw [if_pos (by rw [decide_eq_true_eq]; omega), wi_eq (n := (i : Int) - 1 + 1) (by omega) (by omega)]
        by_cases h0 : i = 0
        · subst h0
          rw [if_neg (by simp), get_out w n _ U (.inl (by simp)), Option.bind_some, if_neg (by simp)]; exact nx
        · rw [if_pos (by rw [decide_eq_true_eq]; omega)]
          by_cases h1 : i - 1 < n
          · have ei : ((i : Int) - 1) = ((i - 1 : Nat) : Int) := by omega
            have hl := h.len
            rw [if_pos (by rw [decide_eq_true_eq]; omega)]
            rw [ei] at nx ⊢
            rw [at_g (by omega), Option.bind_some, pk_get h.pk.pk hw hw2 (by omega) h1, Option.bind_some, h.val _ h1, if_neg (by simp)]; exact nx
          · rw [if_neg (by rw [decide_eq_true_eq]; omega), get_out w n _ U (.inr (by omega)), Option.bind_some, if_neg (by simp)]; exact nx
  have := key (n + 2) FU 0 (by omega) (by show n + 2 < 4611686018427387904; omega)
  rw [show (((0 : Nat) : Int) - 1) = -1 from rfl] at this
  exact this
theorem look9 {w n : Nat} {U : List W64} {xs : Nat → W64} {X : List Int} (h : Same w n U xs X) (hw : 1 ≤ w) (hw2 : w ≤ 64) (hn : n ≤ 10000) (b : Bool) : colophonlaw01_PackPlays.l9 (n : Int) X (b, ((w : Int), (n : Int), U.map uw)) FU (-1) = some (.inr ()) := by
  have key : ∀ (m k i : Nat), n + 2 - i = m → m < k → colophonlaw01_PackPlays.l9 (n : Int) X (b, ((w : Int), (n : Int), U.map uw)) k ((i : Int) - 1) = some (.inr ()) := by
    intro m
    induction m with
    | zero => intro k i hm hk; cases k with
      | zero => omega
      | succ k => unfold colophonlaw01_PackPlays.l9; rw [if_neg (by rw [decide_eq_true_eq]; omega)]
    | succ m ih => intro k i hm hk; cases k with
      | zero => omega
      | succ k =>
        unfold colophonlaw01_PackPlays.l9
        have nx := ih k (i + 1) (by omega) (by omega)
        rw [show ((i + 1 : Nat) : Int) - 1 = (i : Int) - 1 + 1 by omega] at nx
        rw [if_pos (by rw [decide_eq_true_eq]; omega), wi_eq (n := (i : Int) - 1 + 1) (by omega) (by omega)]
        by_cases h0 : i = 0
        · subst h0
          rw [if_neg (by simp), get_out w n _ U (.inl (by simp)), Option.bind_some, if_neg (by simp)]; exact nx
        · rw [if_pos (by rw [decide_eq_true_eq]; omega)]
          by_cases h1 : i - 1 < n
          · have ei : ((i : Int) - 1) = ((i - 1 : Nat) : Int) := by omega
            have hl := h.len
            rw [if_pos (by rw [decide_eq_true_eq]; omega)]
            rw [ei] at nx ⊢
            rw [at_g (by omega), Option.bind_some, pk_get h.pk.pk hw hw2 (by omega) h1, Option.bind_some, h.val _ h1, if_neg (by simp)]; exact nx
          · rw [if_neg (by rw [decide_eq_true_eq]; omega), get_out w n _ U (.inr (by omega)), Option.bind_some, if_neg (by simp)]; exact nx
  have := key (n + 2) FU 0 (by omega) (by show n + 2 < 4611686018427387904; omega)
  rw [show (((0 : Nat) : Int) - 1) = -1 from rfl] at this
  exact this
theorem plays {w n : Nat} (hw : 1 ≤ w) (hw2 : w ≤ 64) (hn : n ≤ 10000) (l2 : List (Int × Int)) (hl2 : l2.length ≤ maxLen) (hv : ∀ i, i < l2.length → ∃ v : W64, (l2.getD i (0, 0)).2 = uw v) :
    ∀ (m k i : Nat) (U : List W64) (xs : Nat → W64) (X : List Int), 61 - i = m → m < k → i ≤ 60 → Same w n U xs X → ∃ q, colophonlaw01_PackPlays.l1 (w : Int) (n : Int) l2 k X (i : Int) ((w : Int), (n : Int), U.map uw) = some (.inl q) := by
  intro m
  induction m with
  | zero => intro k i U xs X hm hk hi hS; omega
  | succ m ih => intro k i U xs X hm hk hi hS; cases k with
    | zero => omega
    | succ k =>
      unfold colophonlaw01_PackPlays.l1
      have hUl : U.length ≤ 20000 := by
        have hnw : w * n ≤ 64 * 10000 := Nat.mul_le_mul hw2 hn
        rw [hS.pk.len]; unfold need; generalize w * n = z at *; omega
      by_cases hil : ¬ i < l2.length
      · rw [if_neg (by simp; omega)]; exact ⟨_, rfl⟩
      have hil := Classical.not_not.1 hil
      rw [if_pos (by simp; omega), at?_nat, List.getElem?_eq_getElem hil, Option.bind_some]
      by_cases h60 : i ≥ 60
      · rw [if_pos (by rw [decide_eq_true_eq]; omega)]; exact ⟨_, rfl⟩
      rw [if_neg (by rw [decide_eq_true_eq]; omega)]
      have hg : l2.getD i (0, 0) = l2[i] := by rw [List.getD_eq_getElem?_getD, List.getElem?_eq_getElem hil]; rfl
      obtain ⟨v, ev⟩ := hv i hil
      rw [hg] at ev
      rw [ev, wi_eq (n := (i : Int) + 1) (by omega) (by omega), show ((i : Int) + 1) = ((i + 1 : Nat) : Int) by omega]
      obtain ⟨a, ea⟩ : ∃ a, a = l2[i].1 := ⟨_, rfl⟩
      rw [← ea]
      obtain ⟨R, e1, e2⟩ := ref_words hS hw hw2 hn
      by_cases h0 : a ≥ 0
      · rw [if_pos (by simpa using h0)]
        by_cases h1 : a < (n : Int)
        · rw [if_pos (by simpa using h1)]
          obtain ⟨p, rfl⟩ : ∃ p : Nat, a = (p : Int) := ⟨a.toNat, by omega⟩
          have hp : p < n := by omega
          obtain ⟨b, eb, hb⟩ := fits_ok w v hw2
          rw [eb, Option.bind_some]
          cases b with
          | true =>
            have hf : Fit w v := hb.1 rfl
            obtain ⟨U', es, hP⟩ := pkz_set hS.pk hw hw2 (by omega) hp hf
            have hl := hS.len
            have hS' : Same w n U' (fun k => if k = p then v else xs k) (X.set p (uw v)) := ⟨hP, by simpa using hl, fun j hj => by
              rw [getD_seti (by omega)]
              show _ = uw (if j = p then v else xs j)
              by_cases e : j = p
              · rw [if_pos e, if_pos e]
              · rw [if_neg e, if_neg e]; exact hS.val j hj⟩
            have hUl' : U'.length ≤ 20000 := by rw [hP.len, ← hS.pk.len]; exact hUl
            obtain ⟨R', e1', e2'⟩ := ref_words hS' hw hw2 hn
            rw [es, Option.bind_some, if_neg (by simp), if_pos rfl, at_g (by omega), Option.bind_some, set?_nat _ (by omega), Option.bind_some, words_f _ _ U' (by omega), Option.bind_some, e1', Option.bind_some, e2', Option.bind_some, Refw.same_refl _ (by simp; omega), Option.bind_some, if_neg (by simp), wipe2 l2 _ (by simp; omega), Option.bind_some, look3 hS' hw hw2 hn true, Option.bind_some]
            exact ih k (i + 1) U' _ _ (by omega) (by omega) (by omega) hS'
          | false =>
            have hf : ¬ Fit w v := fun h => by have := hb.2 h; cases this
            rw [set_bad w n p U v hw2 hp hf, Option.bind_some, if_neg (by simp), if_neg (by simp), words_f _ _ U (by omega), Option.bind_some, e1, Option.bind_some, e2, Option.bind_some, Refw.same_refl _ (by simp; omega), Option.bind_some, if_neg (by simp), wipe4 _ (by simp; omega), Option.bind_some, look5 hS hw hw2 hn false, Option.bind_some]
            exact ih k (i + 1) U xs X (by omega) (by omega) (by omega) hS
        · rw [if_neg (by simpa using h1), set_out w n a U _ (.inr (by omega)), Option.bind_some, if_neg (by simp), words_f _ _ U (by omega), Option.bind_some, e1, Option.bind_some, e2, Option.bind_some, Refw.same_refl _ (by simp; omega), Option.bind_some, if_neg (by simp), wipe6 _ (by simp; omega), Option.bind_some, look7 hS hw hw2 hn false, Option.bind_some]
          exact ih k (i + 1) U xs X (by omega) (by omega) (by omega) hS
      · rw [if_neg (by simpa using h0), set_out w n a U _ (.inl (by omega)), Option.bind_some, if_neg (by simp), words_f _ _ U (by omega), Option.bind_some, e1, Option.bind_some, e2, Option.bind_some, Refw.same_refl _ (by simp; omega), Option.bind_some, if_neg (by simp), wipe8 _ (by simp; omega), Option.bind_some, look9 hS hw hw2 hn false, Option.bind_some]
        exact ih k (i + 1) U xs X (by omega) (by omega) (by omega) hS
end Packed
open Packed
theorem pure_PackPlays (a0 : Int) (F0 : Fits (.int .i64) a0) (a1 : Int) (F1 : Fits (.int .i64) a1) (l2 : List (Int × Int)) (F2 : Fits (.slice 40 (.pair (.int .i64) (.int .u64))) l2) : colophonlaw01_PackPlays.f a0 a1 l2 = some true := by
  unfold colophonlaw01_PackPlays.f
  rw [first_f, Option.bind_some, if_neg (by simp), right_f]
  by_cases h : 1 ≤ a0 ∧ a0 ≤ 64 ∧ 0 ≤ a1 ∧ a1 ≤ 4194304
  · obtain ⟨w, rfl⟩ : ∃ w : Nat, a0 = (w : Int) := ⟨a0.toNat, by omega⟩
    obtain ⟨n, rfl⟩ : ∃ n : Nat, a1 = (n : Int) := ⟨a1.toNat, by omega⟩
    have hw : 1 ≤ w := by omega
    have hw2 : w ≤ 64 := by omega
    rw [Pack.new_f w n hw hw2 (by omega), Option.bind_some, Option.bind_some, decide_eq_true h, if_neg (by simp)]
    have hz := Pack.pk_new w n
    have e1 : pack_Ints_Len.f (some ((w : Int), (n : Int), (List.replicate (Pack.need w n) 0#64).map Pack.uw)) = some (n : Int) := rfl
    have e2 : pack_Ints_Width.f (some ((w : Int), (n : Int), (List.replicate (Pack.need w n) 0#64).map Pack.uw)) = some (w : Int) := rfl
    simp only []
    rw [if_neg (by simp), e1, Option.bind_some, if_neg (by simp), e2, Option.bind_some, if_neg (by simp)]
    by_cases h5 : n > 500
    · rw [if_pos (by simp; omega), wi_eq (by omega) (by omega), show ((n : Int) - 1) = ((n - 1 : Nat) : Int) by omega, Pack.pk_get hz hw hw2 (by omega) (by omega), Option.bind_some, if_pos (by rfl), Pack.get_out w n _ _ (.inr (Int.le_refl _))]; rfl
    · rw [if_neg (by simp; omega), make?_nat _ (by omega), Option.bind_some, Option.bind_some]
      have hg : ∀ i, i < l2.length → ∃ v : Pack.W64, (l2.getD i (0, 0)).2 = Pack.uw v := fun i hi => by
        have : 0 ≤ (l2[i]).2 ∧ (l2[i]).2 ≤ 18446744073709551615 := (F2.2 _ (List.getElem_mem hi)).2
        refine ⟨BitVec.ofInt 64 (l2[i]).2, ?_⟩
        rw [List.getD_eq_getElem?_getD, List.getElem?_eq_getElem hi]
        show (l2[i]).2 = ((BitVec.ofInt 64 (l2[i]).2).toNat : Int)
        rw [BitVec.toNat_ofInt]; omega
      obtain ⟨q, e⟩ := plays hw hw2 (n := n) (by omega) l2 F2.1 hg 61 FU 0 (List.replicate (Pack.need w n) 0#64) (fun _ => 0#64) (List.replicate n 0) (by omega) (by show 61 < 4611686018427387904; omega) (by omega) ⟨pkz_new w n, by simp, fun i hi => by rw [List.getD_eq_getElem?_getD, List.getElem?_replicate, if_pos hi]; rfl⟩
      rw [show ((0 : Nat) : Int) = 0 from rfl] at e
      rw [e]; rfl
  · rw [new_bad h, Option.bind_some, Option.bind_some, decide_eq_false h]; rfl
end Go.Proofs.Ytamlfkfdpgchiaa
