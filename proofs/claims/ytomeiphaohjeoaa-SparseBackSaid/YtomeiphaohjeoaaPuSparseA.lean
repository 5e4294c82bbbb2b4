/-
  What layer sparse holds: rising numbers as high bits and low bits. No condition.
-/
import Derived.Test.YtomeiphaohjeoaaPuRankCore
import Derived.Test.YtomeiphaohjeoaaPuLen
namespace Go.Proofs.Ytomeiphaohjeoaa
open Go Go.Gol
set_option linter.unusedVariables false
set_option linter.unusedSimpArgs false
set_option maxRecDepth 100000
namespace Sparse
open Pack Cnt Rank
theorem at_g {l : List Int} {q : Nat} (h : q < l.length) : at? l (q : Int) = some (l.getD q 0) := by
  rw [at?_nat, List.getElem?_eq_getElem h]; simp [List.getD_eq_getElem?_getD, List.getElem?_eq_getElem h]
/-- rising numbers below a bound -/
structure Good (u : Nat) (l : List Int) : Prop where
  rng : ∀ i, i < l.length → 0 ≤ l.getD i 0 ∧ l.getD i 0 < (u : Int)
  up : ∀ i, i + 1 < l.length → l.getD i 0 < l.getD (i + 1) 0
theorem Good.lt {u : Nat} {l : List Int} (h : Good u l) {i j : Nat} (hij : i < j) (hj : j < l.length) : l.getD i 0 < l.getD j 0 := by
  induction j with
  | zero => omega
  | succ j ih =>
    have := h.up j hj
    rcases Nat.lt_or_ge i j with h' | h'
    · have := ih h' (by omega); omega
    · have : i = j := by omega
      subst this; assumption
theorem Good.ge {u : Nat} {l : List Int} (h : Good u l) {i : Nat} (hi : i < l.length) : (i : Int) ≤ l.getD i 0 := by
  induction i with
  | zero => exact (h.rng 0 hi).1
  | succ i ih => have := ih (by omega); have := h.up i hi; omega
theorem Good.len {u : Nat} {l : List Int} (h : Good u l) : l.length ≤ u := by
  rcases Nat.eq_zero_or_pos l.length with h0 | h0
  · omega
  · have h1 := h.ge (i := l.length - 1) (by omega)
    have h2 := h.rng (l.length - 1) (by omega)
    omega
def vn (l : List Int) (i : Nat) : Nat := (l.getD i 0).toNat
theorem Good.vn {u : Nat} {l : List Int} (h : Good u l) {i : Nat} (hi : i < l.length) : l.getD i 0 = (vn l i : Int) ∧ vn l i < u := by
  have := h.rng i hi; unfold Sparse.vn; omega
theorem wrapu {n : Int} (h0 : 0 ≤ n) (h1 : n < 18446744073709551616) : IntKind.wrap .u64 n = n := by rw [wrap_u64_eq]; omega
/-- how many low bits, and how many high places -/
structure Shape (u n w m : Nat) : Prop where
  hw : w ≤ 22
  hm : m ≤ n + u + 1
  pos : 0 < n → m = n + (u - 1) / 2 ^ w + 1 ∧ u / n < 2 ^ (w + 1) ∧ (w = 0 ∨ 2 ^ w ≤ u / n)
  zero : n = 0 → m = 0 ∧ w = 0
theorem shape_ok (u n : Nat) (hu : u ≤ 4194304) (hn : n ≤ u) : ∃ w m : Nat, sparse_shape.f (u : Int) (n : Int) = some ((w : Int), (m : Int)) ∧ Shape u n w m := by
  unfold sparse_shape.f
  rcases Nat.eq_zero_or_pos n with h0 | h0
  · subst h0; rw [if_pos (by simp)]; exact ⟨0, 0, rfl, by omega, by omega, fun h => by omega, fun _ => ⟨rfl, rfl⟩⟩
  rw [if_neg (by simp; omega), chk?_eq (decide_eq_true (by omega)), Option.bind_some]
  have e1 : IntKind.wrap .u64 (wi (Int.tdiv (u : Int) (n : Int))) = ((u / n : Nat) : Int) := by
    have hq : u / n ≤ u := Nat.div_le_self _ _
    have : Int.tdiv (u : Int) (n : Int) = ((u / n : Nat) : Int) := by rw [Int.tdiv_eq_ediv_of_nonneg (by omega)]; norm_cast
    rw [this]
    generalize u / n = q at *
    rw [wi_eq (by omega) (by omega), wrapu (by omega) (by omega)]
  obtain ⟨x, ex, h64, hlt, hge⟩ := Len.len_nat (u / n) (by have : u / n ≤ u := Nat.div_le_self _ _; omega)
  have hx : x ≤ 23 := by
    rcases hge with h | h
    · omega
    · have hq : u / n ≤ u := Nat.div_le_self _ _
      have : 2 ^ (x - 1) ≤ 2 ^ 22 := Nat.le_trans h (by rw [show (2 : Nat) ^ 22 = 4194304 from rfl]; omega)
      have := (Nat.pow_le_pow_iff_right (a := 2) (by decide)).1 this
      omega
  unfold pack_Width.f
  rw [e1, ex, Option.bind_some, Option.bind_some]
  have e2 : wi (imax 1 (x : Int) - 1) = ((x - 1 : Nat) : Int) := by unfold imax; split <;> rw [wi_eq (by omega) (by omega)] <;> omega
  have hdl : (u - 1) / 2 ^ (x - 1) ≤ u - 1 := Nat.div_le_self _ _
  rw [e2, chk?_eq (decide_eq_true (by omega)), Option.bind_some, wi_eq (n := (u : Int) - 1) (by omega) (by omega), show ((u : Int) - 1) = ((u - 1 : Nat) : Int) by omega, ishr_nat .i64 _ _ (by show x - 1 ≤ 64; omega)]
  refine ⟨x - 1, n + (u - 1) / 2 ^ (x - 1) + 1, ?_, by omega, by omega, fun _ => ⟨rfl, ?_, ?_⟩, fun h => by omega⟩
  · generalize (u - 1) / 2 ^ (x - 1) = d at *
    rw [wi_eq (n := (n : Int) + (d : Int)) (by omega) (by omega), wi_eq (by omega) (by omega)]; congr 2
  · exact Nat.lt_of_lt_of_le hlt (Nat.pow_le_pow_right (by decide) (by omega))
  · rcases hge with h | h
    · left; omega
    · by_cases h1 : x = 0
      · left; omega
      · right; exact h
/-- where a number stands among the high bits -/
def hp (l : List Int) (w i : Nat) : Nat := vn l i / 2 ^ w + i
theorem hp_lt {u : Nat} {l : List Int} (h : Good u l) (w : Nat) {i j : Nat} (hij : i < j) (hj : j < l.length) : hp l w i < hp l w j := by
  have h1 := h.lt hij hj
  have h2 := (h.vn (i := i) (by omega)).1
  have h3 := (h.vn hj).1
  have : vn l i / 2 ^ w ≤ vn l j / 2 ^ w := Nat.div_le_div_right (by omega)
  unfold hp; omega
def hb (l : List Int) (w : Nat) : Nat → Nat → Bool
  | 0 => fun _ => false
  | i + 1 => fun k => if k = hp l w i then true else hb l w i k
theorem hb_iff (l : List Int) (w : Nat) (i k : Nat) : hb l w i k = true ↔ ∃ j, j < i ∧ k = hp l w j := by
  induction i with
  | zero => simp [hb]
  | succ i ih =>
    simp only [hb]
    split
    · rename_i h; exact ⟨fun _ => ⟨i, by omega, h⟩, fun _ => rfl⟩
    · rename_i h
      rw [ih]
      exact ⟨fun ⟨j, hj, e⟩ => ⟨j, by omega, e⟩, fun ⟨j, hj, e⟩ => ⟨j, by
        rcases Nat.lt_or_ge j i with h' | h'
        · exact h'
        · exact absurd (by rw [e, show j = i by omega]) h, e⟩⟩
theorem cnt_ins (B : Nat → Bool) (q : Nat) (hq : B q = false) (P : Nat) : cnt (fun k => if k = q then true else B k) P = cnt B P + if q < P then 1 else 0 := by
  induction P with
  | zero => rfl
  | succ P ih =>
    rw [cnt_succ, cnt_succ, ih]
    by_cases e : P = q
    · subst e; rw [if_pos rfl, hq]; simp
    · rw [if_neg e]
      by_cases h1 : q < P
      · rw [if_pos h1, if_pos (show q < P + 1 by omega)]; omega
      · rw [if_neg h1, if_neg (show ¬ q < P + 1 by omega)]; omega
theorem cnt_hb {u : Nat} {l : List Int} (h : Good u l) (w : Nat) {k : Nat} (hk : k < l.length) : ∀ m, m ≤ l.length → cnt (hb l w m) (hp l w k) = min m k := by
  intro m
  induction m with
  | zero => intro _; rw [Nat.zero_min]; exact cnt_zero (fun j hj => rfl)
  | succ m ih =>
    intro hm
    have hf : hb l w m (hp l w m) = false := by
      cases e : hb l w m (hp l w m) with
      | false => rfl
      | true =>
        obtain ⟨j, hj, e'⟩ := (hb_iff l w m _).1 e
        have := hp_lt h w hj (by omega); omega
    have := cnt_ins (hb l w m) (hp l w m) hf (hp l w k)
    rw [show hb l w (m + 1) = fun k => if k = hp l w m then true else hb l w m k from rfl, this, ih (by omega)]
    rcases Nat.lt_trichotomy m k with h' | h' | h'
    · rw [if_pos (hp_lt h w h' hk)]; omega
    · subst h'; rw [if_neg (by omega)]; omega
    · have := hp_lt h w h' (by omega); rw [if_neg (by omega)]; omega
/-- a packed list whose words end in zeros -/
structure PkZ (w n : Nat) (U : List W64) (xs : Nat → W64) : Prop where
  pk : Pk w n U xs
  len : U.length = need w n
  past : ∀ k, n * w ≤ k → bitAt U k = false
theorem pkz_new (w n : Nat) : PkZ w n (List.replicate (need w n) 0#64) (fun _ => 0#64) := ⟨pk_new w n, by simp, fun k _ => bit_new _ k⟩
theorem pkz_set {w n : Nat} {U : List W64} {xs : Nat → W64} (h : PkZ w n U xs) (hw : 1 ≤ w) (hw2 : w ≤ 64) (hn : n ≤ 4194304) {i : Nat} (hi : i < n) {v : W64} (hv : Fit w v) :
    ∃ U', pack_Ints_Set.f ((w : Int), (n : Int), U.map uw) (i : Int) (uw v) = some (true, ((w : Int), (n : Int), U'.map uw)) ∧ PkZ w n U' (fun k => if k = i then v else xs k) := by
  obtain ⟨U', e, hl, hp⟩ := pk_set h.pk hw hw2 hn hi hv
  obtain ⟨U2, e2, hl2⟩ := set_f w n i U v hw hw2 hn h.pk.hU hi hv
  rw [e] at e2
  have : U'.map uw = U2.map uw := by simpa using e2
  have hU : U' = U2 := by
    refine (List.map_inj_right (fun a b hab => ?_)).1 this
    have : (a.toNat : Int) = (b.toNat : Int) := hab
    exact BitVec.eq_of_toNat_eq (by omega)
  subst hU
  have hin : i * w + w ≤ n * w := by have := Nat.mul_le_mul_right w (show i + 1 ≤ n by omega); rw [Nat.add_mul, Nat.one_mul] at this; exact this
  refine ⟨U', e, hp, by rw [hl]; exact h.len, fun k hk => ?_⟩
  rcases Nat.lt_or_ge k (64 * U.length) with hk' | hk'
  · rw [hl2.bit k hk', if_neg (by omega)]; exact h.past k hk
  · exact bitAt_past U' k (by omega)
def lo (l : List Int) (w i : Nat) : W64 := BitVec.ofNat 64 (vn l i % 2 ^ w)
theorem lo_nat (l : List Int) (w i : Nat) (hw : w ≤ 22) : (lo l w i).toNat = vn l i % 2 ^ w := by
  have h1 : vn l i % 2 ^ w < 2 ^ w := Nat.mod_lt _ (Nat.pow_pos (by decide))
  have h2 : 2 ^ w ≤ 2 ^ 22 := Nat.pow_le_pow_right (by decide) hw
  rw [show (2 : Nat) ^ 22 = 4194304 from rfl] at h2
  unfold lo; rw [BitVec.toNat_ofNat]; exact Nat.mod_eq_of_lt (by rw [show (2 : Nat) ^ 64 = 18446744073709551616 from rfl]; omega)
theorem lo_fit (l : List Int) (w i : Nat) (hw : w ≤ 22) : Fit (max 1 w) (lo l w i) := by
  intro j hj
  rw [← BitVec.testBit_toNat, lo_nat l w i hw]
  exact Nat.testBit_lt_two_pow (Nat.lt_of_lt_of_le (Nat.mod_lt _ (Nat.pow_pos (by decide))) (Nat.pow_le_pow_right (by decide) (by omega)))
/-- the set -/
def SetOk (S : Int × Int × Int × (Option (Int × (List Int) × (List Int) × Int)) × (Option (Int × Int × (List Int))) × (Option (Int × Int × (List Int)))) (u : Nat) (l : List Int) : Prop :=
  ∃ (w m : Nat) (V : Int × List Int × List Int × Int) (U1 U2 : List W64) (xs : Nat → W64), S = ((u : Int), (l.length : Int), (w : Int), some V, some ((1 : Int), (m : Int), U1.map uw), some (((max 1 w : Nat) : Int), (l.length : Int), U2.map uw)) ∧ Shape u l.length w m ∧ Bits m U1 (hb l w l.length) ∧ VecOk V m (hb l w l.length) ∧ PkZ (max 1 w) l.length U2 xs ∧ ∀ i, i < l.length → xs i = lo l w i
theorem pow64 {s : Nat} (hs : s < 64) : ishl .u64 1 (s : Int) = ((2 ^ s : Nat) : Int) ∧ IntKind.wrap .u64 (((2 ^ s : Nat) : Int) - 1) = ((2 ^ s - 1 : Nat) : Int) := by
  have hp : 0 < 2 ^ s := Nat.pow_pos (by decide)
  have hp2 : 2 ^ s < 2 ^ 64 := Nat.pow_lt_pow_right (by decide) hs
  constructor
  · unfold ishl
    rw [Int.toNat_natCast, show IntKind.bits .u64 = 64 from rfl, Nat.min_eq_left (by omega), Int.one_mul, wrap_u64_eq]
    have e : ((2 : Int) ^ s) = ((2 ^ s : Nat) : Int) := by rw [Int.natCast_pow]; rfl
    rw [e]; generalize 2 ^ s = m at *; omega
  · rw [wrap_u64_eq]; generalize 2 ^ s = m at *; omega
/-- a list that is not good is refused -/
theorem new_bad {u : Int} {l : List Int} (hl : l.length ≤ 100000) (h : ¬ (0 ≤ u ∧ u ≤ 4194304 ∧ Good u.toNat l)) : sparse_New.f u l = some (none, 2) := by
  unfold sparse_New.f
  by_cases h0 : u < 0
  · rw [if_pos (by simpa using h0)]
  rw [if_neg (by simpa using h0)]
  by_cases h1 : u > 4194304
  · rw [if_pos (by simpa using h1)]
  rw [if_neg (by simpa using h1)]
  by_cases h2 : (l.length : Int) > u
  · rw [if_pos (by simpa using h2)]
  rw [if_neg (by simpa using h2)]
  have key : ∀ (m k i : Nat), l.length - i = m → m < k → i ≤ l.length → (∀ j, j < i → 0 ≤ l.getD j 0 ∧ l.getD j 0 < u) → (∀ j, j + 1 < i → l.getD j 0 < l.getD (j + 1) 0) → sparse_New.l1 u l k (i : Int) = some (.inl 2) := by
    intro m
    induction m with
    | zero => intro k i hm hk hi hr hu
              exact absurd ⟨by omega, by omega, ⟨fun j hj => by have := hr j (by omega); omega, fun j hj => hu j (by omega)⟩⟩ h
    | succ m ih => intro k i hm hk hi hr hu; cases k with
      | zero => omega
      | succ k =>
        unfold sparse_New.l1
        have hil : i < l.length := by omega
        rw [if_pos (by simp; omega), at_g hil, Option.bind_some]
        by_cases h3 : l.getD i 0 < 0
        · rw [if_pos (by simpa using h3)]
        rw [if_neg (by simpa using h3)]
        by_cases h4 : l.getD i 0 ≥ u
        · rw [if_pos (by simpa using h4)]
        rw [if_neg (by simpa using h4), wi_eq (n := (i : Int) + 1) (by omega) (by omega), show ((i : Int) + 1) = ((i + 1 : Nat) : Int) by omega]
        have hr' : ∀ j, j < i + 1 → 0 ≤ l.getD j 0 ∧ l.getD j 0 < u := fun j hj => by
          by_cases e : j = i
          · subst e; omega
          · exact hr j (by omega)
        by_cases h5 : i = 0
        · rw [if_neg (by simp; omega)]
          exact ih k (i + 1) (by omega) (by omega) (by omega) hr' (fun j hj => by omega)
        · rw [if_pos (by simp; omega), wi_eq (by omega) (by omega), show ((i : Int) - 1) = ((i - 1 : Nat) : Int) by omega, at_g (by omega), Option.bind_some]
          by_cases h6 : l.getD i 0 ≤ l.getD (i - 1) 0
          · rw [if_pos (by simpa using h6)]
          · rw [if_neg (by simpa using h6)]
            exact ih k (i + 1) (by omega) (by omega) (by omega) hr' (fun j hj => by
              by_cases e : j + 1 = i
              · subst e; rw [Nat.add_sub_cancel] at h6; omega
              · exact hu j (by omega))
  have := key l.length FU 0 (by omega) (by show l.length < 4611686018427387904; omega) (by omega) (fun j h => by omega) (fun j h => by omega)
  rw [show ((0 : Nat) : Int) = 0 from rfl] at this
  rw [this]; rfl
theorem new_ok {u : Nat} {l : List Int} (hu : u ≤ 4194304) (hs : l.length + u + 1 ≤ 4194304 ∨ l.length = 0) (h : Good u l) : ∃ S, sparse_New.f (u : Int) l = some (some S, 0) ∧ SetOk S u l := by
  unfold sparse_New.f
  have hlen := h.len
  rw [if_neg (by simp), if_neg (by simp; omega), if_neg (by simp; omega)]
  have k1 : ∀ (m k i : Nat), l.length - i = m → m < k → sparse_New.l1 (u : Int) l k (i : Int) = some (.inr ()) := by
    intro m
    induction m with
    | zero => intro k i hm hk; cases k with
      | zero => omega
      | succ k => unfold sparse_New.l1; rw [if_neg (by simp; omega)]
    | succ m ih => intro k i hm hk; cases k with
      | zero => omega
      | succ k =>
        unfold sparse_New.l1
        have hil : i < l.length := by omega
        have hr := h.rng i hil
        rw [if_pos (by simp; omega), at_g hil, Option.bind_some, if_neg (by rw [decide_eq_true_eq]; omega), if_neg (by rw [decide_eq_true_eq]; omega), wi_eq (n := (i : Int) + 1) (by omega) (by omega), show ((i : Int) + 1) = ((i + 1 : Nat) : Int) by omega]
        by_cases h5 : i = 0
        · rw [if_neg (by simp; omega)]; exact ih k (i + 1) (by omega) (by omega)
        · have := h.lt (i := i - 1) (j := i) (by omega) hil
          rw [if_pos (by simp; omega), wi_eq (by omega) (by omega), show ((i : Int) - 1) = ((i - 1 : Nat) : Int) by omega, at_g (by omega), Option.bind_some, if_neg (by rw [decide_eq_true_eq]; omega)]; exact ih k (i + 1) (by omega) (by omega)
  have e1 := k1 l.length FU 0 (by omega) (by show l.length < 4611686018427387904; omega)
  rw [show ((0 : Nat) : Int) = 0 from rfl] at e1
  rw [e1, Option.bind_some]
  obtain ⟨w, m, es, hsh⟩ := shape_ok u l.length hu hlen
  have hw := hsh.hw
  have hm : m ≤ 4194304 := by
    have := hsh.hm
    rcases hs with h | h
    · omega
    · have := (hsh.zero h).1; omega
  obtain ⟨Ua, ea, hBa⟩ := new1 m hm
  have eb := new_f (max 1 w) l.length (by omega) (by omega) (by omega)
  have emax : imax 1 (w : Int) = ((max 1 w : Nat) : Int) := by unfold imax; split <;> omega
  have k2 : ∀ (x k i : Nat) (U1 U2 : List W64) (xs : Nat → W64), l.length - i = x → x < k → i ≤ l.length → Bits m U1 (hb l w i) → PkZ (max 1 w) l.length U2 xs → (∀ j, j < i → xs j = lo l w j) →
      ∃ U1' U2' xs', sparse_New.l2 l ((w : Int), (m : Int)) k (i : Int) ((u : Int), (l.length : Int), (w : Int), none, some ((1 : Int), (m : Int), U1.map uw), some (((max 1 w : Nat) : Int), (l.length : Int), U2.map uw)) = some ((u : Int), (l.length : Int), (w : Int), none, some ((1 : Int), (m : Int), U1'.map uw), some (((max 1 w : Nat) : Int), (l.length : Int), U2'.map uw)) ∧
        Bits m U1' (hb l w l.length) ∧ PkZ (max 1 w) l.length U2' xs' ∧ ∀ j, j < l.length → xs' j = lo l w j := by
    intro x
    induction x with
    | zero => intro k i U1 U2 xs hx hk hi h1 h2 h3; cases k with
      | zero => omega
      | succ k => unfold sparse_New.l2; rw [if_neg (by simp; omega)]
                  have : i = l.length := by omega
                  subst this; exact ⟨U1, U2, xs, rfl, h1, h2, h3⟩
    | succ x ih => intro k i U1 U2 xs hx hk hi h1 h2 h3; cases k with
      | zero => omega
      | succ k =>
        unfold sparse_New.l2
        have hil : i < l.length := by omega
        obtain ⟨hv, hvu⟩ := h.vn hil
        have hdu : vn l i / 2 ^ w ≤ vn l i := Nat.div_le_self _ _
        have hpm : hp l w i < m := by
          have := (hsh.pos (by omega)).1
          have : vn l i / 2 ^ w ≤ (u - 1) / 2 ^ w := Nat.div_le_div_right (by omega)
          unfold hp; omega
        obtain ⟨U1', ea', hB'⟩ := set1 h1 hpm true
        obtain ⟨U2', eb', hP'⟩ := pkz_set h2 (by omega) (by omega) (by omega) hil (lo_fit l w i hw)
        have elo : iand .u64 (IntKind.wrap .u64 ((vn l i : Nat) : Int)) (IntKind.wrap .u64 ((ishl .u64 1 (w : Int)) - 1)) = uw (lo l w i) := by
          rw [(pow64 (by omega)).1, (pow64 (by omega)).2, wrapu (by omega) (by omega)]
          have hp2 : 2 ^ w ≤ 2 ^ 22 := Nat.pow_le_pow_right (by decide) hw
          rw [show (2 : Nat) ^ 22 = 4194304 from rfl] at hp2
          rw [Pop.nand _ _ (by omega) (by omega), Nat.and_two_pow_sub_one_eq_mod, ← lo_nat l w i hw]
        have ehp : wi (ishr .i64 ((vn l i : Nat) : Int) (w : Int) + (i : Int)) = ((hp l w i : Nat) : Int) := by
          rw [ishr_nat .i64 _ _ (by show w ≤ 64; omega)]
          unfold hp at *
          generalize vn l i / 2 ^ w = d at *
          rw [wi_eq (by omega) (by omega)]; omega
        have ea2 : pack_Ints_Set.f ((1 : Int), (m : Int), U1.map uw) ((hp l w i : Nat) : Int) 1 = some (true, ((1 : Int), (m : Int), U1'.map uw)) := ea'
        rw [if_pos (by simp; omega), at_g hil, Option.bind_some, hv, chk?_eq (decide_eq_true (by simp)), Option.bind_some]
        simp only [Option.bind_some]
        rw [ehp, ea2, Option.bind_some, elo, eb', Option.bind_some, wi_eq (by omega) (by omega), show ((i : Int) + 1) = ((i + 1 : Nat) : Int) by omega]
        exact ih k (i + 1) U1' U2' _ (by omega) (by omega) (by omega) hB' hP' (fun j hj => by
          by_cases e : j = i
          · subst e; rw [if_pos rfl]
          · rw [if_neg e]; exact h3 j (by omega))
  obtain ⟨U1, U2, xs, e2, hB, hP, hx⟩ := k2 l.length FU 0 Ua (List.replicate (need (max 1 w) l.length) 0#64) (fun _ => 0#64) (by omega) (by show l.length < 4611686018427387904; omega) (by omega) hBa (pkz_new _ _) (fun j h => by omega)
  obtain ⟨V, eV, hV⟩ := newV hB
  rw [show ((0 : Nat) : Int) = 0 from rfl] at e2
  simp only []
  rw [es, Option.bind_some]
  simp only []
  rw [ea, Option.bind_some, emax, eb, Option.bind_some]
  simp only []
  rw [e2, Option.bind_some]
  simp only []
  rw [eV]
  exact ⟨_, rfl, w, m, V, U1, U2, xs, rfl, hsh, hB, hV, hP, hx⟩
theorem nor_pow {a b w : Nat} (hb : b < 2 ^ w) (h : a * 2 ^ w + b < 9223372036854775808) (hw : w ≤ 22) : ior .i64 (ishl .i64 (a : Int) (w : Int)) (b : Int) = ((a * 2 ^ w + b : Nat) : Int) := by
  have e1 : ishl .i64 (a : Int) (w : Int) = ((a * 2 ^ w : Nat) : Int) := by
    unfold ishl
    rw [Int.toNat_natCast, show IntKind.bits .i64 = 64 from rfl, Nat.min_eq_left (by omega)]
    have e : (a : Int) * ((2 : Int) ^ w) = ((a * 2 ^ w : Nat) : Int) := by rw [Int.natCast_mul, Int.natCast_pow]; rfl
    rw [e]; exact wi_eq (by omega) (by omega)
  rw [e1]
  show IntKind.wrap .i64 ((BitVec.ofInt 64 _ ||| BitVec.ofInt 64 _ : BitVec 64).toNat : Int) = _
  have e : ∀ x : Nat, x < 9223372036854775808 → BitVec.ofInt 64 (x : Int) = BitVec.ofNat 64 x := fun x hx => by apply BitVec.eq_of_toNat_eq; simp
  have hor : a * 2 ^ w ||| b = a * 2 ^ w + b := by have := Nat.shiftLeft_add_eq_or_of_lt hb a; rw [Nat.shiftLeft_eq] at this; exact this.symm
  rw [e _ (by omega), e _ (by omega), BitVec.toNat_or]
  simp only [BitVec.toNat_ofNat]
  rw [Nat.mod_eq_of_lt (by omega), Nat.mod_eq_of_lt (by omega), hor]
  exact wi_eq (by omega) (by omega)
theorem at_ok {S : Int × Int × Int × (Option (Int × (List Int) × (List Int) × Int)) × (Option (Int × Int × (List Int))) × (Option (Int × Int × (List Int)))} {u : Nat} {l : List Int} (h : SetOk S u l) (hG : Good u l) (hu : u ≤ 4194304) {i : Nat} (hi : i < l.length) : sparse_Set_At.f (some S) (i : Int) = some (l.getD i 0) := by
  obtain ⟨w, m, V, U1, U2, xs, rfl, hsh, hB, hV, hP, hx⟩ := h
  have hw := hsh.hw
  have hlen := hG.len
  unfold sparse_Set_At.f
  simp only []
  rw [if_neg (by simp), if_neg (by simp; omega)]
  obtain ⟨p, ep, hp'⟩ := select_ok hV (i : Int)
  obtain ⟨hv, hvu⟩ := hG.vn hi
  have hpm : hp l w i < m := by
    have := (hsh.pos (by omega)).1
    have : vn l i / 2 ^ w ≤ (u - 1) / 2 ^ w := Nat.div_le_div_right (by omega)
    unfold hp; omega
  have hsel : Sel (hb l w l.length) m (i : Int) ((hp l w i : Nat) : Int) := .inr ⟨hp l w i, rfl, hpm, (hb_iff _ _ _ _).2 ⟨i, hi, rfl⟩, by rw [cnt_hb hG w hi _ (Nat.le_refl _)]; omega⟩
  have hpe := hp'.uniq hsel
  subst hpe
  have hdu : vn l i / 2 ^ w ≤ vn l i := Nat.div_le_self _ _
  rw [ep, Option.bind_some, chk?_eq (decide_eq_true (by omega)), Option.bind_some, pk_get hP.pk (by omega) (by omega) (by omega) hi, Option.bind_some, hx i hi]
  have h1 : vn l i % 2 ^ w < 2 ^ w := Nat.mod_lt _ (Nat.pow_pos (by decide))
  have h2 : 2 ^ w ≤ 2 ^ 22 := Nat.pow_le_pow_right (by decide) hw
  rw [show (2 : Nat) ^ 22 = 4194304 from rfl] at h2
  have h3 : vn l i / 2 ^ w * 2 ^ w + vn l i % 2 ^ w = vn l i := by have := Nat.div_add_mod (vn l i) (2 ^ w); rw [Nat.mul_comm] at this; exact this
  have epi : wi (((hp l w i : Nat) : Int) - (i : Int)) = ((vn l i / 2 ^ w : Nat) : Int) := by
    unfold hp
    clear h3 h1
    generalize vn l i / 2 ^ w = d at *
    rw [wi_eq (by omega) (by omega)]; omega
  rw [show uw (lo l w i) = ((vn l i % 2 ^ w : Nat) : Int) by show ((lo l w i).toNat : Int) = _; rw [lo_nat l w i hw], wi_eq (n := ((vn l i % 2 ^ w : Nat) : Int)) (by omega) (by omega), epi, nor_pow h1 (by omega) hw, h3, hv]
theorem at_out {S : Int × Int × Int × (Option (Int × (List Int) × (List Int) × Int)) × (Option (Int × Int × (List Int))) × (Option (Int × Int × (List Int)))} {u : Nat} {l : List Int} (h : SetOk S u l) {i : Int} (hi : i < 0 ∨ (l.length : Int) ≤ i) : sparse_Set_At.f (some S) i = some (-1) := by
  obtain ⟨w, m, V, U1, U2, xs, rfl, hsh, hB, hV, hP, hx⟩ := h
  unfold sparse_Set_At.f
  simp only []
  rcases hi with hi | hi
  · rw [if_pos (by simpa using hi)]
  · by_cases h0 : i < 0
    · rw [if_pos (by simpa using h0)]
    · rw [if_neg (by simpa using h0), if_pos (by simpa using hi)]
theorem rank_ok {S : Int × Int × Int × (Option (Int × (List Int) × (List Int) × Int)) × (Option (Int × Int × (List Int))) × (Option (Int × Int × (List Int)))} {u : Nat} {l : List Int} (h : SetOk S u l) (hG : Good u l) (hu : u ≤ 4194304) (x : Int) :
    ∃ r : Nat, sparse_Set_Rank.f (some S) x = some (r : Int) ∧ r ≤ l.length ∧ (∀ j, j < r → l.getD j 0 < x) ∧ ∀ j, r ≤ j → j < l.length → x ≤ l.getD j 0 := by
  have hlen := hG.len
  have key : ∀ (m k a b : Nat), b - a = m → m < k → a ≤ b → b ≤ l.length → (∀ j, j < a → l.getD j 0 < x) → (∀ j, b ≤ j → j < l.length → x ≤ l.getD j 0) → ∃ r : Nat, sparse_Set_Rank.l1 x S k (a : Int) (b : Int) = some (r : Int) ∧ r ≤ l.length ∧ (∀ j, j < r → l.getD j 0 < x) ∧ ∀ j, r ≤ j → j < l.length → x ≤ l.getD j 0 := by
    intro m
    induction m using Nat.strongRecOn with
    | ind m ih =>
      intro k a b hm hk hab hb h1 h2
      cases k with
      | zero => omega
      | succ k =>
        unfold sparse_Set_Rank.l1
        by_cases hlt : a < b
        · rw [if_pos (by simp; omega)]
          have em : wi (Int.tdiv (wi ((a : Int) + (b : Int))) 2) = (((a + b) / 2 : Nat) : Int) := by
            rw [wi_eq (n := (a : Int) + (b : Int)) (by omega) (by omega), Int.tdiv_eq_ediv_of_nonneg (by omega), wi_eq (by omega) (by omega)]; omega
          rw [em, at_ok h hG hu (by omega), Option.bind_some]
          by_cases hc : l.getD ((a + b) / 2) 0 < x
          · rw [if_pos (by simpa using hc), wi_eq (by omega) (by omega), show (((a + b) / 2 : Nat) : Int) + 1 = (((a + b) / 2 + 1 : Nat) : Int) by omega]
            exact ih (b - ((a + b) / 2 + 1)) (by omega) k _ _ rfl (by omega) (by omega) hb (fun j hj => by
              by_cases e : j = (a + b) / 2
              · rw [e]; exact hc
              · have := hG.lt (i := j) (j := (a + b) / 2) (by omega) (by omega); omega) h2
          · rw [if_neg (by simpa using hc)]
            exact ih ((a + b) / 2 - a) (by omega) k _ _ rfl (by omega) (by omega) (by omega) h1 (fun j hj hjl => by
              by_cases e : j = (a + b) / 2
              · rw [e]; omega
              · have := hG.lt (i := (a + b) / 2) (j := j) (by omega) hjl; omega)
        · rw [if_neg (by simp; omega)]
          have : a = b := by omega
          subst this
          exact ⟨a, rfl, hb, h1, h2⟩
  have := key l.length FU 0 l.length (by omega) (by show l.length < 4611686018427387904; omega) (by omega) (Nat.le_refl _) (fun j h => by omega) (fun j h h' => by omega)
  obtain ⟨r, e, hr⟩ := this
  rw [show ((0 : Nat) : Int) = 0 from rfl] at e
  unfold sparse_Set_Rank.f
  have hS : S.2.1 = (l.length : Int) := by obtain ⟨w, m, V, U1, U2, xs, rfl, _⟩ := h; rfl
  simp only []
  rw [hS, e]; exact ⟨r, rfl, hr⟩
theorem rank_uniq {l : List Int} {x : Int} {r r' : Nat} (h : r ≤ l.length ∧ (∀ j, j < r → l.getD j 0 < x) ∧ ∀ j, r ≤ j → j < l.length → x ≤ l.getD j 0) (h' : r' ≤ l.length ∧ (∀ j, j < r' → l.getD j 0 < x) ∧ ∀ j, r' ≤ j → j < l.length → x ≤ l.getD j 0) : r = r' := by
  rcases Nat.lt_trichotomy r r' with c | c | c
  · have := h.2.2 r (Nat.le_refl _) (by omega); have := h'.2.1 r c; omega
  · exact c
  · have := h'.2.2 r' (Nat.le_refl _) (by omega); have := h.2.1 r' c; omega
theorem has_ok {S : Int × Int × Int × (Option (Int × (List Int) × (List Int) × Int)) × (Option (Int × Int × (List Int))) × (Option (Int × Int × (List Int)))} {u : Nat} {l : List Int} (h : SetOk S u l) (hG : Good u l) (hu : u ≤ 4194304) (x : Int) :
    ∃ b : Bool, sparse_Set_Has.f (some S) x = some b ∧ (b = true ↔ ∃ j, j < l.length ∧ l.getD j 0 = x) := by
  unfold sparse_Set_Has.f
  simp only []
  by_cases h0 : x ≥ 0
  · rw [if_pos (by simpa using h0)]
    obtain ⟨r, e, hr, h1, h2⟩ := rank_ok h hG hu x
    rw [e, Option.bind_some]
    rcases Nat.lt_or_ge r l.length with hrl | hrl
    · rw [at_ok h hG hu hrl, Option.bind_some]
      refine ⟨_, rfl, ?_⟩
      rw [beq_iff_eq]
      refine ⟨fun e => ⟨r, hrl, e⟩, fun ⟨j, hj, e⟩ => ?_⟩
      rcases Nat.lt_trichotomy j r with c | c | c
      · have := h1 j c; omega
      · rw [← c]; exact e
      · have := h2 r (Nat.le_refl _) hrl; have := hG.lt c hj; omega
    · rw [at_out h (.inr (by omega)), Option.bind_some]
      refine ⟨_, rfl, ?_⟩
      rw [beq_iff_eq]
      exact ⟨fun e => by omega, fun ⟨j, hj, e⟩ => by have := h1 j (by omega); omega⟩
  · rw [if_neg (by simpa using h0)]
    exact ⟨false, rfl, ⟨fun h => (by cases h), fun ⟨j, hj, e⟩ => by have := hG.rng j hj; omega⟩⟩
end Sparse
end Go.Proofs.Ytomeiphaohjeoaa
