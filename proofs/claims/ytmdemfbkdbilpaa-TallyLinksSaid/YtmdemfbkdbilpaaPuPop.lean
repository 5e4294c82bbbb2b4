/-
  How many bits of a word are ones: what the library's count answers. No condition.
-/
import Derived.Test.YtmdemfbkdbilpaaGP1b
import Derived.Test.YtmdemfbkdbilpaaGI
namespace Go.Proofs.Ytmdemfbkdbilpaa
open Go Go.Gol
set_option linter.unusedVariables false
set_option linter.unusedSimpArgs false
set_option maxRecDepth 100000
namespace Pop
theorem and_split {k a b c d : Nat} (ha : a < 2 ^ k) (hc : c < 2 ^ k) : (a + 2 ^ k * b) &&& (c + 2 ^ k * d) = (a &&& c) + 2 ^ k * (b &&& d) := by
  apply Nat.eq_of_testBit_eq
  intro j
  rw [Nat.add_comm a, Nat.add_comm c, Nat.add_comm (a &&& c), Nat.testBit_and, Nat.testBit_two_pow_mul_add _ ha, Nat.testBit_two_pow_mul_add _ hc, Nat.testBit_two_pow_mul_add _ (Nat.and_lt_two_pow _ hc)]
  split <;> rw [Nat.testBit_and]
def val (B : Nat) : List Nat → Nat
  | [] => 0
  | d :: ds => d + B * val B ds
def ps : List Nat → List Nat
  | a :: b :: r => (a + b) :: ps r
  | _ => []
def mk (B : Nat) : Nat → Nat
  | 0 => 0
  | n + 1 => (B - 1) + B * B * mk B n
theorem ps_sum : ∀ (n : Nat) (ds : List Nat), ds.length = 2 * n → (ps ds).sum = ds.sum ∧ (ps ds).length = n
  | 0, ds, h => by have : ds = [] := List.eq_nil_of_length_eq_zero (by omega); subst this; exact ⟨rfl, rfl⟩
  | n + 1, ds, h => by
    match ds, h with
    | a :: b :: r, h =>
      have := ps_sum n r (by simp at h; omega)
      simp only [ps, List.sum_cons, List.length_cons, this]; exact ⟨by omega, trivial⟩
    | [a], h => simp at h; omega
    | [], h => simp at h
theorem ps_le (c : Nat) : ∀ (n : Nat) (ds : List Nat), ds.length = 2 * n → (∀ d ∈ ds, d ≤ c) → ∀ d ∈ ps ds, d ≤ 2 * c
  | 0, ds, h, hc => by have : ds = [] := List.eq_nil_of_length_eq_zero (by omega); subst this; intro d hd; cases hd
  | n + 1, ds, h, hc => by
    match ds, h, hc with
    | a :: b :: r, h, hc =>
      intro d hd
      simp only [ps, List.mem_cons] at hd
      rcases hd with rfl | hd
      · have := hc a (by simp); have := hc b (by simp); omega
      · exact ps_le c n r (by simp at h; omega) (fun x hx => hc x (by simp [hx])) d hd
    | [a], h, hc => simp at h; omega
    | [], h, hc => simp at h
theorem val_ps (B : Nat) (n : Nat) (ds : List Nat) : val (B * B) (ps ds) = val (B * B) (ps ds) := rfl
/-- one step: neighbours are added, each masked first -/
theorem step (w : Nat) : ∀ (n : Nat) (ds : List Nat), ds.length = 2 * n → (∀ d ∈ ds, d < 2 ^ w) →
    (val (2 ^ w) ds &&& mk (2 ^ w) n) + (val (2 ^ w) ds / 2 ^ w &&& mk (2 ^ w) n) = val (2 ^ w * 2 ^ w) (ps ds)
  | 0, ds, h, hd => by have : ds = [] := List.eq_nil_of_length_eq_zero (by omega); subst this; simp [val, mk, ps]
  | n + 1, ds, h, hd => by
    match ds, h, hd with
    | a :: b :: r, h, hd =>
      have ha := hd a (by simp)
      have hb := hd b (by simp)
      have ih := step w n r (by simp at h; omega) (fun x hx => hd x (by simp [hx]))
      simp only [val, mk, ps]
      generalize val (2 ^ w) r = V at *
      generalize hm : mk (2 ^ w) n = m at *
      have hB : 0 < 2 ^ w := Nat.pow_pos (by decide)
      have h2 : 2 ^ w * 2 ^ w = 2 ^ (w + w) := (Nat.pow_add 2 w w).symm
      have hbb : 2 ^ w * b ≤ 2 ^ w * (2 ^ w - 1) := Nat.mul_le_mul_left _ (by omega)
      have hsq : 2 ^ w * (2 ^ w - 1) = 2 ^ w * 2 ^ w - 2 ^ w := by rw [Nat.mul_sub, Nat.mul_one]
      have hge : 2 ^ w ≤ 2 ^ w * 2 ^ w := Nat.le_mul_of_pos_left _ hB
      have e1 : a + 2 ^ w * (b + 2 ^ w * V) = (a + 2 ^ w * b) + 2 ^ (w + w) * V := by rw [← h2, Nat.mul_add, Nat.mul_assoc]; omega
      have e2 : (a + 2 ^ w * (b + 2 ^ w * V)) / 2 ^ w = b + 2 ^ w * V := by rw [Nat.add_mul_div_left _ _ hB, Nat.div_eq_of_lt ha]; omega
      have e3 : b + 2 ^ w * V = (b + 2 ^ w * (V % 2 ^ w)) + 2 ^ (w + w) * (V / 2 ^ w) := by
        conv => lhs; rw [← Nat.div_add_mod V (2 ^ w)]
        rw [← h2, Nat.mul_add, Nat.mul_assoc]; omega
      have hv : V % 2 ^ w < 2 ^ w := Nat.mod_lt _ hB
      have hvv : 2 ^ w * (V % 2 ^ w) ≤ 2 ^ w * (2 ^ w - 1) := Nat.mul_le_mul_left _ (by omega)
      rw [e2, e1]
      conv => lhs; arg 2; rw [e3]
      rw [h2, and_split (by omega) (by omega), and_split (by omega) (by omega), Nat.and_two_pow_sub_one_eq_mod, Nat.and_two_pow_sub_one_eq_mod, Nat.add_mul_mod_self_left, Nat.add_mul_mod_self_left, Nat.mod_eq_of_lt ha, Nat.mod_eq_of_lt hb]
      rw [← h2, ← ih, Nat.mul_add]; omega
    | [a], h, hd => simp at h; omega
    | [], h, hd => simp at h
/-- one step: neighbours are added, then masked -/
theorem step2 (w c : Nat) (hc : 2 * c < 2 ^ w) : ∀ (n : Nat) (ds : List Nat), ds.length = 2 * n → (∀ d ∈ ds, d ≤ c) →
    ((val (2 ^ w) ds / 2 ^ w + val (2 ^ w) ds) &&& mk (2 ^ w) n) = val (2 ^ w * 2 ^ w) (ps ds)
  | 0, ds, h, hd => by have : ds = [] := List.eq_nil_of_length_eq_zero (by omega); subst this; simp [val, mk, ps]
  | n + 1, ds, h, hd => by
    match ds, h, hd with
    | a :: b :: r, h, hd =>
      have ha := hd a (by simp)
      have hb := hd b (by simp)
      have ih := step2 w c hc n r (by simp at h; omega) (fun x hx => hd x (by simp [hx]))
      have hB : 0 < 2 ^ w := Nat.pow_pos (by decide)
      have hv : val (2 ^ w) r % 2 ^ w ≤ c := by
        cases r with
        | nil => simp [val]
        | cons d r' =>
          have := hd d (by simp)
          simp only [val]; rw [Nat.add_mul_mod_self_left, Nat.mod_eq_of_lt (by omega)]; exact this
      simp only [val, mk, ps]
      generalize val (2 ^ w) r = V at *
      generalize hm : mk (2 ^ w) n = m at *
      have h2 : 2 ^ w * 2 ^ w = 2 ^ (w + w) := (Nat.pow_add 2 w w).symm
      have hge : 2 ^ w ≤ 2 ^ w * 2 ^ w := Nat.le_mul_of_pos_left _ hB
      have e1 : a + 2 ^ w * (b + 2 ^ w * V) = (a + 2 ^ w * b) + 2 ^ (w + w) * V := by rw [← h2, Nat.mul_add, Nat.mul_assoc]; omega
      have e2 : (a + 2 ^ w * (b + 2 ^ w * V)) / 2 ^ w = b + 2 ^ w * V := by rw [Nat.add_mul_div_left _ _ hB, Nat.div_eq_of_lt (by omega)]; omega
      have e3 : b + 2 ^ w * V = (b + 2 ^ w * (V % 2 ^ w)) + 2 ^ (w + w) * (V / 2 ^ w) := by
        conv => lhs; rw [← Nat.div_add_mod V (2 ^ w)]
        rw [← h2, Nat.mul_add, Nat.mul_assoc]; omega
      have e4 : (a + 2 ^ w * (b + 2 ^ w * V)) / 2 ^ w + (a + 2 ^ w * (b + 2 ^ w * V)) = ((a + b) + 2 ^ w * (b + V % 2 ^ w)) + 2 ^ (w + w) * (V / 2 ^ w + V) := by
        rw [e2, e1, e3, Nat.mul_add, Nat.mul_add]; omega
      have hbv : 2 ^ w * (b + V % 2 ^ w) ≤ 2 ^ w * (2 ^ w - 1) := Nat.mul_le_mul_left _ (by omega)
      have hsq : 2 ^ w * (2 ^ w - 1) = 2 ^ w * 2 ^ w - 2 ^ w := by rw [Nat.mul_sub, Nat.mul_one]
      rw [e4, h2, and_split (by omega) (by omega), Nat.and_two_pow_sub_one_eq_mod, Nat.add_mul_mod_self_left, Nat.mod_eq_of_lt (by omega), ih, h2]
    | [a], h, hd => simp at h; omega
    | [], h, hd => simp at h
/-- the bits of a number, the lowest first -/
def bl : Nat → Nat → List Nat
  | 0, _ => []
  | n + 1, x => x % 2 :: bl n (x / 2)
theorem bl_len (n x : Nat) : (bl n x).length = n := by induction n generalizing x with | zero => rfl | succ n ih => simp [bl, ih]
theorem bl_val (n x : Nat) (h : x < 2 ^ n) : val 2 (bl n x) = x := by
  induction n generalizing x with
  | zero => simp at h; subst h; rfl
  | succ n ih => simp only [bl, val]; rw [ih (x / 2) (by rw [Nat.pow_succ] at h; omega)]; omega
theorem bl_le (n x : Nat) : ∀ d ∈ bl n x, d ≤ 1 := by
  induction n generalizing x with
  | zero => intro d hd; cases hd
  | succ n ih =>
    intro d hd
    simp only [bl, List.mem_cons] at hd
    rcases hd with rfl | hd
    · omega
    · exact ih _ d hd
/-- how many ones there are -/
def pop (x : Nat) : Nat := (bl 64 x).sum
theorem nand (a b : Nat) (ha : a < 18446744073709551616) (hb : b < 18446744073709551616) : iand .u64 (a : Int) (b : Int) = ((a &&& b : Nat) : Int) := by
  have := un_and64 (BitVec.ofNat 64 a) (BitVec.ofNat 64 b)
  rw [BitVec.toNat_and] at this
  simp only [BitVec.toNat_ofNat, Nat.mod_eq_of_lt ha, Nat.mod_eq_of_lt hb] at this
  exact this
theorem nand64i (a b : Nat) (ha : a < 9223372036854775808) (hb : b < 9223372036854775808) : iand .i64 (a : Int) (b : Int) = ((a &&& b : Nat) : Int) := by
  show IntKind.wrap .i64 ((BitVec.ofInt 64 _ &&& BitVec.ofInt 64 _ : BitVec 64).toNat : Int) = _
  have e : ∀ x : Nat, x < 9223372036854775808 → BitVec.ofInt 64 (x : Int) = BitVec.ofNat 64 x := fun x hx => by apply BitVec.eq_of_toNat_eq; simp
  rw [e a ha, e b hb, BitVec.toNat_and]
  simp only [BitVec.toNat_ofNat]
  rw [Nat.mod_eq_of_lt (by omega), Nat.mod_eq_of_lt (by omega)]
  have : a &&& b ≤ b := Nat.and_le_right
  exact wi_eq (by omega) (by omega)
theorem shr64 (a k : Nat) (h : k ≤ 64) : ishr .u64 (a : Int) (k : Int) = ((a / 2 ^ k : Nat) : Int) := ishr_nat .u64 a k h
theorem val_lt {B : Nat} : ∀ (ds : List Nat), (∀ d ∈ ds, d < B) → val B ds < B ^ ds.length
  | [], _ => by simp [val]
  | d :: ds, h => by
    have h1 := val_lt ds (fun x hx => h x (by simp [hx]))
    have h2 := h d (by simp)
    simp only [val, List.length_cons, Nat.pow_succ]
    have : B * (val B ds + 1) ≤ B * B ^ ds.length := Nat.mul_le_mul_left _ h1
    rw [Nat.mul_add, Nat.mul_one, Nat.mul_comm B (B ^ ds.length)] at this
    omega
theorem dv (n lo R : Nat) (h : lo < 2 ^ n) : (lo + 2 ^ n * R) / 2 ^ n = R := by
  rw [Nat.add_mul_div_left _ _ (Nat.pow_pos (by decide)), Nat.div_eq_of_lt h, Nat.zero_add]
theorem ad (k X lo R Y : Nat) (hk : k ≤ 64) (hX : X = lo + 2 ^ k * R) (hlo : lo < 2 ^ k) (hY : X + R = Y) (hlt : Y < 18446744073709551616) : IntKind.wrap .u64 ((X : Int) + ishr .u64 (X : Int) (k : Int)) = (Y : Int) := by
  rw [shr64 X k hk]
  conv => lhs; arg 2; arg 2; arg 1; rw [hX, dv k lo R hlo]
  rw [wrap_u64_eq]; omega
theorem y1 (a b c d e f g h : Nat) : (a + 256 * (b + 256 * (c + 256 * (d + 256 * (e + 256 * (f + 256 * (g + 256 * (h + 256 * 0)))))))) + (b + 256 * (c + 256 * (d + 256 * (e + 256 * (f + 256 * (g + 256 * (h + 256 * 0))))))) = (a + b) + 256 * ((b + c) + 256 * ((c + d) + 256 * ((d + e) + 256 * ((e + f) + 256 * ((f + g) + 256 * ((g + h) + 256 * h)))))) := by omega
theorem y2 (a b c d e f g h : Nat) : (a + 256 * (b + 256 * (c + 256 * (d + 256 * (e + 256 * (f + 256 * (g + 256 * h))))))) + (c + 256 * (d + 256 * (e + 256 * (f + 256 * (g + 256 * h))))) = (a + c) + 256 * ((b + d) + 256 * ((c + e) + 256 * ((d + f) + 256 * ((e + g) + 256 * ((f + h) + 256 * (g + 256 * h)))))) := by omega
theorem y3 (a b c d e f g h : Nat) : (a + 256 * (b + 256 * (c + 256 * (d + 256 * (e + 256 * (f + 256 * (g + 256 * h))))))) + (e + 256 * (f + 256 * (g + 256 * h))) = (a + e) + 256 * ((b + f) + 256 * ((c + g) + 256 * ((d + h) + 256 * (e + 256 * (f + 256 * (g + 256 * h)))))) := by omega
theorem lt8 (a b c d e f g h : Nat) (ha : a ≤ 64) (hb : b ≤ 64) (hc : c ≤ 64) (hd : d ≤ 64) (he : e ≤ 64) (hf : f ≤ 64) (hg : g ≤ 64) (hh : h ≤ 8) : a + 256 * (b + 256 * (c + 256 * (d + 256 * (e + 256 * (f + 256 * (g + 256 * h)))))) < 9000000000000000000 := by omega
theorem k16 (a b : Nat) (ha : a ≤ 64) (hb : b ≤ 64) : a + 256 * b < 2 ^ 16 := by rw [show (2 : Nat) ^ 16 = 65536 from rfl]; omega
theorem k32 (a b c d : Nat) (ha : a ≤ 64) (hb : b ≤ 64) (hc : c ≤ 64) (hd : d ≤ 64) : a + 256 * (b + 256 * (c + 256 * d)) < 2 ^ 32 := by rw [show (2 : Nat) ^ 32 = 4294967296 from rfl]; omega
theorem k7 (a : Nat) (ha : a ≤ 64) : a < 2 ^ 7 := by rw [show (2 : Nat) ^ 7 = 128 from rfl]; omega
theorem k8 (a : Nat) (ha : a ≤ 64) : a < 2 ^ 8 := by rw [show (2 : Nat) ^ 8 = 256 from rfl]; omega
theorem k0 (a b c d e f g h : Nat) : a + b + (c + d) + (e + f + (g + h)) = a + (b + (c + (d + (e + (f + (g + (h + 0))))))) := by omega
theorem fin (Z a R : Nat) (b3 : Z < 9000000000000000000) (v4 : Z = a + 2 ^ 7 * (2 * R)) (c4 : a < 2 ^ 7) : iand .i64 (wi (Z : Int)) 127 = (a : Int) := by
  rw [wi_eq (by omega) (by omega), show (127 : Int) = ((127 : Nat) : Int) from rfl, nand64i _ _ (by omega) (by decide), show (127 : Nat) = 2 ^ 7 - 1 from rfl, Nat.and_two_pow_sub_one_eq_mod, v4, Nat.add_mul_mod_self_left, Nat.mod_eq_of_lt c4]
theorem r8 (a R : Nat) : a + 256 * R = a + 2 ^ 8 * R := by rw [show (2 : Nat) ^ 8 = 256 from rfl]
theorem r16 (a b R : Nat) : a + 256 * (b + 256 * R) = (a + 256 * b) + 2 ^ 16 * R := by rw [show (2 : Nat) ^ 16 = 65536 from rfl]; omega
theorem r32 (a b c d R : Nat) : a + 256 * (b + 256 * (c + 256 * (d + 256 * R))) = (a + 256 * (b + 256 * (c + 256 * d))) + 2 ^ 32 * R := by rw [show (2 : Nat) ^ 32 = 4294967296 from rfl]; omega
theorem r7 (a R : Nat) : a + 256 * R = a + 2 ^ 7 * (2 * R) := by rw [show (2 : Nat) ^ 7 = 128 from rfl]; omega
theorem lanes (a b c d e f g h : Nat) (ha : a ≤ 8) (hb : b ≤ 8) (hc : c ≤ 8) (hd : d ≤ 8) (he : e ≤ 8) (hf : f ≤ 8) (hg : g ≤ 8) (hh : h ≤ 8) :
    ∀ (X x1 x2 : Int), X = ((a + 256 * (b + 256 * (c + 256 * (d + 256 * (e + 256 * (f + 256 * (g + 256 * (h + 256 * 0))))))) : Nat) : Int) → x1 = IntKind.wrap .u64 (X + ishr .u64 X 8) → x2 = IntKind.wrap .u64 (x1 + ishr .u64 x1 16) → iand .i64 (wi (IntKind.wrap .u64 (x2 + ishr .u64 x2 32))) 127 = ((a + (b + (c + (d + (e + (f + (g + (h + 0))))))) : Nat) : Int) := by
  have p : ∀ x y m n : Nat, x ≤ m → y ≤ n → x + y ≤ m + n := fun x y m n hx hy => Nat.add_le_add hx hy
  have w1 : a + b ≤ 64 := Nat.le_trans (p _ _ _ _ ha hb) (by decide)
  have w2 : b + c ≤ 64 := Nat.le_trans (p _ _ _ _ hb hc) (by decide)
  have w3 : c + d ≤ 64 := Nat.le_trans (p _ _ _ _ hc hd) (by decide)
  have w4 : d + e ≤ 64 := Nat.le_trans (p _ _ _ _ hd he) (by decide)
  have w5 : e + f ≤ 64 := Nat.le_trans (p _ _ _ _ he hf) (by decide)
  have w6 : f + g ≤ 64 := Nat.le_trans (p _ _ _ _ hf hg) (by decide)
  have w7 : g + h ≤ 64 := Nat.le_trans (p _ _ _ _ hg hh) (by decide)
  have w8 : a + b + (c + d) ≤ 64 := Nat.le_trans (p _ _ _ _ (p _ _ _ _ ha hb) (p _ _ _ _ hc hd)) (by decide)
  have w9 : b + c + (d + e) ≤ 64 := Nat.le_trans (p _ _ _ _ (p _ _ _ _ hb hc) (p _ _ _ _ hd he)) (by decide)
  have w10 : c + d + (e + f) ≤ 64 := Nat.le_trans (p _ _ _ _ (p _ _ _ _ hc hd) (p _ _ _ _ he hf)) (by decide)
  have w11 : d + e + (f + g) ≤ 64 := Nat.le_trans (p _ _ _ _ (p _ _ _ _ hd he) (p _ _ _ _ hf hg)) (by decide)
  have w12 : e + f + (g + h) ≤ 64 := Nat.le_trans (p _ _ _ _ (p _ _ _ _ he hf) (p _ _ _ _ hg hh)) (by decide)
  have w13 : f + g + h ≤ 64 := Nat.le_trans (p _ _ _ _ (p _ _ _ _ hf hg) hh) (by decide)
  have w14 : a + b + (c + d) + (e + f + (g + h)) ≤ 64 := p _ _ _ _ (p _ _ _ _ (p _ _ _ _ ha hb) (p _ _ _ _ hc hd)) (p _ _ _ _ (p _ _ _ _ he hf) (p _ _ _ _ hg hh))
  have w15 : b + c + (d + e) + (f + g + h) ≤ 64 := Nat.le_trans (p _ _ _ _ (p _ _ _ _ (p _ _ _ _ hb hc) (p _ _ _ _ hd he)) (p _ _ _ _ (p _ _ _ _ hf hg) hh)) (by decide)
  have w16 : c + d + (e + f) + (g + h) ≤ 64 := Nat.le_trans (p _ _ _ _ (p _ _ _ _ (p _ _ _ _ hc hd) (p _ _ _ _ he hf)) (p _ _ _ _ hg hh)) (by decide)
  have w17 : d + e + (f + g) + h ≤ 64 := Nat.le_trans (p _ _ _ _ (p _ _ _ _ (p _ _ _ _ hd he) (p _ _ _ _ hf hg)) hh) (by decide)
  have b1 := lt8 (a + b) (b + c) (c + d) (d + e) (e + f) (f + g) (g + h) h w1 w2 w3 w4 w5 w6 w7 hh
  have b2 := lt8 (a + b + (c + d)) (b + c + (d + e)) (c + d + (e + f)) (d + e + (f + g)) (e + f + (g + h)) (f + g + h) (g + h) h w8 w9 w10 w11 w12 w13 w7 hh
  have b3 := lt8 (a + b + (c + d) + (e + f + (g + h))) (b + c + (d + e) + (f + g + h)) (c + d + (e + f) + (g + h)) (d + e + (f + g) + h) (e + f + (g + h)) (f + g + h) (g + h) h w14 w15 w16 w17 w12 w13 w7 hh
  have hlt : (9000000000000000000 : Nat) < 18446744073709551616 := by decide
  have c1 : a < 2 ^ 8 := k8 a (Nat.le_trans ha (by decide))
  have c2 := k16 (a + b) (b + c) w1 w2
  have c3 := k32 (a + b + (c + d)) (b + c + (d + e)) (c + d + (e + f)) (d + e + (f + g)) w8 w9 w10 w11
  have c4 := k7 _ w14
  have c5 := k0 a b c d e f g h
  have u1 := y1 a b c d e f g h
  have u2 := y2 (a + b) (b + c) (c + d) (d + e) (e + f) (f + g) (g + h) h
  have u3 := y3 (a + b + (c + d)) (b + c + (d + e)) (c + d + (e + f)) (d + e + (f + g)) (e + f + (g + h)) (f + g + h) (g + h) h
  have v2 := r16 (a + b) (b + c) ((c + d) + 256 * ((d + e) + 256 * ((e + f) + 256 * ((f + g) + 256 * ((g + h) + 256 * h)))))
  have v3 := r32 (a + b + (c + d)) (b + c + (d + e)) (c + d + (e + f)) (d + e + (f + g)) ((e + f + (g + h)) + 256 * ((f + g + h) + 256 * ((g + h) + 256 * h)))
  have v4 := r7 (a + b + (c + d) + (e + f + (g + h))) ((b + c + (d + e) + (f + g + h)) + 256 * ((c + d + (e + f) + (g + h)) + 256 * ((d + e + (f + g) + h) + 256 * ((e + f + (g + h)) + 256 * ((f + g + h) + 256 * ((g + h) + 256 * h))))))
  intro X x1 x2 hX h1 h2
  rw [hX] at h1
  have t1 := h1.trans (ad 8 _ a _ _ (by decide) (r8 _ _) c1 u1 (Nat.lt_trans b1 hlt))
  rw [t1] at h2
  have t2 := h2.trans (ad 16 _ _ _ _ (by decide) v2 c2 u2 (Nat.lt_trans b2 hlt))
  rw [t2]
  have t3 := ad 32 _ _ _ _ (by decide) v3 c3 u3 (Nat.lt_trans b3 hlt)
  rw [show ((32 : Nat) : Int) = 32 from rfl] at t3
  rw [t3]
  rw [fin _ _ _ b3 v4 c4, c5]
theorem ones_f (x : Nat) (hx : x < 18446744073709551616) : bits_OnesCount64.f (x : Int) = some ((pop x : Nat) : Int) := by
  have hb := bl_le 64 x
  have hl := bl_len 64 x
  have hv := bl_val 64 x hx
  -- pairs
  have s1 := step 1 32 (bl 64 x) hl (fun d hd => by have := hb d hd; omega)
  rw [show (2 : Nat) ^ 1 = 2 from rfl, hv, show (2 * 2 : Nat) = 4 from rfl, show mk 2 32 = 6148914691236517205 by decide +kernel] at s1
  have q1 := ps_sum 32 (bl 64 x) hl
  have c1 := ps_le 1 32 (bl 64 x) hl hb
  have v1 := val_lt (B := 4) (ps (bl 64 x)) (fun d hd => by have := c1 d hd; omega)
  generalize ps (bl 64 x) = p1 at *
  -- fours
  have s2 := step 2 16 p1 q1.2 (fun d hd => by have := c1 d hd; omega)
  rw [show (2 : Nat) ^ 2 = 4 from rfl, show (4 * 4 : Nat) = 16 from rfl, show mk 4 16 = 3689348814741910323 by decide +kernel] at s2
  have q2 := ps_sum 16 p1 q1.2
  have c2 := ps_le 2 16 p1 q1.2 c1
  have v2 := val_lt (B := 16) (ps p1) (fun d hd => by have := c2 d hd; omega)
  generalize ps p1 = p2 at *
  -- eights
  have s3 := step2 4 4 (by decide) 8 p2 q2.2 c2
  rw [show (2 : Nat) ^ 4 = 16 from rfl, show (16 * 16 : Nat) = 256 from rfl, show mk 16 8 = 1085102592571150095 by decide +kernel] at s3
  have q3 := ps_sum 8 p2 q2.2
  have c3 := ps_le 4 8 p2 q2.2 c2
  have w2 : val 16 p2 < 5000000000000000000 := by
    have := val_lt (B := 16) p2 (fun d hd => by have := c2 d hd; omega)
    clear this
    have key : ∀ (ds : List Nat), (∀ d ∈ ds, d ≤ 4) → 15 * val 16 ds + 4 ≤ 4 * 16 ^ ds.length := by
      intro ds
      induction ds with
      | nil => intro _; simp [val]
      | cons d ds ih =>
        intro h
        have h1 := ih (fun x hx => h x (by simp [hx]))
        have h2 := h d (by simp)
        simp only [val, List.length_cons, Nat.pow_succ]
        omega
    have := key p2 c2
    rw [q2.2] at this
    omega
  generalize ps p2 = p3 at *
  rw [q1.2] at v1
  rw [q2.2] at v2
  have e1 : IntKind.wrap .u64 ((iand .u64 (ishr .u64 (x : Int) 1) 6148914691236517205) + (iand .u64 (x : Int) 6148914691236517205)) = ((val 4 p1 : Nat) : Int) := by
    rw [show (1 : Int) = ((1 : Nat) : Int) from rfl, shr64 x 1 (by decide), show (6148914691236517205 : Int) = ((6148914691236517205 : Nat) : Int) from rfl, nand _ _ (by omega) (by decide), nand _ _ hx (by decide), wrap_u64_eq]
    rw [show (2 : Nat) ^ 1 = 2 from rfl]
    omega
  have e2 : IntKind.wrap .u64 ((iand .u64 (ishr .u64 ((val 4 p1 : Nat) : Int) 2) 3689348814741910323) + (iand .u64 ((val 4 p1 : Nat) : Int) 3689348814741910323)) = ((val 16 p2 : Nat) : Int) := by
    rw [show (2 : Int) = ((2 : Nat) : Int) from rfl, shr64 _ 2 (by decide), show (3689348814741910323 : Int) = ((3689348814741910323 : Nat) : Int) from rfl, nand _ _ (by omega) (by decide), nand _ _ (by omega) (by decide), wrap_u64_eq]
    rw [show (2 : Nat) ^ 2 = 4 from rfl]
    omega
  have e3 : iand .u64 (IntKind.wrap .u64 ((ishr .u64 ((val 16 p2 : Nat) : Int) 4) + ((val 16 p2 : Nat) : Int))) 1085102592571150095 = ((val 256 p3 : Nat) : Int) := by
    rw [show (4 : Int) = ((4 : Nat) : Int) from rfl, shr64 _ 4 (by decide), show (2 : Nat) ^ 4 = 16 from rfl]
    have : IntKind.wrap .u64 (((val 16 p2 / 16 : Nat) : Int) + ((val 16 p2 : Nat) : Int)) = ((val 16 p2 / 16 + val 16 p2 : Nat) : Int) := by rw [wrap_u64_eq]; omega
    rw [this, show (1085102592571150095 : Int) = ((1085102592571150095 : Nat) : Int) from rfl, nand _ _ (by omega) (by decide), s3]
  unfold bits_OnesCount64.f
  rw [e1, e2, e3]
  have hsum : pop x = p3.sum := by unfold pop; omega
  rw [hsum]
  have c3' : ∀ d ∈ p3, d ≤ 8 := c3
  have q3' := q3.2
  clear s1 s2 s3 e1 e2 e3 hsum q1 q2 q3 c1 c2 c3 v1 v2 w2 hv hl hb
  match p3, q3', c3' with
  | [a, b, c, d, e, f, g, h], _, hc =>
    have ha := hc a (by simp); have hb := hc b (by simp); have hcc := hc c (by simp); have hd := hc d (by simp); have he := hc e (by simp); have hf := hc f (by simp); have hg := hc g (by simp); have hh := hc h (by simp)
    simp only [val, List.sum_cons, List.sum_nil]
    have := lanes a b c d e f g h ha hb hcc hd he hf hg hh _ _ _ rfl rfl rfl
    rw [this]
end Pop
end Go.Proofs.Ytmdemfbkdbilpaa
