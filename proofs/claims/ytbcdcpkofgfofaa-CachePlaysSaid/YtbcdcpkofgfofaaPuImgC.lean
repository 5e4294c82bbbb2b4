/-
  Images in plain words: what Open answers. No condition.
-/
import Derived.Test.YtbcdcpkofgfofaaPuImgA
namespace Go.Proofs.Ytbcdcpkofgfofaa
open Go Go.Gol
set_option linter.unusedVariables false
set_option linter.unusedSimpArgs false
set_option maxRecDepth 100000
namespace Img
open Crc Page
/-! ### the pages -/
def pgAt (B : List B8) (i : Nat) : List B8 := (B.drop (264 * i)).take 264
def pgOk (B : List B8) (i : Nat) : Prop := put ((pgAt B i).take 260) = pgAt B i ∧ num (pgAt B i) = i
instance (B : List B8) (i : Nat) : Decidable (pgOk B i) := inferInstanceAs (Decidable (_ ∧ _))
theorem pgAt_len {B : List B8} {n i : Nat} (hB : B.length = 264 * n) (hi : i < n) : (pgAt B i).length = 264 := by
  unfold pgAt; rw [List.length_take, List.length_drop]; omega
/-- what the pages from i on hold -/
def held (B : List B8) (n i : Nat) : List (List B8) := (List.range (n - i)).map fun j => (pgAt B (i + j)).take 256
theorem held_cons {B : List B8} {n i : Nat} (h : i < n) : held B n i = (pgAt B i).take 256 :: held B n (i + 1) := by
  obtain ⟨m, hm⟩ : ∃ m, n - i = m + 1 := ⟨n - i - 1, by omega⟩
  unfold held
  rw [hm, List.range_succ_eq_map, List.map_cons, List.map_map, show n - (i + 1) = m by omega]
  congr 1
  refine List.map_congr_left fun j _ => ?_
  simp only [Function.comp_def]
  rw [show i + (j + 1) = i + 1 + j by omega]
theorem get_ok {B : List B8} {n i : Nat} (hB : B.length = 264 * n) (hi : i < n) (hn : n ≤ 4096) :
    ∃ a b e, page_Get.f ((pgAt B i).map ub) = some (a, b, e) ∧ ((pgOk B i ∧ a = (i : Int) ∧ b = ((pgAt B i).take 256).map ub ∧ e = 0) ∨ (¬ pgOk B i ∧ (e ≠ 0 ∨ a ≠ (i : Int)))) := by
  have hl := pgAt_len hB hi
  rw [get_f (pgAt B i) (by omega)]
  unfold getR
  rw [if_neg (by omega), if_neg (by omega)]
  by_cases h1 : put ((pgAt B i).take 260) = pgAt B i
  · rw [if_pos h1]
    by_cases h2 : num (pgAt B i) ≥ 4096
    · rw [if_pos h2]
      exact ⟨_, _, _, rfl, .inr ⟨fun h => by have := h.2; omega, .inl (by decide)⟩⟩
    · rw [if_neg h2]
      by_cases h3 : num (pgAt B i) = i
      · exact ⟨_, _, _, rfl, .inl ⟨⟨h1, h3⟩, by rw [h3], rfl, rfl⟩⟩
      · exact ⟨_, _, _, rfl, .inr ⟨fun h => h3 h.2, .inr (by omega)⟩⟩
  · rw [if_neg h1]
    exact ⟨_, _, _, rfl, .inr ⟨fun h => h1 h.1, .inl (by decide)⟩⟩
theorem map_page (B : List B8) (i : Nat) : ((B.map ub).drop (264 * i)).take 264 = (pgAt B i).map ub := by unfold pgAt; rw [← List.map_drop, ← List.map_take]
theorem open_l1 {B : List B8} {n : Nat} (hB : B.length = 264 * n) (hn : n ≤ 4096) : ∀ (m k i : Nat) (acc : List (List Int)), n - i = m → m < k → i ≤ n → acc.length = i →
    ((∀ j, i ≤ j → j < n → pgOk B j) ∧ image_Open.l1 (B.map ub) k (264 * i) (acc, [], []) = some (.inl (acc ++ (held B n i).map (·.map ub), [], []))) ∨
    ((∃ j, i ≤ j ∧ j < n ∧ ¬ pgOk B j) ∧ ∃ z, image_Open.l1 (B.map ub) k (264 * i) (acc, [], []) = some (.inr (z, 10))) := by
  intro m
  induction m with
  | zero => intro k i acc hm hk hi ha; cases k with
    | zero => omega
    | succ k =>
      have e : i = n := by omega
      left
      refine ⟨fun j h1 h2 => by omega, ?_⟩
      rw [image_Open.l1, if_neg (by rw [List.length_map]; omega), e]
      simp [held]
  | succ m ih => intro k i acc hm hk hi ha; cases k with
    | zero => omega
    | succ k =>
      have hil : i < n := by omega
      obtain ⟨a, b, e, hg, hc⟩ := get_ok hB hil hn
      have e1 : image_Open.l1 (B.map ub) (k + 1) (264 * i) (acc, [], []) = if (e != 0) = true then some (.inr ((acc, [], []), 10)) else if (a != (acc.length : Int)) = true then some (.inr ((acc, [], []), 10)) else (app? 5864062014805 acc [b]).bind fun y => image_Open.l1 (B.map ub) k (264 * i + 264) (y, [], []) := by
        rw [image_Open.l1, if_pos (by rw [List.length_map]; omega), map_page, hg]; rfl
      rw [e1]
      rcases hc with ⟨h1, rfl, rfl, rfl⟩ | ⟨h1, h2⟩
      · rw [if_neg (by simp), if_neg (by simp [ha]), app?_eq (by simp; omega), Option.bind_some, show 264 * i + 264 = 264 * (i + 1) by omega]
        rcases ih k (i + 1) (acc ++ [((pgAt B i).take 256).map ub]) (by omega) (by omega) (by omega) (by simp; omega) with ⟨g1, g2⟩ | ⟨⟨j, g1, g2, g3⟩, g4⟩
        · left
          refine ⟨fun j h3 h4 => ?_, ?_⟩
          · by_cases hj : j = i
            · rw [hj]; exact h1
            · exact g1 j (by omega) h4
          · rw [g2, held_cons hil, List.append_assoc]; rfl
        · right
          exact ⟨⟨j, by omega, g2, g3⟩, g4⟩
      · right
        refine ⟨⟨i, Nat.le_refl _, hil, h1⟩, (acc, [], []), ?_⟩
        by_cases he : e = 0
        · rw [if_neg (by simp [he]), if_pos (by rw [ha]; simpa using h2.resolve_left (fun h => h he))]
        · rw [if_pos (by simpa using he)]
/-! ### the head -/
def cnt (P : List B8) : Nat := (P.getD 4 0#8).toNat + 256 * (P.getD 5 0#8).toNat
def szAt (P : List B8) (i : Nat) : Nat := (P.getD (6 + 4 * i) 0#8).toNat + 256 * ((P.getD (6 + 4 * i + 1) 0#8).toNat + 256 * ((P.getD (6 + 4 * i + 2) 0#8).toNat + 256 * (P.getD (6 + 4 * i + 3) 0#8).toNat))
def sizes (P : List B8) : List Nat := (List.range (cnt P)).map (szAt P)
theorem szAt_lt (P : List B8) (i : Nat) : szAt P i < 4294967296 := by
  unfold szAt
  have h1 := (P.getD (6 + 4 * i) 0#8).isLt
  have h2 := (P.getD (6 + 4 * i + 1) 0#8).isLt
  have h3 := (P.getD (6 + 4 * i + 2) 0#8).isLt
  have h4 := (P.getD (6 + 4 * i + 3) 0#8).isLt
  omega
theorem or_high (x v k : Nat) (hx : x < 2 ^ k) (hk : k ≤ 24) (hv : v < 256) : ior .i64 (x : Int) (ishl .i64 (wi (v : Int)) (k : Int)) = ((x + 2 ^ k * v : Nat) : Int) := by
  have h2 : 2 ^ k ≤ 16777216 := Nat.pow_le_pow_right (n := 2) (by omega) hk
  have h3 : 2 ^ k * v ≤ 16777216 * 255 := Nat.mul_le_mul h2 (by omega)
  have e1 : ishl .i64 (wi (v : Int)) (k : Int) = ((2 ^ k * v : Nat) : Int) := by
    unfold ishl
    rw [wi_eq (by omega) (by omega), Int.toNat_natCast, show min k (IntKind.bits .i64) = k from by show min k 64 = k; omega]
    show wi _ = _
    have : (v : Int) * 2 ^ k = ((2 ^ k * v : Nat) : Int) := by rw [Int.natCast_mul, Int.natCast_pow, Int.mul_comm]; rfl
    rw [this]
    generalize 2 ^ k * v = q at *
    exact wi_eq (by omega) (by omega)
  rw [e1]
  show IntKind.wrap .i64 ((BitVec.ofInt 64 _ ||| BitVec.ofInt 64 _ : BitVec 64).toNat : Int) = _
  have e : ∀ z : Nat, z < 9223372036854775808 → BitVec.ofInt 64 (z : Int) = BitVec.ofNat 64 z := fun z hz => by apply BitVec.eq_of_toNat_eq; simp
  have hq : 2 ^ k * v < 9223372036854775808 := by omega
  rw [e _ (by omega), e _ hq, BitVec.toNat_or]
  simp only [BitVec.toNat_ofNat]
  rw [Nat.mod_eq_of_lt (by omega), Nat.mod_eq_of_lt (by omega), Nat.or_comm, ← Nat.two_pow_add_eq_or_of_lt hx, Nat.add_comm]
  generalize 2 ^ k * v = q at *
  exact wi_eq (by omega) (by omega)
theorem head_l2 {P : List B8} (hP : P.length = 256) {i : Nat} (hi : i < 60) (k : Nat) : image_Image_head.l2 (P.map ub) (i : Int) (k + 5) 0 0 = some ((szAt P i : Nat) : Int) := by
  have b : ∀ j, (P.getD j 0#8).toNat < 256 := fun j => (P.getD j 0#8).isLt
  have ix : ∀ j : Nat, j < 4 → wi (wi (6 + wi (4 * (i : Int))) + (j : Int)) = ((6 + 4 * i + j : Nat) : Int) := fun j hj => by
    rw [wi_eq (n := 4 * (i : Int)) (by omega) (by omega), wi_eq (n := 6 + 4 * (i : Int)) (by omega) (by omega), wi_eq (by omega) (by omega)]; omega
  have st : ∀ (k j x : Nat), j < 4 → x < 2 ^ (8 * j) → image_Image_head.l2 (P.map ub) (i : Int) (k + 1) (x : Int) (j : Int) = image_Image_head.l2 (P.map ub) (i : Int) k ((x + 2 ^ (8 * j) * (P.getD (6 + 4 * i + j) 0#8).toNat : Nat) : Int) ((j + 1 : Nat) : Int) := fun k j x hj hx => by
    rw [image_Image_head.l2, if_pos (by rw [decide_eq_true_eq]; omega), ix j hj, atu (by omega), Option.bind_some, chk?_eq (by rw [decide_eq_true_eq, wi_eq (by omega) (by omega)]; omega), Option.bind_some, wi_eq (n := 8 * (j : Int)) (by omega) (by omega), show (8 * (j : Int)) = ((8 * j : Nat) : Int) by omega, or_high x _ (8 * j) hx (by omega) (b _), wi_eq (by omega) (by omega)]
    congr 1
  have h0 := b (6 + 4 * i)
  have h1 := b (6 + 4 * i + 1)
  have h2 := b (6 + 4 * i + 2)
  have h3 := b (6 + 4 * i + 3)
  have s0 := st (k + 4) 0 0 (by omega) (by decide)
  have s1 := st (k + 3) 1 ((P.getD (6 + 4 * i) 0#8).toNat) (by omega) (by simpa using h0)
  have s2 := st (k + 2) 2 ((P.getD (6 + 4 * i) 0#8).toNat + 256 * (P.getD (6 + 4 * i + 1) 0#8).toNat) (by omega) (by show _ < 65536; omega)
  have s3 := st (k + 1) 3 ((P.getD (6 + 4 * i) 0#8).toNat + 256 * (P.getD (6 + 4 * i + 1) 0#8).toNat + 65536 * (P.getD (6 + 4 * i + 2) 0#8).toNat) (by omega) (by show _ < 16777216; omega)
  simp only [Nat.mul_zero, Nat.pow_zero, Nat.zero_add, Nat.one_mul, Nat.add_zero, Nat.mul_one, show 2 ^ 8 = 256 from rfl, show 2 ^ (8 * 2) = 65536 from rfl, show 2 ^ (8 * 3) = 16777216 from rfl, Nat.reduceAdd] at s0 s1 s2 s3
  rw [show (0 : Int) = ((0 : Nat) : Int) from rfl, s0, s1, s2, s3, image_Image_head.l2, if_neg (by decide)]
  congr 2
  unfold szAt; omega
theorem head_l1 {P : List B8} (hP : P.length = 256) (hc : cnt P ≤ 60) : ∀ (m k i : Nat) (acc : List Int), cnt P - i = m → m < k → i ≤ cnt P → acc.length = i →
    image_Image_head.l1 (P.map ub) (((P.getD 4 0#8).toNat : Nat) : Int) (((P.getD 5 0#8).toNat : Nat) : Int) k (i : Int) acc = some (acc ++ ints ((sizes P).drop i)) := by
  have h4 := (P.getD 4 0#8).isLt
  have h5 := (P.getD 5 0#8).isLt
  have hcnt : ior .i64 (wi (((P.getD 4 0#8).toNat : Nat) : Int)) (ishl .i64 (wi (((P.getD 5 0#8).toNat : Nat) : Int)) 8) = ((cnt P : Nat) : Int) := by
    have := or_high (P.getD 4 0#8).toNat (P.getD 5 0#8).toNat 8 (by show _ < 256; omega) (by omega) (by omega)
    rw [wi_eq (n := (((P.getD 4 0#8).toNat : Nat) : Int)) (by omega) (by omega)]
    exact this
  have hlen : (sizes P).length = cnt P := by simp [sizes]
  intro m
  induction m with
  | zero => intro k i acc hm hk hi ha; cases k with
    | zero => omega
    | succ k =>
      rw [image_Image_head.l1, hcnt, if_neg (by rw [decide_eq_true_eq]; omega), List.drop_of_length_le (by omega)]
      simp
  | succ m ih => intro k i acc hm hk hi ha; cases k with
    | zero => omega
    | succ k =>
      have hil : i < cnt P := by omega
      have h2 := head_l2 hP (i := i) (by omega) 4611686018427387899
      rw [image_Image_head.l1, hcnt, if_pos (by rw [decide_eq_true_eq]; omega), show (FU : Nat) = 4611686018427387899 + 5 from rfl, h2, Option.bind_some, app?_eq (by simp; omega), Option.bind_some, wi_eq (by omega) (by omega), show ((i : Int) + 1) = ((i + 1 : Nat) : Int) by omega, ih k (i + 1) _ (by omega) (by omega) (by omega) (by simp; omega)]
      have hd : (sizes P).drop i = szAt P i :: (sizes P).drop (i + 1) := by
        rw [List.drop_eq_getElem_cons (by omega)]
        simp [sizes]
      rw [hd, List.append_assoc]; rfl
abbrev Obj3 := List (List Int) × List Int × List Int
/-- is it a head for so many pages? -/
def hdOk (P : List B8) (n : Nat) : Prop := P.take 4 = colo ∧ cnt P ≤ 60 ∧ 1 + totZ (sizes P) = n
theorem head_f {P : List B8} (hP : P.length = 256) {rows : List (List Int)} (hr : rows[0]? = some (P.map ub)) (hn : rows.length ≤ 4096) :
    (hdOk P rows.length ∧ image_Image_head.f (rows, [], []) = some (true, (rows, ints (sizes P), ints (firsts 1 (sizes P))))) ∨ (¬ hdOk P rows.length ∧ ∃ o, image_Image_head.f (rows, [], []) = some (false, o)) := by
  have h4 := (P.getD 4 0#8).isLt
  have h5 := (P.getD 5 0#8).isLt
  have hcnt : ior .i64 (wi (((P.getD 4 0#8).toNat : Nat) : Int)) (ishl .i64 (wi (((P.getD 5 0#8).toNat : Nat) : Int)) 8) = ((cnt P : Nat) : Int) := by
    have := or_high (P.getD 4 0#8).toNat (P.getD 5 0#8).toNat 8 (by show _ < 256; omega) (by omega) (by omega)
    rw [wi_eq (n := (((P.getD 4 0#8).toNat : Nat) : Int)) (by omega) (by omega)]
    exact this
  have a4 : at? (P.map ub) 4 = some (((P.getD 4 0#8).toNat : Nat) : Int) := atu (i := 4) (by omega)
  have a5 : at? (P.map ub) 5 = some (((P.getD 5 0#8).toNat : Nat) : Int) := atu (i := 5) (by omega)
  have hcolo : ((bs ((P.take 4).map ub)).toList == (⟨#[99, 111, 108, 111]⟩ : ByteArray).toList) = decide (P.take 4 = colo) := by
    have := bs_beq (P.take 4) colo
    rw [← this]; rfl
  have s4 : sub? (P.map ub) 0 4 = some ((P.take 4).map ub) := by
    have := sub?_pre (P.map ub) (b := 4) (by rw [List.length_map]; omega)
    rw [← List.map_take] at this; exact this
  unfold image_Image_head.f
  rw [show at? (rows, ([] : List Int), ([] : List Int)).1 0 = some (P.map ub) from by rw [show (0 : Int) = ((0 : Nat) : Int) from rfl, at?_nat]; exact hr, Option.bind_some, a4, Option.bind_some, a5, Option.bind_some, s4, Option.bind_some, hcolo, hcnt]
  by_cases g1 : P.take 4 = colo
  · rw [if_neg (by simpa using g1)]
    by_cases g2 : cnt P > 60
    · right
      rw [if_pos (by rw [decide_eq_true_eq]; omega)]
      exact ⟨fun h => by have := h.2.1; omega, _, rfl⟩
    · rw [if_neg (by rw [decide_eq_true_eq]; omega)]
      have h1 := head_l1 hP (by omega) (cnt P) FU 0 [] (by omega) (by show cnt P < 4611686018427387904; omega) (by omega) rfl
      rw [show ((0 : Nat) : Int) = 0 from rfl, List.drop_zero, List.nil_append] at h1
      simp only []
      rw [h1, Option.bind_some]
      rcases plan_f (sizes P) (fun z hz => by
        unfold sizes at hz
        obtain ⟨i, _, rfl⟩ := List.mem_map.1 hz
        exact szAt_lt P i) (by simp [sizes]; omega) with ⟨p1, p2⟩ | ⟨p1, z, p2, p3⟩
      · rw [p2, Option.bind_some]
        by_cases g3 : 1 + totZ (sizes P) = rows.length
        · left
          refine ⟨⟨g1, by omega, g3⟩, ?_⟩
          have : ((((1 + totZ (sizes P) : Nat) : Int)) == (rows.length : Int)) = true := by rw [beq_iff_eq]; omega
          simp only []
          rw [this]
        · right
          refine ⟨fun h => g3 h.2.2, (rows, ints (sizes P), ints (firsts 1 (sizes P))), ?_⟩
          have : ((((1 + totZ (sizes P) : Nat) : Int)) == (rows.length : Int)) = false := by rw [beq_eq_false_iff_ne]; omega
          simp only []
          rw [this]
      · right
        rw [p3, Option.bind_some]
        refine ⟨fun h => by have := h.2.2; omega, (rows, ints (sizes P), []), ?_⟩
        have : (z == (rows.length : Int)) = false := by rw [beq_eq_false_iff_ne]; omega
        simp only []
        rw [this]
  · right
    rw [if_pos (by simpa using g1)]
    exact ⟨fun h => g1 h.1, _, rfl⟩
/-! ### sections out of pages -/
/-- a section out of what pages hold -/
def secAt (R : List (List B8)) (a z : Nat) : List B8 := (((R.drop a).take (many z)).flatten).take z
theorem concat_l1 (X : List (List B8)) (hX : ∀ x ∈ X, x.length ≤ 256) (hl : X.length ≤ 5000) : ∀ (m k i : Nat) (a : Nat), X.length - i = m → m < k → i ≤ X.length → a ≤ 256 * i →
    slices_Concat.l1 (X.map (·.map ub)) k (a : Int) (i : Int) = some (((a + ((X.drop i).flatten).length : Nat)) : Int) := by
  intro m
  induction m with
  | zero => intro k i a hm hk hi ha; cases k with
    | zero => omega
    | succ k =>
      rw [slices_Concat.l1, if_neg (by rw [decide_eq_true_eq, List.length_map]; omega), List.drop_of_length_le (by omega)]; rfl
  | succ m ih => intro k i a hm hk hi ha; cases k with
    | zero => omega
    | succ k =>
      have hil : i < X.length := by omega
      have hx := hX _ (List.getElem_mem hil)
      rw [slices_Concat.l1, if_pos (by rw [decide_eq_true_eq, List.length_map]; omega), at_sec hil, Option.bind_some, List.length_map, wi_eq (n := (a : Int) + _) (by omega) (by omega), if_neg (by rw [decide_eq_true_eq]; omega), wi_eq (by omega) (by omega), show ((i : Int) + 1) = ((i + 1 : Nat) : Int) by omega, show ((a : Int) + (X[i].length : Int)) = ((a + X[i].length : Nat) : Int) by omega, ih k (i + 1) (a + X[i].length) (by omega) (by omega) (by omega) (by omega), List.drop_eq_getElem_cons hil, List.flatten_cons, List.length_append, Nat.add_assoc]
theorem flat_le (X : List (List B8)) (hX : ∀ x ∈ X, x.length ≤ 256) : X.flatten.length ≤ 256 * X.length := by
  induction X with
  | nil => simp
  | cons x X ih =>
    have := hX x List.mem_cons_self
    have := ih (fun y hy => hX y (List.mem_cons_of_mem _ hy))
    rw [List.flatten_cons, List.length_append, List.length_cons]; omega
theorem concat_l2 (X : List (List B8)) (hX : ∀ x ∈ X, x.length ≤ 256) (hl : X.length ≤ 5000) : ∀ (m k i : Nat) (out : List B8), X.length - i = m → m < k → i ≤ X.length → out.length ≤ 256 * i →
    slices_Concat.l2 (X.map (·.map ub)) k (out.map ub) (i : Int) = some ((out ++ (X.drop i).flatten).map ub) := by
  intro m
  induction m with
  | zero => intro k i a hm hk hi ha; cases k with
    | zero => omega
    | succ k =>
      rw [slices_Concat.l2, if_neg (by rw [decide_eq_true_eq, List.length_map]; omega), List.drop_of_length_le (by omega)]; simp
  | succ m ih => intro k i out hm hk hi ha; cases k with
    | zero => omega
    | succ k =>
      have hil : i < X.length := by omega
      have hx := hX _ (List.getElem_mem hil)
      rw [slices_Concat.l2, if_pos (by rw [decide_eq_true_eq, List.length_map]; omega), at_sec hil, Option.bind_some, app?_eq (by rw [List.length_map, List.length_map]; omega), Option.bind_some, wi_eq (by omega) (by omega), show ((i : Int) + 1) = ((i + 1 : Nat) : Int) by omega, ← List.map_append, ih k (i + 1) _ (by omega) (by omega) (by omega) (by rw [List.length_append]; omega), List.drop_eq_getElem_cons hil, List.flatten_cons, List.append_assoc]
theorem concat_f (X : List (List B8)) (hX : ∀ x ∈ X, x.length ≤ 256) (hl : X.length ≤ 5000) : slices_Concat.f (X.map (·.map ub)) = some (X.flatten.map ub) := by
  unfold slices_Concat.f
  have h1 := concat_l1 X hX hl X.length FU 0 0 (by omega) (by show X.length < 4611686018427387904; omega) (by omega) (by omega)
  have h2 := concat_l2 X hX hl X.length FU 0 [] (by omega) (by show X.length < 4611686018427387904; omega) (by omega) (by simp)
  rw [show ((0 : Nat) : Int) = 0 from rfl, List.drop_zero, Nat.zero_add] at h1
  rw [show ((0 : Nat) : Int) = 0 from rfl, List.drop_zero, List.nil_append, show ([] : List B8).map ub = [] from rfl] at h2
  have := flat_le X hX
  rw [h1, Option.bind_some]
  unfold slices_Grow.f
  rw [if_pos (by omega), Option.bind_some, h2]; rfl
theorem firsts_get {Z : List Nat} : ∀ {i a : Nat}, i < Z.length → (firsts a Z)[i]? = some (a + totZ (Z.take i)) := by
  induction Z with
  | nil => intro i a h; simp at h
  | cons z Z ih =>
    intro i a h
    cases i with
    | zero => simp [firsts, totZ]
    | succ i =>
      rw [firsts, List.getElem?_cons_succ, ih (by simpa using h), List.take_succ_cons]
      simp [totZ, Nat.add_assoc]
theorem totZ_split (Z : List Nat) (i : Nat) : totZ Z = totZ (Z.take i) + totZ (Z.drop i) := by
  unfold totZ
  conv => lhs; rw [← List.take_append_drop i Z, List.map_append, List.sum_append]
theorem section_f {R : List (List B8)} {Z : List Nat} (hR : ∀ x ∈ R, x.length = 256) (hl : R.length ≤ 4096) (hZ : 1 + totZ Z = R.length) (hZl : Z.length ≤ 1000) {i : Nat} (hi : i < Z.length) :
    image_Image_Section.f (some (R.map (·.map ub), ints Z, ints (firsts 1 Z))) (i : Int) = some ((secAt R (1 + totZ (Z.take i)) Z[i]).map ub) := by
  have hs := totZ_split Z i
  rw [totZ_drop hi] at hs
  have hz256 : Z[i] ≤ 256 * many Z[i] := by unfold many; omega
  unfold image_Image_Section.f image_Image_has.f image_Image_Sections.f
  rw [if_pos (by rw [decide_eq_true_eq]; omega), Option.bind_some, Option.bind_some]
  simp only []
  rw [decide_eq_true (by rw [List.length_map]; omega)]
  simp only [Bool.not_true, Bool.false_eq_true, if_false, Option.bind_some]
  rw [at?_nat, List.getElem?_map, List.getElem?_eq_getElem hi, Option.map_some, Option.bind_some, many_f _ (by omega), Option.bind_some, at?_nat, List.getElem?_map, firsts_get hi, Option.map_some, Option.bind_some, wi_eq (by omega) (by omega), show (((1 + totZ (Z.take i) : Nat) : Int) + ((many Z[i] : Nat) : Int)) = ((1 + totZ (Z.take i) + many Z[i] : Nat) : Int) by omega, sub?_nat _ (by omega) (by rw [List.length_map]; omega), Option.bind_some, ← List.map_take, ← List.map_drop, List.drop_take, Nat.add_sub_cancel_left]
  have hx : ∀ x ∈ (R.drop (1 + totZ (Z.take i))).take (many Z[i]), x.length = 256 := fun x hx => hR x (List.mem_of_mem_drop (List.mem_of_mem_take hx))
  rw [concat_f _ (fun x h => by have := hx x h; omega) (by rw [List.length_take]; omega), Option.bind_some]
  have hfl : (((R.drop (1 + totZ (Z.take i))).take (many Z[i])).flatten).length = 256 * many Z[i] := by
    have e : ((R.drop (1 + totZ (Z.take i))).take (many Z[i])).length = many Z[i] := by rw [List.length_take, List.length_drop]; omega
    generalize (R.drop (1 + totZ (Z.take i))).take (many Z[i]) = X at *
    rw [← e]
    clear e
    induction X with
    | nil => rfl
    | cons x X ih => rw [List.flatten_cons, List.length_append, hx x List.mem_cons_self, ih (fun y hy => hx y (List.mem_cons_of_mem _ hy)), List.length_cons]; omega
  rw [sub?_pre _ (by rw [List.length_map, hfl]; exact hz256), Option.bind_some, ← List.map_take]; rfl
end Img
end Go.Proofs.Ytbcdcpkofgfofaa
