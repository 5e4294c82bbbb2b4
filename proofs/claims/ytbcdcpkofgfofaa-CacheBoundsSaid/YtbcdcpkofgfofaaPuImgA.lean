/-
  Images in plain words: what Build answers. No condition.
-/
import Derived.Test.YtbcdcpkofgfofaaPuPageK
namespace Go.Proofs.Ytbcdcpkofgfofaa
open Go Go.Gol
set_option linter.unusedVariables false
set_option linter.unusedSimpArgs false
set_option maxRecDepth 100000
namespace Img
open Crc Page
abbrev B8 := BitVec 8
def many (n : Nat) : Nat := (n + 255) / 256
/-- the parts of a section -/
def chs (s : List B8) : List (List B8) := (List.range (many s.length)).map fun i => (s.drop (256 * i)).take 256
theorem chs_len (s : List B8) : (chs s).length = many s.length := by simp [chs]
theorem chs_get {s : List B8} {i : Nat} (h : i < many s.length) : (chs s)[i]? = some ((s.drop (256 * i)).take 256) := by
  unfold chs; rw [List.getElem?_map, List.getElem?_range h]; rfl
theorem chs_drop {s : List B8} {i : Nat} (h : i < many s.length) : (chs s).drop i = (s.drop (256 * i)).take 256 :: (chs s).drop (i + 1) := by
  have hl : i < (chs s).length := by rw [chs_len]; exact h
  rw [List.drop_eq_getElem_cons hl]
  have := chs_get h
  rw [List.getElem?_eq_getElem hl] at this
  rw [Option.some.inj this]
/-- pages of contents, from a number on -/
def pgs : Nat → List (List B8) → List B8
  | _, [] => []
  | n, c :: cs => put (pg n c) ++ pgs (n + 1) cs
theorem pgs_append (n : Nat) (a b : List (List B8)) : pgs n (a ++ b) = pgs n a ++ pgs (n + a.length) b := by
  induction a generalizing n with
  | nil => rfl
  | cons c a ih => rw [List.cons_append, pgs, pgs, ih, List.append_assoc, List.length_cons, show n + 1 + a.length = n + (a.length + 1) by omega]
theorem pgs_len (n : Nat) (a : List (List B8)) (h : ∀ c ∈ a, c.length ≤ 256) : (pgs n a).length = 264 * a.length := by
  induction a generalizing n with
  | nil => rfl
  | cons c a ih =>
    rw [pgs, List.length_append, put_length, pg_len n c (h c List.mem_cons_self), ih _ (fun c hc => h c (List.mem_cons_of_mem _ hc)), List.length_cons]; omega
theorem chs_le (s : List B8) : ∀ c ∈ chs s, c.length ≤ 256 := fun c hc => by
  unfold chs at hc
  obtain ⟨i, _, rfl⟩ := List.mem_map.1 hc
  simp; omega
theorem map_chunk (s : List B8) (o : Nat) : ((s.map ub).drop o).take 256 = ((s.drop o).take 256).map ub := by rw [← List.map_drop, ← List.map_take]
theorem build_l3 (s : List B8) (hs : s.length ≤ 2000000) : ∀ (m k i n : Nat) (out : List B8), many s.length - i = m → m < k → i ≤ many s.length → n + m ≤ 4096 → out.length ≤ 264 * n →
    image_Build.l3 (s.map ub) k (256 * i) (out.map ub) (n : Int) = some ((out ++ pgs n ((chs s).drop i)).map ub, ((n + m : Nat) : Int)) := by
  intro m
  have hmany : many s.length = (s.length + 255) / 256 := rfl
  induction m with
  | zero => intro k i n out hm hk hi hn ho; cases k with
    | zero => omega
    | succ k =>
      have e : i = many s.length := by omega
      rw [image_Build.l3, if_neg (by rw [List.length_map]; omega), e, List.drop_of_length_le (by rw [chs_len]; omega)]
      simp [pgs]
  | succ m ih => intro k i n out hm hk hi hn ho; cases k with
    | zero => omega
    | succ k =>
      have hil : i < many s.length := by omega
      have hc : ((s.drop (256 * i)).take 256).length ≤ 256 := by simp; omega
      rw [image_Build.l3, if_pos (by rw [List.length_map]; omega), map_chunk, put_page n _ (by omega) hc, Option.bind_some]
      have hpl : (put (pg n ((s.drop (256 * i)).take 256))).length = 264 := by rw [put_length, pg_len n _ hc]
      simp only []
      rw [app?_eq (by rw [List.length_map, List.length_map, hpl]; omega), Option.bind_some, wi_eq (by omega) (by omega), show ((n : Int) + 1) = ((n + 1 : Nat) : Int) by omega, show 256 * i + 256 = 256 * (i + 1) by omega, ← List.map_append]
      rw [ih k (i + 1) (n + 1) _ (by omega) (by omega) (by omega) (by omega) (by rw [List.length_append, hpl]; omega), chs_drop hil, pgs, List.append_assoc]
      congr 3; omega
/-- pages of sections -/
def total (S : List (List B8)) : Nat := (S.map fun s => many s.length).sum
def cts (S : List (List B8)) : List (List B8) := (S.map chs).flatten
theorem cts_len (S : List (List B8)) : (cts S).length = total S := by
  unfold cts total
  rw [List.length_flatten, List.map_map]
  congr 1
  refine List.map_congr_left fun s _ => ?_
  simp [chs_len]
theorem total_drop {S : List (List B8)} {i : Nat} (h : i < S.length) : total (S.drop i) = many S[i].length + total (S.drop (i + 1)) := by
  unfold total; rw [List.drop_eq_getElem_cons h, List.map_cons, List.sum_cons]
theorem cts_drop {S : List (List B8)} {i : Nat} (h : i < S.length) : cts (S.drop i) = chs S[i] ++ cts (S.drop (i + 1)) := by
  unfold cts; rw [List.drop_eq_getElem_cons h, List.map_cons, List.flatten_cons]
theorem at_sec {S : List (List B8)} {i : Nat} (h : i < S.length) : at? (S.map (·.map ub)) (i : Int) = some (S[i].map ub) := by
  rw [at?_nat, List.getElem?_map, List.getElem?_eq_getElem h]; rfl
theorem build_l2 (S : List (List B8)) (hS : ∀ s ∈ S, s.length ≤ 2000000) (hl : S.length ≤ 1000) : ∀ (m k i n : Nat) (out : List B8), S.length - i = m → m < k → i ≤ S.length → n + total (S.drop i) ≤ 4096 → out.length ≤ 264 * n →
    image_Build.l2 (S.map (·.map ub)) k (i : Int) (out.map ub) (n : Int) = some ((out ++ pgs n (cts (S.drop i))).map ub, ((n + total (S.drop i) : Nat) : Int)) := by
  intro m
  induction m with
  | zero => intro k i n out hm hk hi hn ho; cases k with
    | zero => omega
    | succ k =>
      have e : i = S.length := by omega
      rw [image_Build.l2, if_neg (by rw [decide_eq_true_eq, List.length_map]; omega), e, List.drop_length]
      simp [pgs, cts, total]
  | succ m ih => intro k i n out hm hk hi hn ho; cases k with
    | zero => omega
    | succ k =>
      have hil : i < S.length := by omega
      have hsi := hS _ (List.getElem_mem hil)
      rw [total_drop hil] at hn
      rw [image_Build.l2, if_pos (by rw [decide_eq_true_eq, List.length_map]; omega), at_sec hil, Option.bind_some, chk?_eq (by rw [decide_eq_true_eq, List.length_map]; omega), Option.bind_some]
      have h3 := build_l3 S[i] hsi (many S[i].length) FU 0 n out (by omega) (by have : many S[i].length ≤ 8000 := by unfold many; omega
                                                                                show many S[i].length < 4611686018427387904; omega) (by omega) (by omega) ho
      rw [Nat.mul_zero, List.drop_zero] at h3
      have hfl : (out ++ pgs n (chs S[i])).length ≤ 264 * (n + many S[i].length) := by
        rw [List.length_append, pgs_len n _ (chs_le _), chs_len]; omega
      rw [h3, Option.bind_some]
      simp only []
      rw [wi_eq (by omega) (by omega), show ((i : Int) + 1) = ((i + 1 : Nat) : Int) by omega, ih k (i + 1) (n + many S[i].length) _ (by omega) (by omega) (by omega) (by omega) hfl, cts_drop hil, pgs_append, chs_len, List.append_assoc, total_drop hil]
      congr 3; omega
/-! ### the head -/
def le2 (n : Nat) : List B8 := [byteAt n 0, byteAt n 1]
def le4 (n : Nat) : List B8 := [byteAt n 0, byteAt n 1, byteAt n 2, byteAt n 3]
def colo : List B8 := [99#8, 111#8, 108#8, 111#8]
def hd (S : List (List B8)) : List B8 := colo ++ le2 S.length ++ (S.map fun s => le4 s.length).flatten
theorem hd_len (S : List (List B8)) : (hd S).length = 6 + 4 * S.length := by
  unfold hd
  have : ((S.map fun s => le4 s.length).flatten).length = 4 * S.length := by
    induction S with
    | nil => rfl
    | cons s S ih => rw [List.map_cons, List.flatten_cons, List.length_append, ih, List.length_cons]; simp [le4]; omega
  rw [List.length_append, List.length_append, this]; simp [colo, le2]
theorem little_l1 (v n : Nat) (hn : n ≤ 4) : ∀ (m k i : Nat) (out : List B8), n - i = m → m < k → i ≤ n → out = (List.range i).map (byteAt v) →
    image_little.l1 (v : Int) (n : Int) k (out.map ub) (i : Int) = some (((List.range n).map (byteAt v)).map ub) := by
  intro m
  induction m with
  | zero => intro k i out hm hk hi ho; cases k with
    | zero => omega
    | succ k =>
      have e : i = n := by omega
      rw [image_little.l1, if_neg (by rw [decide_eq_true_eq]; omega), ho, e]
  | succ m ih => intro k i out hm hk hi ho; cases k with
    | zero => omega
    | succ k =>
      have hol : out.length = i := by rw [ho]; simp
      rw [image_little.l1, if_pos (by rw [decide_eq_true_eq]; omega), chk?_eq (by rw [decide_eq_true_eq, wi_eq (by omega) (by omega)]; omega), Option.bind_some, byte_f v i (by omega), app?_eq (by simp; omega), Option.bind_some, wi_eq (by omega) (by omega), show ((i : Int) + 1) = ((i + 1 : Nat) : Int) by omega]
      have := ih k (i + 1) (out ++ [byteAt v i]) (by omega) (by omega) (by omega) (by rw [ho, List.range_succ, List.map_append]; rfl)
      rw [List.map_append] at this
      exact this
theorem little_f (v n : Nat) (hn : n ≤ 4) : image_little.f (v : Int) (n : Int) = some (((List.range n).map (byteAt v)).map ub) := by
  unfold image_little.f
  have := little_l1 v n hn n FU 0 [] (by omega) (by show n < 4611686018427387904; omega) (by omega) rfl
  rw [show ((0 : Nat) : Int) = 0 from rfl, show ([] : List B8).map ub = [] from rfl] at this
  rw [this]; rfl
theorem little2 (v : Nat) : image_little.f (v : Int) 2 = some ((le2 v).map ub) := little_f v 2 (by omega)
theorem little4 (v : Nat) : image_little.f (v : Int) 4 = some ((le4 v).map ub) := little_f v 4 (by omega)
theorem build_l1 (S : List (List B8)) (hS : ∀ s ∈ S, s.length ≤ 2000000) (hl : S.length ≤ 1000) : ∀ (m k i : Nat) (out : List B8) (sz : List Int), S.length - i = m → m < k → i ≤ S.length → out.length ≤ 10 + 4 * i → sz.length = i →
    image_Build.l1 (S.map (·.map ub)) k (out.map ub) sz (i : Int) = some ((out ++ ((S.drop i).map fun s => le4 s.length).flatten).map ub, sz ++ (S.drop i).map fun s => (s.length : Int)) := by
  intro m
  induction m with
  | zero => intro k i out sz hm hk hi ho hz; cases k with
    | zero => omega
    | succ k =>
      have e : i = S.length := by omega
      rw [image_Build.l1, if_neg (by rw [decide_eq_true_eq, List.length_map]; omega), e, List.drop_length]
      simp
  | succ m ih => intro k i out sz hm hk hi ho hz; cases k with
    | zero => omega
    | succ k =>
      have hil : i < S.length := by omega
      rw [image_Build.l1, if_pos (by rw [decide_eq_true_eq, List.length_map]; omega), at_sec hil, Option.bind_some, List.length_map, app?_eq (by simp; omega), Option.bind_some, little4, Option.bind_some, app?_eq (by simp [le4]; omega), Option.bind_some, wi_eq (by omega) (by omega), show ((i : Int) + 1) = ((i + 1 : Nat) : Int) by omega, ← List.map_append]
      rw [ih k (i + 1) _ _ (by omega) (by omega) (by omega) (by simp [le4]; omega) (by simp; omega), List.drop_eq_getElem_cons hil, List.map_cons, List.map_cons, List.flatten_cons, List.append_assoc, List.append_assoc]
      rfl
/-! ### the plan -/
def totZ (Z : List Nat) : Nat := (Z.map many).sum
def firsts : Nat → List Nat → List Nat
  | _, [] => []
  | a, z :: Z => a :: firsts (a + many z) Z
theorem many_f (n : Nat) (hn : n ≤ 4294967296) : page_Many.f (n : Int) = some ((many n : Nat) : Int) := by
  unfold page_Many.f many
  by_cases h : n = 0
  · subst h; rfl
  · rw [if_neg (by rw [decide_eq_true_eq]; omega), wi_eq (n := (n : Int) - 1) (by omega) (by omega), Int.tdiv_eq_ediv_of_nonneg (by omega), wi_eq (n := ((n : Int) - 1) / 256) (by omega) (by omega), wi_eq (by omega) (by omega)]
    congr 1; omega
theorem totZ_drop {Z : List Nat} {i : Nat} (h : i < Z.length) : totZ (Z.drop i) = many Z[i] + totZ (Z.drop (i + 1)) := by
  unfold totZ; rw [List.drop_eq_getElem_cons h, List.map_cons, List.sum_cons]
theorem firsts_drop {Z : List Nat} {i : Nat} (a : Nat) (h : i < Z.length) : firsts a (Z.drop i) = a :: firsts (a + many Z[i]) (Z.drop (i + 1)) := by
  rw [List.drop_eq_getElem_cons h, firsts]
abbrev ints (Z : List Nat) : List Int := Z.map (fun (z : Nat) => (z : Int))
theorem plan_l1 (Z : List Nat) (hZ : ∀ z ∈ Z, z < 4294967296) (hl : Z.length ≤ 1000) : ∀ (m k i a : Nat) (acc : List Int), Z.length - i = m → m < k → i ≤ Z.length → a ≤ 4096 → acc.length = i →
    (a + totZ (Z.drop i) ≤ 4096 ∧ image_plan.l1 (ints Z) k (a : Int) acc (i : Int) = some (.inr (((a + totZ (Z.drop i) : Nat) : Int), acc ++ ints (firsts a (Z.drop i))))) ∨
    (4096 < a + totZ (Z.drop i) ∧ ∃ z : Int, z > 4096 ∧ image_plan.l1 (ints Z) k (a : Int) acc (i : Int) = some (.inl ([], z))) := by
  intro m
  induction m with
  | zero => intro k i a acc hm hk hi ha hz; cases k with
    | zero => omega
    | succ k =>
      have e : i = Z.length := by omega
      left
      rw [image_plan.l1, if_neg (by rw [decide_eq_true_eq, List.length_map]; omega), e, List.drop_length]
      refine ⟨ha, ?_⟩
      simp [totZ, firsts]
  | succ m ih => intro k i a acc hm hk hi ha hz; cases k with
    | zero => omega
    | succ k =>
      have hil : i < Z.length := by omega
      have hzi := hZ _ (List.getElem_mem hil)
      have hmz : many Z[i] ≤ 16777216 := by unfold many; omega
      have e1 : image_plan.l1 (ints Z) (k + 1) (a : Int) acc (i : Int) = if a + many Z[i] > 4096 then some (.inl ([], ((a + many Z[i] : Nat) : Int))) else image_plan.l1 (ints Z) k ((a + many Z[i] : Nat) : Int) (acc ++ [(a : Int)]) ((i + 1 : Nat) : Int) := by
        rw [image_plan.l1, if_pos (by rw [decide_eq_true_eq, List.length_map]; omega), at?_nat, List.getElem?_map, List.getElem?_eq_getElem hil, Option.map_some, Option.bind_some, app?_eq (by simp; omega), Option.bind_some, many_f _ (by omega), Option.bind_some, wi_eq (by omega) (by omega), wi_eq (by omega) (by omega), show ((i : Int) + 1) = ((i + 1 : Nat) : Int) by omega, show ((a : Int) + (many Z[i] : Int)) = ((a + many Z[i] : Nat) : Int) by omega]
        by_cases h : a + many Z[i] > 4096
        · rw [if_pos h, if_pos (by rw [decide_eq_true_eq]; omega)]
        · rw [if_neg h, if_neg (by rw [decide_eq_true_eq]; omega)]
      rw [totZ_drop hil, e1]
      by_cases h : a + many Z[i] > 4096
      · right
        rw [if_pos h]
        exact ⟨by omega, _, by omega, rfl⟩
      · rw [if_neg h]
        rcases ih k (i + 1) (a + many Z[i]) (acc ++ [(a : Int)]) (by omega) (by omega) (by omega) (by omega) (by simp; omega) with ⟨g1, g2⟩ | ⟨g1, g2⟩
        · left
          refine ⟨by omega, ?_⟩
          rw [g2, firsts_drop a hil, show a + many Z[i] + totZ (Z.drop (i + 1)) = a + (many Z[i] + totZ (Z.drop (i + 1))) by omega, List.append_assoc]; rfl
        · right
          exact ⟨by omega, g2⟩
theorem plan_f (Z : List Nat) (hZ : ∀ z ∈ Z, z < 4294967296) (hl : Z.length ≤ 1000) :
    (1 + totZ Z ≤ 4096 ∧ image_plan.f (ints Z) = some (ints (firsts 1 Z), ((1 + totZ Z : Nat) : Int))) ∨ (4096 < 1 + totZ Z ∧ ∃ z : Int, z > 4096 ∧ image_plan.f (ints Z) = some ([], z)) := by
  unfold image_plan.f
  have := plan_l1 Z hZ hl Z.length FU 0 1 [] (by omega) (by show Z.length < 4611686018427387904; omega) (by omega) (by omega) rfl
  rw [List.drop_zero, show ((0 : Nat) : Int) = 0 from rfl, show ((1 : Nat) : Int) = 1 from rfl] at this
  rcases this with ⟨h1, h2⟩ | ⟨h1, z, h2, h3⟩
  · left
    refine ⟨h1, ?_⟩
    rw [h2]; rfl
  · right
    refine ⟨h1, z, h2, ?_⟩
    rw [h3]; rfl
/-! ### Build -/
def lens (S : List (List B8)) : List Nat := S.map (·.length)
theorem totZ_lens (S : List (List B8)) : totZ (lens S) = total S := by unfold totZ lens total; rw [List.map_map]; rfl
def cont (S : List (List B8)) : List (List B8) := hd S :: cts S
def img (S : List (List B8)) : List B8 := pgs 0 (cont S)
/-- sections that can be an image -/
def Valid (S : List (List B8)) : Prop := S.length ≤ 60 ∧ 1 + total S ≤ 4096
instance (S : List (List B8)) : Decidable (Valid S) := inferInstanceAs (Decidable (_ ∧ _))
theorem build_f (S : List (List B8)) (hS : ∀ s ∈ S, s.length ≤ 2000000) : image_Build.f (S.map (·.map ub)) = some (if Valid S then ((img S).map ub, 0) else ([], 80)) := by
  unfold image_Build.f
  by_cases h60 : S.length > 60
  · rw [if_pos (by rw [decide_eq_true_eq, List.length_map]; omega), if_neg (fun h => by have := h.1; omega)]
  rw [if_neg (by rw [decide_eq_true_eq, List.length_map]; omega), List.length_map, little2, Option.bind_some, chk?_eq (by rw [decide_eq_true_eq, List.length_map]; simp [le2]), Option.bind_some, show ([99, 111, 108, 111] : List Int) = colo.map ub from rfl, app?_eq (by simp [colo, le2]), Option.bind_some, ← List.map_append]
  have h1 := build_l1 S hS (by omega) S.length FU 0 (colo ++ le2 S.length) [] (by omega) (by show S.length < 4611686018427387904; omega) (by omega) (by simp [colo, le2]) rfl
  rw [show ((0 : Nat) : Int) = 0 from rfl, List.drop_zero, List.nil_append] at h1
  rw [h1, Option.bind_some]
  have hlens : (S.map fun s => (s.length : Int)) = ints (lens S) := by unfold ints lens; rw [List.map_map]; rfl
  simp only []
  rw [hlens]
  have hz : ∀ z ∈ lens S, z < 4294967296 := fun z hz => by
    unfold lens at hz
    obtain ⟨s, hs, rfl⟩ := List.mem_map.1 hz
    have := hS s hs; omega
  rcases plan_f (lens S) hz (by unfold lens; rw [List.length_map]; omega) with ⟨g1, g2⟩ | ⟨g1, z, g2, g3⟩
  · rw [totZ_lens] at g1 g2
    have hd256 : (hd S).length ≤ 256 := by rw [hd_len]; omega
    have hpl : (put (pg 0 (hd S))).length = 264 := by rw [put_length, pg_len 0 _ hd256]
    have hput := put_page 0 (hd S) (by omega) hd256
    rw [show ((0 : Nat) : Int) = 0 from rfl] at hput
    rw [g2, Option.bind_some, if_neg (by rw [decide_eq_true_eq]; simp only []; omega)]
    show (page_Put.f 0 ((hd S).map ub)).bind _ = _
    rw [hput, Option.bind_some]
    have h2 := build_l2 S hS (by omega) S.length FU 0 1 (put (pg 0 (hd S))) (by omega) (by show S.length < 4611686018427387904; omega) (by omega) (by rw [List.drop_zero]; omega) (by omega)
    rw [show ((0 : Nat) : Int) = 0 from rfl, show ((1 : Nat) : Int) = 1 from rfl, List.drop_zero] at h2
    simp only []
    rw [h2, Option.bind_some, if_pos ⟨by omega, g1⟩]
    rfl
  · rw [totZ_lens] at g1
    rw [g3, Option.bind_some, if_pos (by rw [decide_eq_true_eq]; exact g2), if_neg (fun h => by have := h.2; omega)]
end Img
end Go.Proofs.Ytbcdcpkofgfofaa
