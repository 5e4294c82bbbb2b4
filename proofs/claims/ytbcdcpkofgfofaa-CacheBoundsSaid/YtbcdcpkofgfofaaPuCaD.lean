/-
  Caches in plain words: Drop, Has, Stats; who is held; how many. No condition.
-/
import Derived.Test.YtbcdcpkofgfofaaPuCaC
namespace Go.Proofs.Ytbcdcpkofgfofaa
open Go Go.Gol
set_option linter.unusedVariables false
set_option linter.unusedSimpArgs false
set_option maxRecDepth 100000
namespace Ca
open Crc Page Img
def Dropped (c c' : Cx) (n : Int) (r : Bool) : Prop := c'.1 = c.1 ∧ c'.2.2.2.1 = c.2.2.2.1 ∧ c'.2.2.2.2 = c.2.2.2.2 ∧
  ((r = true ∧ 0 ≤ n ∧ ∃ i e, (es c)[i]? = some e ∧ e.1 = n ∧ 0 < e.2.2 ∧ es c' = (es c).set i (n, e.2.1, e.2.2 - 1)) ∨
   (r = false ∧ c' = c ∧ (n < 0 ∨ ∀ e ∈ es c, e.1 = n → e.2.2 = 0)))
theorem drop_spec {N K T : Nat} {c : Cx} (I : Inv N K T c) (hT : T ≤ 1000000) (N1 n : Int) :
    ∃ r c', cache_Cache_Drop.f c n = some (r, c') ∧ colophonref07_Cache_Drop.f (prj N1 c) n = some (r, prj N1 c') ∧ Inv N K (T + 1) c' ∧ Dropped c c' n r := by
  have hk := I.k2
  have hl := I.len
  obtain ⟨ha0, ha1⟩ := I.ha
  obtain ⟨hb0, hb1⟩ := I.hb
  by_cases h0 : n < 0
  · refine ⟨false, c, ?_, ?_, I.up, rfl, rfl, rfl, .inr ⟨rfl, rfl, .inl h0⟩⟩
    · unfold cache_Cache_Drop.f; rw [if_pos (by rw [decide_eq_true_eq]; exact h0)]
    · unfold colophonref07_Cache_Drop.f; rw [if_pos (by rw [decide_eq_true_eq]; exact h0)]
  rcases at_spec I n with ⟨i, f, a1, a2, a3, a4⟩ | ⟨a1, a3, a4⟩
  · have hil := lt_of_get a1
    have hfm : f ∈ c.2.1 := List.mem_of_getElem? a1
    have hfd := I.hd _ (es_mem hfm)
    have hfd1 : 0 ≤ f.2.2.2 := hfd.1
    have hfd2 : f.2.2.2 ≤ (T : Int) := hfd.2
    have hat : at? c.2.1 (i : Int) = some f := by rw [at?_nat]; exact a1
    have hatr : at? (prj N1 c).2.1 (i : Int) = some (pr f) := by show at? (c.2.1.map pr) (i : Int) = _; rw [at?_nat, List.getElem?_map, a1]; rfl
    have hra : colophonref07_Cache_at.f (some (prj N1 c)) n = some (i : Int) := by rw [rat_spec I, a3]; rfl
    have hra' : colophonref07_Cache_at.f (some ((prj N1 c).1, (prj N1 c).2.1, (prj N1 c).2.2.1, (prj N1 c).2.2.2.1, (prj N1 c).2.2.2.2)) n = some (i : Int) := hra
    by_cases hz : f.2.2.2 = 0
    · refine ⟨false, c, ?_, ?_, I.up, rfl, rfl, rfl, .inr ⟨rfl, rfl, .inr (fun e he hen => ?_)⟩⟩
      · unfold cache_Cache_Drop.f
        rw [if_neg (by rw [decide_eq_true_eq]; exact h0), a4, Option.bind_some, if_neg (by rw [decide_eq_true_eq]; omega), hat, Option.bind_some, if_pos (by rw [beq_iff_eq]; exact hz)]
      · unfold colophonref07_Cache_Drop.f
        rw [if_neg (by rw [decide_eq_true_eq]; exact h0), hra, Option.bind_some, if_neg (by rw [decide_eq_true_eq]; omega), Option.bind_some, hatr, Option.bind_some, if_pos (by rw [beq_iff_eq]; exact hz)]
      · obtain ⟨j, hj⟩ := List.getElem?_of_mem he
        have hji := I.un j i e (er f) hj (es_at a1) (by rw [hen]; exact a2.symm) (by omega)
        rw [hji, es_at a1] at hj
        rw [← Option.some.inj hj]; exact hz
    · let c' : Cx := (c.1, c.2.1.set i (f.1, f.2.1, f.2.2.1, f.2.2.2 - 1), c.2.2.1, c.2.2.2.1, c.2.2.2.2)
      have hes : es c' = (es c).set i (n, f.2.1, f.2.2.2 - 1) := by
        show (c.2.1.set i (f.1, f.2.1, f.2.2.1, f.2.2.2 - 1)).map er = (c.2.1.map er).set i (n, f.2.1, f.2.2.2 - 1)
        rw [List.map_set, ← a2]; rfl
      have hpf : (0 ≤ f.1 ∧ f.1 ≤ (N : Int) ∧ image_Image_Page.f c.1 f.1 = some (f.2.1, 0)) := by
        rcases I.ok _ (es_mem hfm) with ⟨q, _⟩ | q
        · have : f.1 = -1 := q
          omega
        · exact q
      rw [a2] at hpf
      refine ⟨true, c', ?_, ?_, ?_, rfl, rfl, rfl, .inl ⟨rfl, by omega, i, er f, es_at a1, a2, ?_, hes⟩⟩
      · unfold cache_Cache_Drop.f
        rw [if_neg (by rw [decide_eq_true_eq]; exact h0), a4, Option.bind_some, if_neg (by rw [decide_eq_true_eq]; omega), hat, Option.bind_some, if_neg (by rw [beq_iff_eq]; exact hz), Int.toNat_natCast, wi_eq (by omega) (by omega)]
      · unfold colophonref07_Cache_Drop.f
        rw [if_neg (by rw [decide_eq_true_eq]; exact h0), hra, Option.bind_some, if_neg (by rw [decide_eq_true_eq]; omega), Option.bind_some, hatr, Option.bind_some, if_neg (by rw [beq_iff_eq]; exact hz), Option.bind_some, hatr, Option.bind_some, Int.toNat_natCast]
        show some (true, ((N1, (c.2.1.map pr).set i (f.1, wi (f.2.2.2 - 1), f.2.2.1), c.2.2.1, c.2.2.2.1, c.2.2.2.2) : Rx)) = some (true, (N1, (c.2.1.set i (f.1, f.2.1, f.2.2.1, f.2.2.2 - 1)).map pr, c.2.2.1, c.2.2.2.1, c.2.2.2.2))
        rw [wi_eq (by omega) (by omega), List.map_set]; rfl
      · exact I.put (c' := c') rfl (List.length_set) I.hh hes hpf.1 hpf.2.1 hpf.2.2 (by omega) (by omega) (fun j e g1 g2 => I.un j i e (er f) g1 (es_at a1) (by rw [g2]; exact a2.symm) (by omega)) ⟨ha0, by show c.2.2.2.1 ≤ _; omega⟩ ⟨hb0, by show c.2.2.2.2 ≤ _; omega⟩
      · show 0 < f.2.2.2; omega
  · refine ⟨false, c, ?_, ?_, I.up, rfl, rfl, rfl, .inr ⟨rfl, rfl, .inr (fun e he hen => ?_)⟩⟩
    · unfold cache_Cache_Drop.f
      rw [if_neg (by rw [decide_eq_true_eq]; exact h0), a4, Option.bind_some, if_pos (by decide)]
    · unfold colophonref07_Cache_Drop.f
      rw [if_neg (by rw [decide_eq_true_eq]; exact h0), rat_spec I, a3]
      show ((some (-1 : Int)).bind _) = _
      rw [Option.bind_some, if_pos (by decide)]
    · obtain ⟨f, hf, rfl⟩ := mem_es he
      exact absurd hen (a1 f hf)
theorem has_spec {N K T : Nat} {c : Cx} (I : Inv N K T c) (n : Int) : ∃ r, cache_Cache_Has.f (some c) n = some r ∧ (r = true ↔ 0 ≤ n ∧ ∃ e ∈ es c, e.1 = n) := by
  unfold cache_Cache_Has.f
  simp only []
  by_cases h0 : n ≥ 0
  · rw [if_pos (by rw [decide_eq_true_eq]; exact h0)]
    rcases at_spec I n with ⟨i, f, a1, a2, a3, a4⟩ | ⟨a1, a3, a4⟩
    · refine ⟨true, by rw [a4, Option.bind_some, decide_eq_true (by omega)], ?_⟩
      simp only [true_iff]
      exact ⟨h0, er f, es_mem (List.mem_of_getElem? a1), a2⟩
    · refine ⟨false, by rw [a4]; rfl, ?_⟩
      simp only [Bool.false_eq_true, false_iff, not_and]
      rintro _ ⟨e, he, hen⟩
      obtain ⟨f, hf, rfl⟩ := mem_es he
      exact a1 f hf hen
  · rw [if_neg (by rw [decide_eq_true_eq]; exact h0)]
    refine ⟨false, rfl, ?_⟩
    simp only [Bool.false_eq_true, false_iff]
    exact fun h => h0 h.1
/-! ### Stats -/
def isIn (e : Ex) : Bool := decide (e.1 ≥ 0)
def isPin (e : Ex) : Bool := decide (e.2.2 > 0)
theorem stats_l1 (c : Cx) (hl : c.2.1.length ≤ 5000) (a b : Int) : ∀ (m k i x y : Nat), c.2.1.length - i = m → m < k → i ≤ c.2.1.length → x ≤ i → y ≤ i →
    cache_Cache_Stats.l1 c k (i : Int) (a, b, (x : Int), (y : Int)) = some (a, b, ((x + (c.2.1.drop i).countP (fun f => isIn (er f)) : Nat) : Int), ((y + (c.2.1.drop i).countP (fun f => isPin (er f)) : Nat) : Int)) := by
  intro m
  induction m with
  | zero => intro k i x y h1 h2 h3 h4 h5; cases k with
    | zero => omega
    | succ k =>
      rw [cache_Cache_Stats.l1, if_neg (by rw [decide_eq_true_eq]; omega), List.drop_of_length_le (by omega)]; rfl
  | succ m ih => intro k i x y h1 h2 h3 h4 h5; cases k with
    | zero => omega
    | succ k =>
      have hil : i < c.2.1.length := by omega
      rw [cache_Cache_Stats.l1, if_pos (by rw [decide_eq_true_eq]; omega), at_nat hil, Option.bind_some, List.drop_eq_getElem_cons hil, wi_eq (n := (i : Int) + 1) (by omega) (by omega), show ((i : Int) + 1) = ((i + 1 : Nat) : Int) by omega, List.countP_cons, List.countP_cons]
      simp only []
      rw [wi_eq (n := (x : Int) + 1) (by omega) (by omega), wi_eq (n := (y : Int) + 1) (by omega) (by omega), show ((x : Int) + 1) = ((x + 1 : Nat) : Int) by omega, show ((y : Int) + 1) = ((y + 1 : Nat) : Int) by omega]
      have p1 : isIn (er c.2.1[i]) = decide (c.2.1[i].1 ≥ 0) := rfl
      have p2 : isPin (er c.2.1[i]) = decide (c.2.1[i].2.2.2 > 0) := rfl
      rw [p1, p2]
      by_cases c1 : c.2.1[i].1 ≥ 0
      · rw [if_pos (by rw [decide_eq_true_eq]; exact c1), if_pos (c := decide (c.2.1[i].1 ≥ 0) = true) (by rw [decide_eq_true_eq]; exact c1)]
        by_cases c2 : c.2.1[i].2.2.2 > 0
        · rw [if_pos (by rw [decide_eq_true_eq]; exact c2), if_pos (by rw [decide_eq_true_eq]; exact c2), ih k (i + 1) (x + 1) (y + 1) (by omega) (by omega) (by omega) (by omega) (by omega)]
          rw [show x + (List.countP (fun f => isIn (er f)) (List.drop (i + 1) c.2.1) + 1) = x + 1 + List.countP (fun f => isIn (er f)) (List.drop (i + 1) c.2.1) by omega, show y + (List.countP (fun f => isPin (er f)) (List.drop (i + 1) c.2.1) + 1) = y + 1 + List.countP (fun f => isPin (er f)) (List.drop (i + 1) c.2.1) by omega]
        · rw [if_neg (by rw [decide_eq_true_eq]; exact c2), if_neg (by rw [decide_eq_true_eq]; exact c2), ih k (i + 1) (x + 1) y (by omega) (by omega) (by omega) (by omega) (by omega)]
          rw [show x + (List.countP (fun f => isIn (er f)) (List.drop (i + 1) c.2.1) + 1) = x + 1 + List.countP (fun f => isIn (er f)) (List.drop (i + 1) c.2.1) by omega]; rfl
      · rw [if_neg (by rw [decide_eq_true_eq]; exact c1), if_neg (c := decide (c.2.1[i].1 ≥ 0) = true) (by rw [decide_eq_true_eq]; exact c1)]
        by_cases c2 : c.2.1[i].2.2.2 > 0
        · rw [if_pos (by rw [decide_eq_true_eq]; exact c2), if_pos (by rw [decide_eq_true_eq]; exact c2), ih k (i + 1) x (y + 1) (by omega) (by omega) (by omega) (by omega) (by omega)]
          rw [show y + (List.countP (fun f => isPin (er f)) (List.drop (i + 1) c.2.1) + 1) = y + 1 + List.countP (fun f => isPin (er f)) (List.drop (i + 1) c.2.1) by omega]; rfl
        · rw [if_neg (by rw [decide_eq_true_eq]; exact c2), if_neg (by rw [decide_eq_true_eq]; exact c2), ih k (i + 1) x y (by omega) (by omega) (by omega) (by omega) (by omega)]; rfl
def statsOf (c : Cx) : Int × Int × Int × Int := (c.2.2.2.1, c.2.2.2.2, (((es c).countP isIn : Nat) : Int), (((es c).countP isPin : Nat) : Int))
theorem stats_spec {N K T : Nat} {c : Cx} (I : Inv N K T c) : cache_Cache_Stats.f (some c) = some (statsOf c) := by
  have hk := I.k2
  have hl := I.len
  unfold cache_Cache_Stats.f
  simp only []
  have h := stats_l1 c (by omega) c.2.2.2.1 c.2.2.2.2 c.2.1.length FU 0 0 0 (by omega) (by show c.2.1.length < 4611686018427387904; omega) (by omega) (by omega) (by omega)
  rw [show ((0 : Nat) : Int) = 0 from rfl, List.drop_zero, Nat.zero_add, Nat.zero_add] at h
  rw [h, Option.bind_some]
  unfold statsOf es
  rw [List.countP_map, List.countP_map]; rfl
theorem rstats_l1 (c : Rx) (hl : c.2.1.length ≤ 5000) (a b : Int) : ∀ (m k i x y : Nat), c.2.1.length - i = m → m < k → i ≤ c.2.1.length → x ≤ i → y ≤ i →
    colophonref07_Cache_Stats.l1 c k (i : Int) (a, b, (x : Int), (y : Int)) = some (a, b, ((x + (c.2.1.drop i).countP (fun f => decide (f.1 ≥ 0)) : Nat) : Int), ((y + (c.2.1.drop i).countP (fun f => decide (f.2.1 > 0)) : Nat) : Int)) := by
  intro m
  induction m with
  | zero => intro k i x y h1 h2 h3 h4 h5; cases k with
    | zero => omega
    | succ k =>
      rw [colophonref07_Cache_Stats.l1, if_neg (by rw [decide_eq_true_eq]; omega), List.drop_of_length_le (by omega)]; rfl
  | succ m ih => intro k i x y h1 h2 h3 h4 h5; cases k with
    | zero => omega
    | succ k =>
      have hil : i < c.2.1.length := by omega
      rw [colophonref07_Cache_Stats.l1, if_pos (by rw [decide_eq_true_eq]; omega), at_nat hil, Option.bind_some, List.drop_eq_getElem_cons hil, wi_eq (n := (i : Int) + 1) (by omega) (by omega), show ((i : Int) + 1) = ((i + 1 : Nat) : Int) by omega, List.countP_cons, List.countP_cons]
      simp only []
      rw [wi_eq (n := (x : Int) + 1) (by omega) (by omega), wi_eq (n := (y : Int) + 1) (by omega) (by omega), show ((x : Int) + 1) = ((x + 1 : Nat) : Int) by omega, show ((y : Int) + 1) = ((y + 1 : Nat) : Int) by omega]
      by_cases c1 : c.2.1[i].1 ≥ 0
      · rw [if_pos (by rw [decide_eq_true_eq]; exact c1), if_pos (c := decide (c.2.1[i].1 ≥ 0) = true) (by rw [decide_eq_true_eq]; exact c1)]
        by_cases c2 : c.2.1[i].2.1 > 0
        · rw [if_pos (by rw [decide_eq_true_eq]; exact c2), if_pos (by rw [decide_eq_true_eq]; exact c2), ih k (i + 1) (x + 1) (y + 1) (by omega) (by omega) (by omega) (by omega) (by omega)]
          rw [show x + (List.countP (fun f : Rr => decide (f.1 ≥ 0)) (List.drop (i + 1) c.2.1) + 1) = x + 1 + List.countP (fun f : Rr => decide (f.1 ≥ 0)) (List.drop (i + 1) c.2.1) by omega, show y + (List.countP (fun f : Rr => decide (f.2.1 > 0)) (List.drop (i + 1) c.2.1) + 1) = y + 1 + List.countP (fun f : Rr => decide (f.2.1 > 0)) (List.drop (i + 1) c.2.1) by omega]
        · rw [if_neg (by rw [decide_eq_true_eq]; exact c2), if_neg (by rw [decide_eq_true_eq]; exact c2), ih k (i + 1) (x + 1) y (by omega) (by omega) (by omega) (by omega) (by omega)]
          rw [show x + (List.countP (fun f : Rr => decide (f.1 ≥ 0)) (List.drop (i + 1) c.2.1) + 1) = x + 1 + List.countP (fun f : Rr => decide (f.1 ≥ 0)) (List.drop (i + 1) c.2.1) by omega]; rfl
      · rw [if_neg (by rw [decide_eq_true_eq]; exact c1), if_neg (c := decide (c.2.1[i].1 ≥ 0) = true) (by rw [decide_eq_true_eq]; exact c1)]
        by_cases c2 : c.2.1[i].2.1 > 0
        · rw [if_pos (by rw [decide_eq_true_eq]; exact c2), if_pos (by rw [decide_eq_true_eq]; exact c2), ih k (i + 1) x (y + 1) (by omega) (by omega) (by omega) (by omega) (by omega)]
          rw [show y + (List.countP (fun f : Rr => decide (f.2.1 > 0)) (List.drop (i + 1) c.2.1) + 1) = y + 1 + List.countP (fun f : Rr => decide (f.2.1 > 0)) (List.drop (i + 1) c.2.1) by omega]; rfl
        · rw [if_neg (by rw [decide_eq_true_eq]; exact c2), if_neg (by rw [decide_eq_true_eq]; exact c2), ih k (i + 1) x y (by omega) (by omega) (by omega) (by omega) (by omega)]; rfl
theorem rstats_spec {N K T : Nat} {c : Cx} (I : Inv N K T c) (N1 : Int) : colophonref07_Cache_Stats.f (some (prj N1 c)) = some (statsOf c) := by
  have hk := I.k2
  have hl := I.len
  have hml : (prj N1 c).2.1.length = K := by show (c.2.1.map pr).length = K; rw [List.length_map]; exact hl
  unfold colophonref07_Cache_Stats.f
  rw [Option.bind_some]
  have h := rstats_l1 (prj N1 c) (by omega) c.2.2.2.1 c.2.2.2.2 (prj N1 c).2.1.length FU 0 0 0 (by omega) (by show (prj N1 c).2.1.length < 4611686018427387904; omega) (by omega) (by omega) (by omega)
  rw [show ((0 : Nat) : Int) = 0 from rfl, List.drop_zero, Nat.zero_add, Nat.zero_add] at h
  have h' : colophonref07_Cache_Stats.l1 (prj N1 c) FU 0 ((prj N1 c).2.2.2.1, (prj N1 c).2.2.2.2, 0, 0) = _ := h
  rw [h', Option.bind_some]
  unfold statsOf es prj
  simp only []
  rw [List.countP_map, List.countP_map, List.countP_map, List.countP_map]; rfl
/-! ### a cache that is made -/
theorem made_inv (N : Nat) (hN : N ≤ 200) {K : Nat} (h1 : 0 < K) (h2 : K ≤ 4096) : Inv N K 0 (theM N, List.replicate K fr0, 0, 0, 0) ∧ ∀ e ∈ es (theM N, List.replicate K fr0, 0, 0, 0), e = er fr0 := by
  have hm : ∀ e ∈ es (theM N, List.replicate K fr0, 0, 0, 0), e = er fr0 := fun e he => by
    obtain ⟨f, hf, rfl⟩ := mem_es he
    rw [(List.mem_replicate.1 hf).2]
  refine ⟨⟨List.length_replicate, h1, h2, theM_ok hN, ⟨0, rfl, h1⟩, fun e he => ?_, fun e he => ?_, fun i j e g h3 h4 h5 h6 => ?_, ⟨by show (0 : Int) ≤ 0; omega, by show (0 : Int) ≤ _; omega⟩, ⟨by show (0 : Int) ≤ 0; omega, by show (0 : Int) ≤ _; omega⟩⟩, hm⟩
  · rw [hm e he]; exact .inl ⟨rfl, rfl⟩
  · rw [hm e he]; exact ⟨by decide, by show (0 : Int) ≤ _; omega⟩
  · rw [hm e (List.mem_of_getElem? h3)] at h6
    exact absurd h6 (by decide)
theorem made_g (N K : Nat) (hN : N ≤ 200) (h1 : 0 < K) (h2 : K ≤ 4096) : colophonlaw07_made.f (N : Int) (K : Int) = some (some (theM N, List.replicate K fr0, 0, 0, 0)) := by
  rw [made_f N (by omega), if_neg (by omega), Int.toNat_natCast]
theorem rnew_l1 (N1 : Int) (n : Nat) (hn : n ≤ 4096) : ∀ (m k i : Nat), n - i = m → m < k → i ≤ n → colophonref07_New.l1 (n : Int) k (i : Int) (N1, List.replicate i ((-1, 0, false) : Rr), 0, 0, 0) = some (N1, List.replicate n ((-1, 0, false) : Rr), 0, 0, 0) := by
  intro m
  induction m with
  | zero => intro k i h1 h2 h3; cases k with
    | zero => omega
    | succ k =>
      have e : i = n := by omega
      rw [colophonref07_New.l1, if_neg (by rw [decide_eq_true_eq]; omega), e]
  | succ m ih => intro k i h1 h2 h3; cases k with
    | zero => omega
    | succ k =>
      rw [colophonref07_New.l1, if_pos (by rw [decide_eq_true_eq]; omega)]
      simp only []
      rw [app?_eq (by simp; omega), Option.bind_some, wi_eq (by omega) (by omega), show ((i : Int) + 1) = ((i + 1 : Nat) : Int) by omega]
      have := ih k (i + 1) (by omega) (by omega) (by omega)
      rw [List.replicate_succ'] at this
      exact this
theorem rnew_g (N K : Nat) (h2 : K ≤ 4096) : colophonref07_New.f ((N : Int) + 1) (K : Int) = some (some (prj ((N : Int) + 1) (theM N, List.replicate K fr0, 0, 0, 0))) := by
  unfold colophonref07_New.f
  have h := rnew_l1 ((N : Int) + 1) K h2 K FU 0 (by omega) (by show K < 4611686018427387904; omega) (by omega)
  have h' : colophonref07_New.l1 (K : Int) FU 0 ((N : Int) + 1, [], 0, 0, 0) = _ := h
  rw [h', Option.bind_some]
  unfold prj
  simp only []
  rw [List.map_replicate]; rfl
end Ca
end Go.Proofs.Ytbcdcpkofgfofaa
