/-
  Hits and misses, in plain words. No condition.
-/
import Derived.Test.YtbcdcpkofgfofaaPuCaF
import Derived.Test.YtbcdcpkofgfofaaGCacheCharges
namespace Go.Proofs.Ytbcdcpkofgfofaa
open Go Go.Gol
set_option linter.unusedVariables false
set_option linter.unusedSimpArgs false
set_option maxRecDepth 100000
namespace Ca
open Crc Page Img
/-- nobody is held; which pages have been asked for; how many misses there were -/
structure Free (K : Nat) (c : Cx) (Z : List Int) (all un : Int) : Prop where
  zero : ∀ e ∈ es c, e.2.2 = 0
  len : Z.length = 10
  bit : ∀ v ∈ Z, v = 0 ∨ v = 1
  seen : ∀ (p : Nat), (∃ e ∈ es c, e.1 = (p : Int)) → Z[p]? = some 1
  sum : c.2.2.2.1 + c.2.2.2.2 = all
  le : 0 ≤ un ∧ un ≤ c.2.2.2.2
  full : 10 ≤ K → un = c.2.2.2.2 ∧ ∀ (p : Nat), Z[p]? = some 1 → ∃ e ∈ es c, e.1 = (p : Int)
theorem charge_step {K T : Nat} {c : Cx} (I : Inv 9 K T c) (hT : T ≤ 1000) {Z : List Int} {all un : Int} (F : Free K c Z all un) {n : Nat} (hn : n < 10) :
    ∃ b hit c1 c2, cache_Cache_Hold.f c (n : Int) = some (b, hit, 0, c1) ∧ cache_Cache_Drop.f c1 (n : Int) = some (true, c2) ∧ Inv 9 K (T + 2) c2 ∧
      (Z[n]? = some 0 → hit = false) ∧ Free K c2 (Z.set n 1) (all + 1) (if Z[n]? = some 0 then un + 1 else un) := by
  obtain ⟨b, hit, e, c1, g1, _, J, _, w⟩ := hold_spec I (by omega) (by omega) (n : Int)
  have main : e = 0 ∧ Put c c1 (n : Int) hit := by
    rcases w with ⟨_, q, _⟩ | ⟨_, _, _, _, _, _, _, q⟩ | ⟨q, _, _, _, _, q2⟩
    · omega
    · exfalso
      have hk := I.k1
      have hl : (es c).length = K := (es_len c).trans I.len
      have h0 : 0 < (es c).length := by omega
      exact q _ (List.getElem_mem h0) (F.zero _ (List.getElem_mem h0))
    · exact ⟨q, q2⟩
  obtain ⟨rfl, P⟩ := main
  obtain ⟨r, c2, g2, _, J2, D⟩ := drop_spec J (by omega) 0 (n : Int)
  have hn0 : (0 : Int) ≤ (n : Int) := Int.natCast_nonneg n
  have hz : ∀ p : Int, Hl (es c) p 0 := fun p => ⟨Int.le_refl 0, fun q => absurd q (by decide), fun e he _ => F.zero e he⟩
  have h1 := hl_put I P hn0 (hz (n : Int))
  rw [if_pos rfl] at h1
  obtain ⟨hr, h2⟩ := hl_drop J D hn0 h1
  have hr' : r = true := hr.trans rfl
  have hz2 : ∀ p : Int, 0 ≤ p → Hl (es c2) p 0 := fun p hp => by
    have := h2 (hl_put I P hn0 (hz p))
    by_cases q : p = (n : Int)
    · rw [if_pos q, if_pos q] at this; exact this
    · rw [if_neg q, if_neg q] at this; exact this
  obtain ⟨cd1, cd2⟩ := come_drop D
  have hnz : n < Z.length := by rw [F.len]; exact hn
  have hmiss : Z[n]? = some 0 → hit = false ∧ c1.2.2.2.1 = c.2.2.2.1 ∧ c1.2.2.2.2 = c.2.2.2.2 + 1 := fun hz0 => by
    obtain ⟨i, b', hn', hil, he, hc⟩ := P
    rcases hc with ⟨_, ⟨e, e1, e2, _⟩, _⟩ | ⟨q1, _, _, _, q2, q3⟩
    · have := F.seen n ⟨e, List.mem_of_getElem? e1, e2⟩
      rw [hz0] at this
      exact absurd (Option.some.inj this) (by decide)
    · exact ⟨q1, q2, q3⟩
  have hsum : c1.2.2.2.1 + c1.2.2.2.2 = all + 1 ∧ c.2.2.2.2 ≤ c1.2.2.2.2 := by
    have hs := F.sum
    obtain ⟨i, b', hn', hil, he, hc⟩ := P
    rcases hc with ⟨_, _, q2, q3⟩ | ⟨_, _, _, _, q2, q3⟩
    · constructor <;> omega
    · constructor <;> omega
  obtain ⟨_, d1, d2, _⟩ := D
  refine ⟨b, hit, c1, c2, g1, by rw [g2, hr'], J2, fun h => (hmiss h).1, ?_⟩
  refine ⟨fun e he => ?_, by rw [List.length_set]; exact F.len, fun v hv => ?_, fun p hp => ?_, by rw [d1, d2]; exact hsum.1, ?_, fun hK => ⟨?_, fun p hp => ?_⟩⟩
  · rcases J2.ok e he with ⟨_, q⟩ | ⟨q, _⟩
    · exact q
    · exact (hz2 e.1 q).2.2 e he rfl
  · rcases List.mem_or_eq_of_mem_set hv with q | q
    · exact F.bit v q
    · exact .inr q
  · obtain ⟨e, he, hep⟩ := hp
    obtain ⟨g, hg, hge⟩ := cd1 e he
    rw [List.getElem?_set]
    by_cases hpn : n = p
    · rw [if_pos hpn, if_pos hnz]
    · rw [if_neg hpn]
      rcases come P g hg with q | ⟨x, hx, hxe⟩
      · exfalso
        rw [hge, hep] at q
        omega
      · exact F.seen p ⟨x, hx, by rw [hxe, hge, hep]⟩
  · have hle := F.le
    rw [d2]
    by_cases q : Z[n]? = some 0
    · rw [if_pos q]
      have := (hmiss q).2.2
      omega
    · rw [if_neg q]
      have := hsum.2
      omega
  · obtain ⟨f1, f2⟩ := F.full hK
    rw [d2]
    by_cases q : Z[n]? = some 0
    · rw [if_pos q]
      have := (hmiss q).2.2
      omega
    · rw [if_neg q]
      have h10 : Z[n]? = some 1 := by
        rw [List.getElem?_eq_getElem hnz] at q ⊢
        rcases F.bit _ (List.getElem_mem hnz) with z | z
        · rw [z] at q; exact absurd rfl q
        · rw [z]
      obtain ⟨x, hx, hxn⟩ := f2 n h10
      obtain ⟨i, b', hn', hil, he, hc⟩ := P
      rcases hc with ⟨_, _, q2, q3⟩ | ⟨_, _, q1, _⟩
      · omega
      · exact absurd hxn (q1 x hx)
  · obtain ⟨f1, f2⟩ := F.full hK
    obtain ⟨s1, s2⟩ := stay I (by omega) hn0 (by omega) P
    rw [List.getElem?_set] at hp
    by_cases hpn : n = p
    · subst hpn
      obtain ⟨x, hx, hxn⟩ := s1
      obtain ⟨g, hg, hgx⟩ := cd2 x hx
      exact ⟨g, hg, by rw [hgx, hxn]⟩
    · rw [if_neg hpn] at hp
      obtain ⟨x, hx, hxp⟩ := f2 p hp
      obtain ⟨y, hy, hyx⟩ := s2 x hx (by rw [hxp]; exact Int.natCast_nonneg p)
      obtain ⟨g, hg, hgy⟩ := cd2 y hy
      exact ⟨g, hg, by rw [hgy, hyx, hxp]⟩
abbrev ChS := Int × Int × Cx × List Int
theorem charges_l (l : List Int) (f : Nat → Int → Int → Int → Cx → List Int → Option (Sum ChS (Bool × Cx × List Int)))
    (h0 : ∀ k x7 x8 x23 q39 q34, f (k + 1) x7 x8 x23 q39 q34 = (if decide (x23 < (l.length : Int)) then ((at? l x23).bind fun v41 => (if decide (x23 ≥ 120) then some (.inl (x7, x8, q39, q34)) else ((cache_Cache_Hold.f q39 (wi (Int.tmod (IntKind.wrap .u64 v41) 10))).bind fun r44 => (if (r44.2.2.1 != 0) then some (.inr (false, r44.2.2.2, q34)) else ((cache_Cache_Drop.f r44.2.2.2 (wi (Int.tmod (IntKind.wrap .u64 v41) 10))).bind fun r56 => (if (!r56.1) then some (.inr (false, r56.2, q34)) else ((at? q34 (wi (Int.tmod (IntKind.wrap .u64 v41) 10))).bind fun v66 => (if (v66 == 0) then (if r44.2.1 then some (.inr (false, r56.2, q34)) else ((at? q34 (wi (Int.tmod (IntKind.wrap .u64 v41) 10))).bind fun v70 => ((set? q34 (wi (Int.tmod (IntKind.wrap .u64 v41) 10)) 1).bind fun y72 => f k (wi (x7 + 1)) (wi (x8 + 1)) (wi (x23 + 1)) r56.2 y72))) else ((at? q34 (wi (Int.tmod (IntKind.wrap .u64 v41) 10))).bind fun v77 => ((set? q34 (wi (Int.tmod (IntKind.wrap .u64 v41) 10)) 1).bind fun y79 => f k (wi (x7 + 1)) x8 (wi (x23 + 1)) r56.2 y79)))))))))) else some (.inl (x7, x8, q39, q34)))) {K : Nat} :
    ∀ (m k i : Nat) (c : Cx) (Z : List Int) (all un : Int), 120 - i = m → m < k → i ≤ 120 → i ≤ l.length → Inv 9 K (2 * i) c → Free K c Z all un → 
    ∃ all' un' c' Z' T', f k all un (i : Int) c Z = some (.inl (all', un', c', Z')) ∧ Inv 9 K T' c' ∧ T' ≤ 240 ∧ Free K c' Z' all' un' := by
  intro m
  induction m with
  | zero => intro k i c Z all un h1 h2 h3 h4 I F; cases k with
    | zero => omega
    | succ k =>
      rw [h0]
      by_cases hl : i < l.length
      · rw [if_pos (by rw [decide_eq_true_eq]; omega), at_nat hl, Option.bind_some, if_pos (by rw [decide_eq_true_eq]; omega)]; exact ⟨_, _, _, _, _, rfl, I, by omega, F⟩
      · rw [if_neg (by rw [decide_eq_true_eq]; omega)]; exact ⟨_, _, _, _, _, rfl, I, by omega, F⟩
  | succ m ih => intro k i c Z all un h1 h2 h3 h4 I F; cases k with
    | zero => omega
    | succ k =>
      rw [h0]
      by_cases hl : ¬ i < l.length
      · rw [if_neg (by rw [decide_eq_true_eq]; omega)]; exact ⟨_, _, _, _, _, rfl, I, by omega, F⟩
      replace hl : i < l.length := Classical.byContradiction hl
      rw [if_pos (by rw [decide_eq_true_eq]; omega), at_nat hl, Option.bind_some, if_neg (by rw [decide_eq_true_eq]; omega), wi_eq (n := (i : Int) + 1) (by omega) (by omega), show ((i : Int) + 1) = ((i + 1 : Nat) : Int) by omega]
      generalize l[i] = s
      obtain ⟨n, hn, hne⟩ : ∃ n : Nat, n < 10 ∧ wi (Int.tmod (IntKind.wrap .u64 s) 10) = (n : Int) := by
        have h0 : 0 ≤ IntKind.wrap .u64 s := by rw [wrap_u64_eq]; omega
        refine ⟨(IntKind.wrap .u64 s % 10).toNat, by omega, ?_⟩
        rw [Int.tmod_eq_emod_of_nonneg h0, wi_eq (by omega) (by omega)]; omega
      rw [hne]
      obtain ⟨b, hit, c1, c2, g1, g2, J, g3, G⟩ := charge_step I (by omega) F hn
      have hnz : n < Z.length := by rw [F.len]; exact hn
      have ha := F.sum
      have hia := I.ha
      have hib := I.hb
      have hun := F.le
      have hall : wi (all + 1) = all + 1 := wi_eq (by omega) (by omega)
      have hun1 : wi (un + 1) = un + 1 := wi_eq (by omega) (by omega)
      rw [g1, Option.bind_some, if_neg (by simp)]
      simp only []
      rw [g2, Option.bind_some, if_neg (by simp), at_nat hnz, Option.bind_some, hall, hun1]
      by_cases hz : Z[n] = 0
      · have hz' : Z[n]? = some 0 := by rw [List.getElem?_eq_getElem hnz, hz]
        rw [if_pos hz'] at G
        rw [if_pos (by rw [beq_iff_eq]; exact hz), g3 hz', if_neg (by simp), Option.bind_some, set?_nat _ hnz, Option.bind_some]
        exact ih k (i + 1) c2 _ _ _ (by omega) (by omega) (by omega) (by omega) J G
      · have hz' : ¬ Z[n]? = some 0 := by rw [List.getElem?_eq_getElem hnz]; exact fun q => hz (Option.some.inj q)
        rw [if_neg hz'] at G
        rw [if_neg (by rw [beq_iff_eq]; exact hz), Option.bind_some, set?_nat _ hnz, Option.bind_some]
        exact ih k (i + 1) c2 _ _ _ (by omega) (by omega) (by omega) (by omega) J G
theorem free_new (K : Nat) : Free K (theM 9, List.replicate K fr0, 0, 0, 0) (List.replicate 10 (0 : Int)) 0 0 := by
  have hm : ∀ e ∈ es (theM 9, List.replicate K fr0, 0, 0, 0), e = er fr0 := fun e he => by
    obtain ⟨f, hf, rfl⟩ := mem_es he
    rw [(List.mem_replicate.1 hf).2]
  refine ⟨fun e he => by rw [hm e he]; rfl, List.length_replicate, fun v hv => .inl (List.mem_replicate.1 hv).2, fun p hp => ?_, rfl, ⟨Int.le_refl 0, Int.le_refl 0⟩, fun _ => ⟨rfl, fun p hp => ?_⟩⟩
  · obtain ⟨e, he, hep⟩ := hp
    rw [hm e he] at hep
    have : (-1 : Int) = (p : Int) := hep
    omega
  · exact absurd (List.mem_replicate.1 (List.mem_of_getElem? hp)).2 (by decide)
theorem pin_zero {c : Cx} (h : ∀ e ∈ es c, e.2.2 = 0) : (es c).countP isPin = 0 := by
  rw [List.countP_eq_zero]
  intro e he
  unfold isPin
  rw [h e he]; decide
end Ca
open Ca
theorem pure_CacheCharges (l0 : List Int) (F0 : Fits (.slice 3 (.int .i64)) l0) (a1 : Bool) (F1 : Fits .bool a1) : colophonlaw07_CacheCharges.f l0 a1 = some true := by
  unfold colophonlaw07_CacheCharges.f
  rw [Ca.first_f, Option.bind_some, if_neg (by simp)]
  have hm10 : colophonlaw07_made.f 9 10 = some (some (theM 9, List.replicate 10 fr0, 0, 0, 0)) := made_g 9 10 (by omega) (by omega) (by omega)
  have hm3 : colophonlaw07_made.f 9 3 = some (some (theM 9, List.replicate 3 fr0, 0, 0, 0)) := made_g 9 3 (by omega) (by omega) (by omega)
  have hF : 120 < FU := by decide
  rw [hm10, Option.bind_some]
  cases a1 with
  | true =>
    obtain ⟨I, _⟩ := made_inv 9 (by omega) (K := 3) (by omega) (by omega)
    obtain ⟨all, un, c, Z, T, h, J, hT, G⟩ := charges_l l0 (colophonlaw07_CacheCharges.l1 l0) (fun k x7 x8 x23 q39 q34 => rfl) 120 FU 0 _ _ 0 0 (by omega) hF (by omega) (by omega) I (free_new 3)
    rw [show ((0 : Nat) : Int) = 0 from rfl] at h
    rw [if_pos rfl, hm3, Option.bind_some, Option.bind_some, h, Option.bind_some]
    simp only []
    rw [stats_spec J, Option.bind_some]
    unfold statsOf
    simp only []
    have hs := G.sum
    have hle := G.le
    have hja := J.ha
    have hjb := J.hb
    rw [wi_eq (by omega) (by omega), if_pos (by rw [beq_iff_eq]; exact hs), pin_zero G.zero, if_pos (by simp), if_pos (by rw [decide_eq_true_eq]; exact hle.2)]
    rfl
  | false =>
    obtain ⟨I, _⟩ := made_inv 9 (by omega) (K := 10) (by omega) (by omega)
    obtain ⟨all, un, c, Z, T, h, J, hT, G⟩ := charges_l l0 (colophonlaw07_CacheCharges.l2 l0) (fun k x7 x8 x23 q39 q34 => rfl) 120 FU 0 _ _ 0 0 (by omega) hF (by omega) (by omega) I (free_new 10)
    rw [show ((0 : Nat) : Int) = 0 from rfl] at h
    rw [if_neg (by simp), Option.bind_some, h, Option.bind_some]
    simp only []
    rw [stats_spec J, Option.bind_some]
    unfold statsOf
    simp only []
    have hs := G.sum
    have hle := G.le
    have hja := J.ha
    have hjb := J.hb
    have hfu := (G.full (Nat.le_refl 10)).1
    rw [wi_eq (by omega) (by omega), if_pos (by rw [beq_iff_eq]; exact hs), pin_zero G.zero, if_pos (by simp), if_pos (by rw [decide_eq_true_eq]; exact hle.2), if_neg (by simp)]
    rw [hfu]; simp
end Go.Proofs.Ytbcdcpkofgfofaa
