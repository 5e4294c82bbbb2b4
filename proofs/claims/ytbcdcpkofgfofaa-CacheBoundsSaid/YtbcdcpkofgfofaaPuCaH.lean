/-
  Never more pages than frames; what is held stays, in plain words. No condition.
-/
import Derived.Test.YtbcdcpkofgfofaaPuCaF
import Derived.Test.YtbcdcpkofgfofaaGCacheBounds
namespace Go.Proofs.Ytbcdcpkofgfofaa
open Go Go.Gol
set_option linter.unusedVariables false
set_option linter.unusedSimpArgs false
set_option maxRecDepth 100000
namespace Ca
open Crc Page Img
/-- the pages of which it is known how often they are held -/
def Known (c : Cx) (H : List Int) : Prop := ∀ (p : Nat) (v : Int), H[p]? = some v → Hl (es c) p v
theorem bounds_in {N K T : Nat} {c : Cx} (I : Inv N K T c) {H : List Int} (hH : H.length = 21) (hk : Known c H) (l : Nat → Int → Int → Option (Sum Bool Int))
    (h0 : ∀ k x p, l (k + 1) x p = (if decide (p < 21) then ((at? H p).bind fun v => (if decide (v > 0) then ((cache_Cache_Has.f (some c) p).bind fun r => (if (!r) then some (.inl false) else l k (wi (x + 1)) (wi (p + 1)))) else l k x (wi (p + 1)))) else some (.inr x))) :
    ∀ (m k p x : Nat), 21 - p = m → m < k → p ≤ 21 → x ≤ p → l k (x : Int) (p : Int) = some (.inr (((x + (H.drop p).countP fun v => decide (v > 0) : Nat)) : Int)) := by
  intro m
  induction m with
  | zero => intro k p x h1 h2 h3 h4; cases k with
    | zero => omega
    | succ k =>
      rw [h0, if_neg (by rw [decide_eq_true_eq]; omega), List.drop_of_length_le (by omega)]; rfl
  | succ m ih => intro k p x h1 h2 h3 h4; cases k with
    | zero => omega
    | succ k =>
      have hp : p < H.length := by omega
      rw [h0, if_pos (by rw [decide_eq_true_eq]; omega), at_nat hp, Option.bind_some, List.drop_eq_getElem_cons hp, List.countP_cons, wi_eq (n := (x : Int) + 1) (by omega) (by omega), wi_eq (n := (p : Int) + 1) (by omega) (by omega), show ((x : Int) + 1) = ((x + 1 : Nat) : Int) by omega, show ((p : Int) + 1) = ((p + 1 : Nat) : Int) by omega]
      by_cases hv : H[p] > 0
      · have i1 := ih k (p + 1) (x + 1) (by omega) (by omega) (by omega) (by omega)
        obtain ⟨e, he, hep, _⟩ := (hk p _ (List.getElem?_eq_getElem hp)).2.1 hv
        obtain ⟨r, g1, g2⟩ := has_spec I (p : Int)
        have hr : r = true := g2.2 ⟨Int.natCast_nonneg p, e, he, hep⟩
        rw [if_pos (by rw [decide_eq_true_eq]; exact hv), g1, Option.bind_some, hr, if_neg (by simp), i1, if_pos (by rw [decide_eq_true_eq]; exact hv)]
        congr 3; rw [Nat.add_assoc, Nat.add_comm 1]
      · have i1 := ih k (p + 1) x (by omega) (by omega) (by omega) (by omega)
        rw [if_neg (by rw [decide_eq_true_eq]; exact hv), i1, if_neg (by rw [decide_eq_true_eq]; exact hv)]; rfl
theorem known_le {N K T : Nat} {c : Cx} (I : Inv N K T c) {H : List Int} (hk : Known c H) {p : Nat} {v : Int} (h : H[p]? = some v) : 0 ≤ v ∧ v ≤ (T : Int) := by
  obtain ⟨h1, h2, h3⟩ := hk p v h
  refine ⟨h1, ?_⟩
  rcases Int.lt_or_le 0 v with q | q
  · obtain ⟨e, a, _, b⟩ := h2 q
    have := (I.hd e a).2; omega
  · omega
theorem known_put {N K T : Nat} {c c' : Cx} (I : Inv N K T c) {H : List Int} (hk : Known c H) {n : Nat} {v : Int} (hv : H[n]? = some v) {hit : Bool} (h : Put c c' (n : Int) hit) : Known c' (H.set n (v + 1)) := by
  intro p u hu
  rw [List.getElem?_set] at hu
  have hn0 : (0 : Int) ≤ (n : Int) := Int.natCast_nonneg n
  by_cases hp : n = p
  · subst hp
    rw [if_pos rfl] at hu
    split at hu
    · have := hl_put I h hn0 (hk n v hv)
      rw [if_pos rfl] at this
      rw [← Option.some.inj hu]; exact this
    · cases hu
  · rw [if_neg hp] at hu
    have := hl_put I h hn0 (hk p u hu)
    rw [if_neg (by omega), Int.add_zero] at this
    exact this
theorem known_drop {N K T : Nat} {c c' : Cx} (I : Inv N K T c) {H : List Int} (hk : Known c H) {n : Nat} {v : Int} (hv : H[n]? = some v) {r : Bool} (h : Dropped c c' (n : Int) r) : r = decide (v > 0) ∧ Known c' (H.set n (imax 0 (v - 1))) := by
  have hn0 : (0 : Int) ≤ (n : Int) := Int.natCast_nonneg n
  obtain ⟨h1, h2⟩ := hl_drop I h hn0 (hk n v hv)
  refine ⟨h1, fun p u hu => ?_⟩
  rw [List.getElem?_set] at hu
  by_cases hp : n = p
  · subst hp
    rw [if_pos rfl] at hu
    split at hu
    · have := h2 (hk n v hv)
      rw [if_pos rfl] at this
      rw [← Option.some.inj hu]; exact this
    · cases hu
  · rw [if_neg hp] at hu
    have := h2 (hk p u hu)
    rw [if_neg (by omega)] at this
    exact this
theorem in_le {N K T : Nat} {c : Cx} (I : Inv N K T c) (q : Ex → Bool) : (es c).countP q ≤ K := by
  have := List.countP_le_length (p := q) (l := es c)
  rw [es_len, I.len] at this; exact this
theorem bounds_l1 (a0 : Int) (l : List Int) {K : Nat} (hK : wi (1 + (wi (Int.tmod (IntKind.wrap .u64 a0) 6))) = (K : Int)) : ∀ (m k i : Nat) (c : Cx) (H : List Int), 120 - i = m → m < k → i ≤ 120 → i ≤ l.length → Inv 20 K i c → H.length = 21 → Known c H →
    ∃ st, colophonlaw07_CacheBounds.l1 a0 l k (i : Int) c H = some (.inl st) := by
  intro m
  induction m with
  | zero => intro k i c H h1 h2 h3 h4 I hH hk; cases k with
    | zero => omega
    | succ k =>
      rw [colophonlaw07_CacheBounds.l1]
      by_cases hl : i < l.length
      · rw [if_pos (by rw [decide_eq_true_eq]; omega), at_nat hl, Option.bind_some, if_pos (by rw [decide_eq_true_eq]; omega)]; exact ⟨_, rfl⟩
      · rw [if_neg (by rw [decide_eq_true_eq]; omega)]; exact ⟨_, rfl⟩
  | succ m ih => intro k i c H h1 h2 h3 h4 I hH hk; cases k with
    | zero => omega
    | succ k =>
      rw [colophonlaw07_CacheBounds.l1]
      by_cases hl : ¬ i < l.length
      · rw [if_neg (by rw [decide_eq_true_eq]; omega)]; exact ⟨_, rfl⟩
      replace hl : i < l.length := Classical.byContradiction hl
      rw [if_pos (by rw [decide_eq_true_eq]; omega), at_nat hl, Option.bind_some, if_neg (by rw [decide_eq_true_eq]; omega), wi_eq (n := (i : Int) + 1) (by omega) (by omega), show ((i : Int) + 1) = ((i + 1 : Nat) : Int) by omega, hK]
      generalize l[i] = s
      obtain ⟨n, hn, hne⟩ : ∃ n : Nat, n < 21 ∧ wi (Int.tmod (IntKind.wrap .u64 s) 21) = (n : Int) := by
        have h0 : 0 ≤ IntKind.wrap .u64 s := by rw [wrap_u64_eq]; omega
        refine ⟨(IntKind.wrap .u64 s % 21).toNat, by omega, ?_⟩
        rw [Int.tmod_eq_emod_of_nonneg h0, wi_eq (by omega) (by omega)]; omega
      rw [hne]
      have hnH : n < H.length := by omega
      have hv := List.getElem?_eq_getElem hnH
      obtain ⟨hv0, hv1⟩ := known_le I hk hv
      have hcF : 21 < FU := by decide
      split
      · -- Drop
        obtain ⟨r, c', g1, _, J, w⟩ := drop_spec I (by omega) 0 (n : Int)
        obtain ⟨hr, hk'⟩ := known_drop I hk hv w
        have hm : imax 0 (wi (H[n] - 1)) = imax 0 (H[n] - 1) := by rw [wi_eq (by omega) (by omega)]
        have hl2 : (H.set n (imax 0 (H[n] - 1))).length = 21 := by rw [List.length_set]; exact hH
        rw [at_nat hnH, Option.bind_some, g1, Option.bind_some, hr]
        simp only []
        rw [if_neg (by simp), Option.bind_some, Option.bind_some, set?_nat _ hnH, Option.bind_some, hm]
        have hb := bounds_in J hl2 hk' (colophonlaw07_CacheBounds.l2 (r, c') (H.set n (imax 0 (H[n] - 1)))) (fun k x p => rfl) 21 FU 0 0 (by omega) hcF (by omega) (by omega)
        rw [show ((0 : Nat) : Int) = 0 from rfl, List.drop_zero, Nat.zero_add, ← pin_count J _ hl2 hk'] at hb
        rw [← hr, hb, Option.bind_some]
        simp only []
        have e1 := in_le J isIn
        have e2 := in_le J isPin
        obtain ⟨st, hgo⟩ := ih k (i + 1) c' _ (by omega) (by omega) (by omega) (by omega) J hl2 hk'
        rw [stats_spec J, Option.bind_some]
        unfold statsOf
        simp only []
        rw [if_neg (by rw [decide_eq_true_eq]; omega), if_neg (by simp), if_neg (by rw [decide_eq_true_eq]; omega)]
        exact ⟨st, hgo⟩
      · -- Hold
        obtain ⟨b, hit, e, c', g1, _, J, _, w⟩ := hold_spec I (by omega) (by omega) (n : Int)
        rw [g1, Option.bind_some]
        simp only []
        have main : (e = 0 ∧ Put c c' (n : Int) hit) ∨ (e ≠ 0 ∧ c' = c) := by
          rcases w with ⟨q, _, _, _, q2⟩ | ⟨q, _, _, _, _, q2, _⟩ | ⟨q, _, _, _, _, q2⟩
          · exact .inr ⟨by omega, q2⟩
          · exact .inr ⟨by omega, q2⟩
          · exact .inl ⟨q, q2⟩
        have e1 := in_le J isIn
        have e2 := in_le J isPin
        rcases main with ⟨he, P⟩ | ⟨he, hc⟩
        · have hk' := known_put I hk hv P
          have hl2 : (H.set n (H[n] + 1)).length = 21 := by rw [List.length_set]; exact hH
          rw [if_pos (by rw [beq_iff_eq]; exact he), at_nat hnH, Option.bind_some, Option.bind_some, wi_eq (n := H[n] + 1) (by omega) (by omega), set?_nat _ hnH, Option.bind_some]
          have hb := bounds_in J hl2 hk' (colophonlaw07_CacheBounds.l3 (b, hit, e, c') (H.set n (H[n] + 1))) (fun k x p => rfl) 21 FU 0 0 (by omega) hcF (by omega) (by omega)
          rw [show ((0 : Nat) : Int) = 0 from rfl, List.drop_zero, Nat.zero_add, ← pin_count J _ hl2 hk'] at hb
          rw [hb, Option.bind_some]
          simp only []
          obtain ⟨st, hgo⟩ := ih k (i + 1) c' _ (by omega) (by omega) (by omega) (by omega) J hl2 hk'
          rw [stats_spec J, Option.bind_some]
          unfold statsOf
          simp only []
          rw [if_neg (by rw [decide_eq_true_eq]; omega), if_neg (by simp), if_neg (by rw [decide_eq_true_eq]; omega)]
          exact ⟨st, hgo⟩
        · subst hc
          rw [if_neg (by rw [beq_iff_eq]; exact he)]
          have hb := bounds_in J hH hk (colophonlaw07_CacheBounds.l4 H (b, hit, e, c')) (fun k x p => rfl) 21 FU 0 0 (by omega) hcF (by omega) (by omega)
          rw [show ((0 : Nat) : Int) = 0 from rfl, List.drop_zero, Nat.zero_add, ← pin_count J _ hH hk] at hb
          rw [hb, Option.bind_some]
          simp only []
          obtain ⟨st, hgo⟩ := ih k (i + 1) c' _ (by omega) (by omega) (by omega) (by omega) J hH hk
          rw [stats_spec J, Option.bind_some]
          unfold statsOf
          simp only []
          rw [if_neg (by rw [decide_eq_true_eq]; omega), if_neg (by simp), if_neg (by rw [decide_eq_true_eq]; omega)]
          exact ⟨st, hgo⟩
theorem known_none (N K : Nat) (H : List Int) (h : ∀ v ∈ H, v = 0) : Known (theM N, List.replicate K fr0, 0, 0, 0) H := fun p v hv => by
  have h0 := h v (List.mem_of_getElem? hv)
  subst h0
  refine ⟨Int.le_refl 0, fun q => absurd q (by decide), fun e he hep => ?_⟩
  obtain ⟨f, hf, rfl⟩ := mem_es he
  rw [(List.mem_replicate.1 hf).2]; rfl
end Ca
open Ca
theorem pure_CacheBounds (a0 : Int) (F0 : Fits (.int .i64) a0) (l1 : List Int) (F1 : Fits (.slice 3 (.int .i64)) l1) : colophonlaw07_CacheBounds.f a0 l1 = some true := by
  unfold colophonlaw07_CacheBounds.f
  rw [Ca.first_f, Option.bind_some, if_neg (by simp)]
  obtain ⟨K, hK0, hK1, hK⟩ : ∃ K : Nat, 1 ≤ K ∧ K ≤ 6 ∧ wi (1 + (wi (Int.tmod (IntKind.wrap .u64 a0) 6))) = (K : Int) := by
    have h0 : 0 ≤ IntKind.wrap .u64 a0 := by rw [wrap_u64_eq]; omega
    refine ⟨(1 + IntKind.wrap .u64 a0 % 6).toNat, by omega, by omega, ?_⟩
    rw [Int.tmod_eq_emod_of_nonneg h0, wi_eq (n := IntKind.wrap .u64 a0 % 6) (by omega) (by omega), wi_eq (by omega) (by omega)]; omega
  have hmade : colophonlaw07_made.f 20 (K : Int) = some (some (theM 20, List.replicate K fr0, 0, 0, 0)) := made_g 20 K (by omega) (by omega) (by omega)
  obtain ⟨I, _⟩ := made_inv 20 (by omega) (K := K) (by omega) (by omega)
  obtain ⟨st, h⟩ := bounds_l1 a0 l1 hK 120 FU 0 _ (List.replicate 21 (0 : Int)) (by omega) (by show 120 < 4611686018427387904; omega) (by omega) (by omega) I List.length_replicate (known_none 20 K _ (fun v hv => (List.mem_replicate.1 hv).2))
  rw [show ((0 : Nat) : Int) = 0 from rfl] at h
  rw [hK, hmade, Option.bind_some, Option.bind_some, h]; rfl
end Go.Proofs.Ytbcdcpkofgfofaa
