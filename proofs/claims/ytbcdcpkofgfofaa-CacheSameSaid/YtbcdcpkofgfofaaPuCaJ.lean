/-
  The same script again, in plain words. No condition.
-/
import Derived.Test.YtbcdcpkofgfofaaPuCaF
import Derived.Test.YtbcdcpkofgfofaaGCacheSame
namespace Go.Proofs.Ytbcdcpkofgfofaa
open Go Go.Gol
set_option linter.unusedVariables false
set_option linter.unusedSimpArgs false
set_option maxRecDepth 100000
namespace Ca
open Crc Page Img
def Here (c : Cx) (Z : List Int) : Prop := ∀ (p : Nat), Z[p]? = some 1 → ∃ e ∈ es c, e.1 = (p : Int)
theorem same_in {N K T : Nat} {c : Cx} (I : Inv N K T c) {Z : List Int} (hZ : Z.length = 13) (hk : Here c Z) (l : Nat → Int → Option (Sum Bool Unit))
    (h0 : ∀ k p, l (k + 1) p = (if decide (p < 13) then ((at? Z p).bind fun v => (if (v == 1) then ((cache_Cache_Has.f (some c) p).bind fun r => (if (!r) then some (.inl false) else l k (wi (p + 1)))) else l k (wi (p + 1)))) else some (.inr ()))) :
    ∀ (m k p : Nat), 13 - p = m → m < k → p ≤ 13 → l k (p : Int) = some (.inr ()) := by
  intro m
  induction m with
  | zero => intro k p h1 h2 h3; cases k with
    | zero => omega
    | succ k => rw [h0, if_neg (by rw [decide_eq_true_eq]; omega)]
  | succ m ih => intro k p h1 h2 h3; cases k with
    | zero => omega
    | succ k =>
      have hp : p < Z.length := by omega
      have i1 := ih k (p + 1) (by omega) (by omega) (by omega)
      rw [h0, if_pos (by rw [decide_eq_true_eq]; omega), at_nat hp, Option.bind_some, wi_eq (n := (p : Int) + 1) (by omega) (by omega), show ((p : Int) + 1) = ((p + 1 : Nat) : Int) by omega, i1]
      by_cases hv : Z[p] = 1
      · obtain ⟨e, he, hep⟩ := hk p (by rw [List.getElem?_eq_getElem hp, hv])
        obtain ⟨r, g1, g2⟩ := has_spec I (p : Int)
        have hr : r = true := g2.2 ⟨Int.natCast_nonneg p, e, he, hep⟩
        rw [if_pos (by rw [beq_iff_eq]; exact hv), g1, Option.bind_some, hr, if_neg (by simp)]
      · rw [if_neg (by rw [beq_iff_eq]; exact hv)]
theorem hold_room {T : Nat} {c : Cx} (I : Inv 12 13 T c) (hT : T ≤ 1000) {Z : List Int} (hZ : Z.length = 13) (hk : Here c Z) {n : Nat} (hn : n < 13) :
    ∃ b hit c', cache_Cache_Hold.f c (n : Int) = some (b, hit, 0, c') ∧ Inv 12 13 (T + 1) c' ∧ Here c' (Z.set n 1) := by
  obtain ⟨b, hit, e, c', g1, _, J, _, w⟩ := hold_spec I (by omega) (by omega) (n : Int)
  have hn0 : (0 : Int) ≤ (n : Int) := Int.natCast_nonneg n
  rcases w with ⟨_, q, _⟩ | ⟨_, _, _, _, _, _, q1, q2⟩ | ⟨q, _, _, _, _, P⟩
  · omega
  · exfalso
    obtain ⟨e, he, _, hz⟩ := room I (by omega) hn0 (by omega) q1
    exact q2 e he hz
  · subst q
    refine ⟨b, hit, c', g1, J, fun p hp => ?_⟩
    obtain ⟨s1, s2⟩ := stay I (by omega) hn0 (by omega) P
    rw [List.getElem?_set] at hp
    by_cases hpn : n = p
    · subst hpn; exact s1
    · rw [if_neg hpn] at hp
      obtain ⟨x, hx, hxp⟩ := hk p hp
      obtain ⟨y, hy, hyx⟩ := s2 x hx (by rw [hxp]; exact Int.natCast_nonneg p)
      exact ⟨y, hy, hyx.trans hxp⟩
theorem same_l1 (l : List Int) {K : Nat} : ∀ (m k i : Nat) (c d : Cx) (Z : List Int), 100 - i = m → m < k → i ≤ 100 → i ≤ l.length → Inv 12 K (2 * i) c → Inv 12 13 i d → Z.length = 13 → Here d Z →
    ∃ st, colophonlaw07_CacheSame.l1 l k (i : Int) c c d Z = some (.inl st) := by
  intro m
  induction m with
  | zero => intro k i c d Z h1 h2 h3 h4 I D hZ hk; cases k with
    | zero => omega
    | succ k =>
      rw [colophonlaw07_CacheSame.l1]
      by_cases hl : i < l.length
      · rw [if_pos (by rw [decide_eq_true_eq]; omega), at_nat hl, Option.bind_some, if_pos (by rw [decide_eq_true_eq]; omega)]; exact ⟨_, rfl⟩
      · rw [if_neg (by rw [decide_eq_true_eq]; omega)]; exact ⟨_, rfl⟩
  | succ m ih => intro k i c d Z h1 h2 h3 h4 I D hZ hk; cases k with
    | zero => omega
    | succ k =>
      rw [colophonlaw07_CacheSame.l1]
      by_cases hl : ¬ i < l.length
      · rw [if_neg (by rw [decide_eq_true_eq]; omega)]; exact ⟨_, rfl⟩
      replace hl : i < l.length := Classical.byContradiction hl
      rw [if_pos (by rw [decide_eq_true_eq]; omega), at_nat hl, Option.bind_some, if_neg (by rw [decide_eq_true_eq]; omega), wi_eq (n := (i : Int) + 1) (by omega) (by omega), show ((i : Int) + 1) = ((i + 1 : Nat) : Int) by omega]
      generalize l[i] = s
      obtain ⟨n, hn, hne⟩ : ∃ n : Nat, n < 13 ∧ wi (Int.tmod (IntKind.wrap .u64 s) 13) = (n : Int) := by
        have h0 : 0 ≤ IntKind.wrap .u64 s := by rw [wrap_u64_eq]; omega
        refine ⟨(IntKind.wrap .u64 s % 13).toNat, by omega, ?_⟩
        rw [Int.tmod_eq_emod_of_nonneg h0, wi_eq (by omega) (by omega)]; omega
      rw [hne]
      have hnz : n < Z.length := by omega
      have hF : 13 < FU := by decide
      obtain ⟨b, hit, e, c', g1, _, J, _, _⟩ := hold_spec I (by omega) (by omega) (n : Int)
      obtain ⟨b2, hit2, d', g2, D2, hk2⟩ := hold_room D (by omega) hZ hk hn
      obtain ⟨r, c'', g3, _, J2, _⟩ := drop_spec J (by omega) 0 (n : Int)
      have hl2 : (Z.set n 1).length = 13 := by rw [List.length_set]; exact hZ
      have b2' := same_in D2 hl2 hk2 (colophonlaw07_CacheSame.l2 (b2, hit2, 0, d') (Z.set n 1)) (fun k p => rfl) 13 FU 0 (by omega) hF (by omega)
      have b3' := same_in D2 hl2 hk2 (colophonlaw07_CacheSame.l3 (b2, hit2, 0, d') (Z.set n 1)) (fun k p => rfl) 13 FU 0 (by omega) hF (by omega)
      rw [show ((0 : Nat) : Int) = 0 from rfl] at b2' b3'
      rw [g1, Option.bind_some, Option.bind_some, g2, Option.bind_some, at_nat hnz, Option.bind_some, set?_nat _ hnz, Option.bind_some, if_neg (by simp), if_neg (by simp), if_neg (by simp)]
      simp only []
      rw [stats_spec J, Option.bind_some, Option.bind_some, if_neg (by simp)]
      split
      · rw [g3, Option.bind_some, Option.bind_some, if_neg (by simp)]
        simp only []
        rw [b2', Option.bind_some]
        simp only []
        exact ih k (i + 1) c'' d' _ (by omega) (by omega) (by omega) (by omega) J2 D2 hl2 hk2
      · rw [b3', Option.bind_some]
        simp only []
        exact ih k (i + 1) c' d' _ (by omega) (by omega) (by omega) (by omega) J.up D2 hl2 hk2
end Ca
open Ca
theorem pure_CacheSame (a0 : Int) (F0 : Fits (.int .i64) a0) (l1 : List Int) (F1 : Fits (.slice 3 (.int .i64)) l1) : colophonlaw07_CacheSame.f a0 l1 = some true := by
  unfold colophonlaw07_CacheSame.f
  rw [Ca.first_f, Option.bind_some, if_neg (by simp)]
  obtain ⟨K, hK0, hK1, hK⟩ : ∃ K : Nat, 1 ≤ K ∧ K ≤ 5 ∧ wi (1 + (wi (Int.tmod (IntKind.wrap .u64 a0) 5))) = (K : Int) := by
    have h0 : 0 ≤ IntKind.wrap .u64 a0 := by rw [wrap_u64_eq]; omega
    refine ⟨(1 + IntKind.wrap .u64 a0 % 5).toNat, by omega, by omega, ?_⟩
    rw [Int.tmod_eq_emod_of_nonneg h0, wi_eq (n := IntKind.wrap .u64 a0 % 5) (by omega) (by omega), wi_eq (by omega) (by omega)]; omega
  have hmade : colophonlaw07_made.f 12 (K : Int) = some (some (theM 12, List.replicate K fr0, 0, 0, 0)) := made_g 12 K (by omega) (by omega) (by omega)
  have hmade2 : colophonlaw07_made.f 12 13 = some (some (theM 12, List.replicate 13 fr0, 0, 0, 0)) := made_g 12 13 (by omega) (by omega) (by omega)
  obtain ⟨I, _⟩ := made_inv 12 (by omega) (K := K) (by omega) (by omega)
  obtain ⟨D, _⟩ := made_inv 12 (by omega) (K := 13) (by omega) (by omega)
  obtain ⟨st, h⟩ := same_l1 l1 100 FU 0 _ _ (List.replicate 13 (0 : Int)) (by omega) (by show 100 < 4611686018427387904; omega) (by omega) (by omega) I D List.length_replicate (fun p hp => absurd (List.mem_replicate.1 (List.mem_of_getElem? hp)).2 (by decide))
  rw [show ((0 : Nat) : Int) = 0 from rfl] at h
  rw [hK, hmade, Option.bind_some, Option.bind_some, hmade2, Option.bind_some, Option.bind_some, Option.bind_some, Option.bind_some, h]; rfl
end Go.Proofs.Ytbcdcpkofgfofaa
