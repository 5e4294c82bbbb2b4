/-
  Caches answer every script, in plain words. No condition.
-/
import Derived.Test.YtbcdcpkofgfofaaPuCaF
import Derived.Test.YtbcdcpkofgfofaaGCachePlays
namespace Go.Proofs.Ytbcdcpkofgfofaa
open Go Go.Gol
set_option linter.unusedVariables false
set_option linter.unusedSimpArgs false
set_option maxRecDepth 100000
namespace Ca
open Crc Page Img
theorem plays_l8 (q : Rx) (v : Int × Int) (hl : q.2.1.length ≤ 5000) : ∀ (m k i : Nat) (x : Bool), q.2.1.length - i = m → m < k → i ≤ q.2.1.length →
    colophonlaw07_CachePlays.l8 q v k x (i : Int) = some (x || (decide (v.2 ≥ 0) && (q.2.1.drop i).any fun f => f.1 == v.2)) := by
  intro m
  induction m with
  | zero => intro k i x h1 h2 h3; cases k with
    | zero => omega
    | succ k =>
      rw [colophonlaw07_CachePlays.l8, if_neg (by rw [decide_eq_true_eq]; omega), List.drop_of_length_le (by omega)]; simp
  | succ m ih => intro k i x h1 h2 h3; cases k with
    | zero => omega
    | succ k =>
      have hil : i < q.2.1.length := by omega
      rw [colophonlaw07_CachePlays.l8, if_pos (by rw [decide_eq_true_eq]; omega), at_nat hil, Option.bind_some, List.drop_eq_getElem_cons hil, wi_eq (by omega) (by omega), show ((i : Int) + 1) = ((i + 1 : Nat) : Int) by omega, ih k (i + 1) true (by omega) (by omega) (by omega), ih k (i + 1) _ (by omega) (by omega) (by omega), ih k (i + 1) false (by omega) (by omega) (by omega), List.any_cons]
      cases x with
      | true => rw [if_pos rfl]; rfl
      | false =>
        rw [if_neg (by simp)]
        by_cases h0 : v.2 ≥ 0
        · rw [if_pos (by rw [decide_eq_true_eq]; exact h0), decide_eq_true h0]; simp
        · rw [if_neg (by rw [decide_eq_true_eq]; exact h0), decide_eq_false h0]; simp
theorem any_pr {N K T : Nat} {c : Cx} (I : Inv N K T c) (N1 n : Int) {r : Bool} (h : r = true ↔ 0 ≤ n ∧ ∃ e ∈ es c, e.1 = n) : r = (decide (n ≥ 0) && (prj N1 c).2.1.any fun f => f.1 == n) := by
  rw [Bool.eq_iff_iff, h, Bool.and_eq_true, decide_eq_true_eq, List.any_eq_true]
  show _ ↔ n ≥ 0 ∧ ∃ x ∈ c.2.1.map pr, (x.1 == n) = true
  constructor
  · rintro ⟨h0, e, he, hen⟩
    obtain ⟨f, hf, rfl⟩ := mem_es he
    exact ⟨h0, pr f, List.mem_map_of_mem hf, by rw [beq_iff_eq]; exact hen⟩
  · rintro ⟨h0, x, hx, hxn⟩
    obtain ⟨f, hf, rfl⟩ := List.mem_map.1 hx
    exact ⟨h0, er f, es_mem hf, by rw [beq_iff_eq] at hxn; exact hxn⟩
theorem plays_l1 (l : List (Int × Int)) {N K : Nat} (hN : N ≤ 200) : ∀ (m k i : Nat) (c : Cx), 100 - i = m → m < k → i ≤ 100 → i ≤ l.length → Inv N K i c →
    ∃ st, colophonlaw07_CachePlays.l1 l k (i : Int) c (prj ((N : Int) + 1) c) = some (.inl st) := by
  intro m
  induction m with
  | zero => intro k i c h1 h2 h3 h4 I; cases k with
    | zero => omega
    | succ k =>
      rw [colophonlaw07_CachePlays.l1]
      by_cases hl : i < l.length
      · rw [if_pos (by rw [decide_eq_true_eq]; omega), at_nat hl, Option.bind_some, if_pos (by rw [decide_eq_true_eq]; omega)]; exact ⟨_, rfl⟩
      · rw [if_neg (by rw [decide_eq_true_eq]; omega)]; exact ⟨_, rfl⟩
  | succ m ih => intro k i c h1 h2 h3 h4 I; cases k with
    | zero => omega
    | succ k =>
      rw [colophonlaw07_CachePlays.l1]
      by_cases hl : ¬ i < l.length
      · rw [if_neg (by rw [decide_eq_true_eq]; omega)]; exact ⟨_, rfl⟩
      replace hl : i < l.length := Classical.byContradiction hl
      rw [if_pos (by rw [decide_eq_true_eq]; omega), at_nat hl, Option.bind_some, if_neg (by rw [decide_eq_true_eq]; omega), wi_eq (n := (i : Int) + 1) (by omega) (by omega), show ((i : Int) + 1) = ((i + 1 : Nat) : Int) by omega]
      generalize l[i] = o
      by_cases k0 : (Int.tmod (IntKind.wrap .u64 o.1) 3 == 0) = true
      · rw [if_pos k0]
        obtain ⟨b, hit, e, c', g1, g2, J, _, w⟩ := hold_spec I (by omega) (by omega) o.2
        have hst := stats_spec J
        have hrs := rstats_spec J ((N : Int) + 1)
        obtain ⟨st, hgo⟩ := ih k (i + 1) c' (by omega) (by omega) (by omega) (by omega) J
        have hbl : b.length ≤ 256 := by
          rcases w with ⟨_, _, q, _⟩ | ⟨_, _, _, q, _⟩ | ⟨_, _, _, q, _⟩
          · rw [q]; simp
          · rw [q]; simp
          · omega
        have hx4 : colophonlaw07_CachePlays.l4 (b, hit, e, c') FU b 0 = some () := xor_loop (colophonlaw07_CachePlays.l4 (b, hit, e, c')) b.length (by omega) (fun k x i => rfl) _ rfl
        have hx5 : colophonlaw07_CachePlays.l5 (b, hit, e, c') FU b 0 = some () := xor_loop (colophonlaw07_CachePlays.l5 (b, hit, e, c')) b.length (by omega) (fun k x i => rfl) _ rfl
        have hx6 : colophonlaw07_CachePlays.l6 (b, hit, e, c') FU b 0 = some () := xor_loop (colophonlaw07_CachePlays.l6 (b, hit, e, c')) b.length (by omega) (fun k x i => rfl) _ rfl
        rw [g1, Option.bind_some, g2, Option.bind_some, if_neg (by simp), if_neg (by simp)]
        simp only []
        have main : e = 0 ∨ (e ≠ 0 ∧ b = []) := by
          rcases w with ⟨q, _, q2, _⟩ | ⟨q, _, _, q2, _⟩ | ⟨q, _⟩
          · exact .inr ⟨by omega, q2⟩
          · exact .inr ⟨by omega, q2⟩
          · exact .inl q
        rcases main with rfl | ⟨he, hb⟩
        · rcases w with ⟨q, _⟩ | ⟨q, _⟩ | ⟨_, q0, q1, q2, q3, _⟩
          · omega
          · omega
          rw [if_neg (by simp), if_pos (by simp), if_neg (by rw [bne_iff_ne]; omega)]
          by_cases hp : o.2 > 0
          · rw [if_pos (by rw [decide_eq_true_eq]; exact hp)]
            have ha : at? b 0 = some o.2 := by rw [show (0 : Int) = ((0 : Nat) : Int) from rfl, at?_nat]; exact q3 hp
            rw [ha, Option.bind_some, wi_eq (by omega) (by omega), if_neg (by simp), hx5, Option.bind_some, hst, Option.bind_some, hrs, Option.bind_some, if_neg (by simp)]
            exact ⟨st, hgo⟩
          · rw [if_neg (by rw [decide_eq_true_eq]; exact hp), hx6, Option.bind_some, hst, Option.bind_some, hrs, Option.bind_some, if_neg (by simp)]
            exact ⟨st, hgo⟩
        · have hx7 : colophonlaw07_CachePlays.l4 (b, hit, e, c') FU b 0 = some () := hx4
          rw [if_pos (by rw [bne_iff_ne]; exact he), if_neg (by rw [hb]; decide), if_neg (by rw [beq_iff_eq]; exact he), hx4, Option.bind_some, hst, Option.bind_some, hrs, Option.bind_some, if_neg (by simp)]
          exact ⟨st, hgo⟩
      · rw [if_neg k0]
        by_cases k1 : (Int.tmod (IntKind.wrap .u64 o.1) 3 == 1) = true
        · rw [if_pos k1]
          obtain ⟨r, c', g1, g2, J, _⟩ := drop_spec I (by omega) ((N : Int) + 1) o.2
          obtain ⟨st, hgo⟩ := ih k (i + 1) c' (by omega) (by omega) (by omega) (by omega) J
          rw [g1, Option.bind_some, g2, Option.bind_some, if_neg (by simp)]
          simp only []
          rw [stats_spec J, Option.bind_some, rstats_spec J, Option.bind_some, if_neg (by simp)]
          exact ⟨st, hgo⟩
        · rw [if_neg k1]
          have hml : (prj ((N : Int) + 1) c).2.1.length ≤ 5000 := by
            show (c.2.1.map pr).length ≤ 5000
            rw [List.length_map, I.len]; have := I.k2; omega
          have h8 := plays_l8 (prj ((N : Int) + 1) c) o hml _ FU 0 false rfl (by show (prj ((N : Int) + 1) c).2.1.length - 0 < 4611686018427387904; omega) (by omega)
          obtain ⟨st, hgo⟩ := ih k (i + 1) c (by omega) (by omega) (by omega) (by omega) I.up
          obtain ⟨r, g1, g2⟩ := has_spec I o.2
          rw [show ((0 : Nat) : Int) = 0 from rfl, List.drop_zero, Bool.false_or, ← any_pr I ((N : Int) + 1) o.2 g2] at h8
          have hrs : colophonref07_Cache_Stats.f (some ((prj ((N : Int) + 1) c).1, (prj ((N : Int) + 1) c).2.1, (prj ((N : Int) + 1) c).2.2.1, (prj ((N : Int) + 1) c).2.2.2.1, (prj ((N : Int) + 1) c).2.2.2.2)) = some (statsOf c) := rstats_spec I _
          rw [h8, Option.bind_some, g1, Option.bind_some, if_neg (by simp), stats_spec I, Option.bind_some, hrs, Option.bind_some, if_neg (by simp)]
          exact ⟨st, hgo⟩
end Ca
open Ca
theorem pure_CachePlays (a0 : Int) (F0 : Fits (.int .i64) a0) (a1 : Int) (F1 : Fits (.int .i64) a1) (l2 : List (Int × Int)) (F2 : Fits (.slice 30 (.pair (.int .i64) (.int .i64))) l2) : colophonlaw07_CachePlays.f a0 a1 l2 = some true := by
  unfold colophonlaw07_CachePlays.f
  rw [Ca.first_f, Option.bind_some, if_neg (by simp)]
  obtain ⟨N, hN0, hN1, hN⟩ : ∃ N : Nat, 1 ≤ N ∧ N ≤ 20 ∧ wi (1 + (wi (Int.tmod (IntKind.wrap .u64 a0) 20))) = (N : Int) := by
    have h0 : 0 ≤ IntKind.wrap .u64 a0 := by rw [wrap_u64_eq]; omega
    refine ⟨(1 + IntKind.wrap .u64 a0 % 20).toNat, by omega, by omega, ?_⟩
    rw [Int.tmod_eq_emod_of_nonneg h0, wi_eq (n := IntKind.wrap .u64 a0 % 20) (by omega) (by omega), wi_eq (by omega) (by omega)]; omega
  rw [hN, made_f N (by omega), Option.bind_some]
  by_cases k1 : a1 < 1
  · rw [if_pos (by rw [decide_eq_true_eq]; exact k1), if_pos (.inl k1)]
  rw [if_neg (by rw [decide_eq_true_eq]; exact k1)]
  by_cases k2 : a1 > 4096
  · rw [if_pos (by rw [decide_eq_true_eq]; exact k2), if_pos (.inr (by omega))]
  rw [if_neg (by rw [decide_eq_true_eq]; exact k2), if_neg (by omega), wi_eq (by omega) (by omega)]
  obtain ⟨K, rfl⟩ : ∃ K : Nat, a1 = (K : Int) := ⟨a1.toNat, by omega⟩
  rw [rnew_g N K (by omega), Option.bind_some, Option.bind_some, Option.bind_some, Int.toNat_natCast]
  obtain ⟨I, _⟩ := made_inv N (by omega) (K := K) (by omega) (by omega)
  obtain ⟨st, h⟩ := plays_l1 l2 (N := N) (K := K) (by omega) 100 FU 0 _ (by omega) (by show 100 < 4611686018427387904; omega) (by omega) (by omega) I
  rw [show ((0 : Nat) : Int) = 0 from rfl] at h
  rw [h]; rfl
end Go.Proofs.Ytbcdcpkofgfofaa
