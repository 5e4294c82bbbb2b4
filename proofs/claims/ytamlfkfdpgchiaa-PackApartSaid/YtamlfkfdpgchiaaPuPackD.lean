/-
  The plain law of numbers side by side. No condition.
-/
import Derived.Test.YtamlfkfdpgchiaaPuPackC
namespace Go.Proofs.Ytamlfkfdpgchiaa
open Go Go.Gol Pack
set_option linter.unusedVariables false
set_option linter.unusedSimpArgs false
set_option maxRecDepth 100000
theorem pure_PackApart (a0 : Int) (F0 : Fits (.int .i64) a0) (l1 : List Int) (F1 : Fits (.slice 22 (.int .u64)) l1) (a2 : Int) (F2 : Fits (.int .i64) a2) : colophonlaw01_PackApart.f a0 l1 a2 = some true := by
  obtain ⟨w, hw, hw1, hw2⟩ := width_of a0
  obtain ⟨L, rfl⟩ := words_ex F1
  unfold colophonlaw01_PackApart.f
  obtain ⟨n, hn, hnL, hn80⟩ : ∃ n : Nat, imin ((L.map uw).length : Int) 80 = (n : Int) ∧ n ≤ L.length ∧ n ≤ 80 := by
    refine ⟨min L.length 80, ?_, by omega, by omega⟩
    unfold imin; simp only [List.length_map]; split <;> omega
  rw [first_f, Option.bind_some, if_neg (by simp), hw, hn, new_f w n hw1 hw2 (by omega), Option.bind_some]
  simp only [Option.bind_some]
  let V : Nat → W64 := fun i => (L.getD i 0#64) >>> (64 - w)
  have hV : ∀ i, i < n → at? (L.map uw) (i : Int) = some (uw (L.getD i 0#64)) := fun i hi => by
    rw [at?_nat, List.getElem?_map, List.getElem?_eq_getElem (show i < L.length by omega)]; simp [List.getD_eq_getElem?_getD, List.getElem?_eq_getElem (show i < L.length by omega)]
  obtain ⟨t, ht, ht80⟩ : ∃ t : Nat, wi (Int.tmod (IntKind.wrap .u64 a2) 80) = (t : Int) ∧ t < 80 := by
    have h0 : 0 ≤ IntKind.wrap .u64 a2 := by rw [wrap_u64_eq]; omega
    refine ⟨(IntKind.wrap .u64 a2 % 80).toNat, ?_, by omega⟩
    rw [Int.tmod_eq_emod_of_nonneg h0, wi_eq (by omega) (by omega)]; omega
  have key : ∀ (m k i : Nat) (U : List W64) (xs : Nat → W64), n - i = m → m < k → i ≤ n → Pk w n U xs → (∀ j, j < i → xs ((j + t) % n) = V ((j + t) % n)) →
      ∃ (U' : List W64) (xs' : Nat → W64), colophonlaw01_PackApart.l1 a0 (L.map uw) a2 k (i : Int) ((w : Int), (n : Int), U.map uw) = some (.inr ((w : Int), (n : Int), U'.map uw)) ∧ Pk w n U' xs' ∧ (∀ j, j < n → xs' ((j + t) % n) = V ((j + t) % n)) := by
    intro m
    induction m with
    | zero =>
      intro k i U xs hm hk hi hp hx; cases k with
      | zero => omega
      | succ k => refine ⟨U, xs, ?_, hp, fun j hj => hx j (by omega)⟩; unfold colophonlaw01_PackApart.l1; rw [hn, if_neg (by simp; omega)]
    | succ m ih =>
      intro k i U xs hm hk hi hp hx; cases k with
      | zero => omega
      | succ k =>
        unfold colophonlaw01_PackApart.l1
        have hq : Int.tmod (wi ((i : Int) + (t : Int))) (n : Int) = (((i + t) % n : Nat) : Int) := by
          rw [wi_eq (by omega) (by omega), Int.tmod_eq_emod_of_nonneg (by omega)]; exact (Int.natCast_emod (i + t) n).symm
        have hqn : (i + t) % n < n := Nat.mod_lt _ (by omega)
        rw [hn, ht, hw, hq, if_pos (by simp; omega), chk?_eq (by simp; omega), Option.bind_some, hV _ hqn, Option.bind_some, cut_of w hw1 hw2]
        obtain ⟨U', hs, _, hp'⟩ := pk_set hp hw1 hw2 (by omega) hqn (cut_fit w hw2 (L.getD ((i + t) % n) 0#64))
        rw [hs, Option.bind_some]
        simp only [Bool.not_true, Bool.false_eq_true, if_false]
        rw [wi_eq (by omega) (by omega), show ((i : Int) + 1) = ((i + 1 : Nat) : Int) by omega]
        refine ih k (i + 1) U' _ (by omega) (by omega) (by omega) hp' (fun j hj => ?_)
        by_cases he : (j + t) % n = (i + t) % n
        · rw [if_pos he, he]
        · rw [if_neg he]
          have : j ≠ i := fun e => he (by rw [e])
          exact hx j (by omega)
  obtain ⟨U', xs', hl, hp, hx⟩ := key n FU 0 _ (fun _ => 0#64) (by omega) (by show n < 4611686018427387904; omega) (by omega) (pk_new w n) (fun j hj => by omega)
  rw [show ((0 : Nat) : Int) = 0 from rfl] at hl
  rw [hl]
  simp only [Option.bind_some]
  have all : ∀ i, i < n → xs' i = V i := fun i hi => by
    -- every place is met
    have h1 : ((i + (n - t % n)) % n + t) % n = i := by
      have hn0 : 0 < n := by omega
      have h3 : t % n < n := Nat.mod_lt _ hn0
      have h2 : (i + (n - t % n) + t) % n = i := by
        have e := Nat.div_add_mod t n
        have : i + (n - t % n) + t = i + n * (t / n + 1) := by rw [Nat.mul_add]; omega
        rw [this, Nat.add_mul_mod_self_left, Nat.mod_eq_of_lt hi]
      rw [Nat.mod_add_mod]; exact h2
    have := hx ((i + (n - t % n)) % n) (Nat.mod_lt _ (by omega))
    rw [h1] at this; exact this
  have chk : ∀ (m k i : Nat), n - i = m → m < k → i ≤ n → colophonlaw01_PackApart.l2 a0 (L.map uw) ((w : Int), (n : Int), U'.map uw) k (i : Int) = some (.inr ()) := by
    intro m
    induction m with
    | zero => intro k i hm hk hi; cases k with
      | zero => omega
      | succ k => unfold colophonlaw01_PackApart.l2; rw [hn, if_neg (by simp; omega)]
    | succ m ih => intro k i hm hk hi; cases k with
      | zero => omega
      | succ k =>
        unfold colophonlaw01_PackApart.l2
        rw [hn, if_pos (by simp; omega), hV i (by omega), Option.bind_some, pk_get hp hw1 hw2 (by omega) (i := i) (by omega), Option.bind_some, hw, cut_of w hw1 hw2, all i (by omega)]
        rw [if_neg (by simp [V]), wi_eq (by omega) (by omega), show ((i : Int) + 1) = ((i + 1 : Nat) : Int) by omega]
        exact ih k (i + 1) (by omega) (by omega) (by omega)
  have hc := chk n FU 0 (by omega) (by show n < 4611686018427387904; omega) (by omega)
  rw [show ((0 : Nat) : Int) = 0 from rfl] at hc
  rw [hc]
  rfl
end Go.Proofs.Ytamlfkfdpgchiaa
