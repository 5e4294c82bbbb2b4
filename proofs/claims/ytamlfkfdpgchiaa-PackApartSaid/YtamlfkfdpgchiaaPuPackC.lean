/-
  The plain laws of layer pack: numbers side by side, and the last one laid. No condition.
-/
import Derived.Test.YtamlfkfdpgchiaaPuPackB
import Derived.Test.YtamlfkfdpgchiaaGPackApart
import Derived.Test.YtamlfkfdpgchiaaGPackLast
namespace Go.Proofs.Ytamlfkfdpgchiaa
open Go Go.Gol
set_option linter.unusedVariables false
set_option linter.unusedSimpArgs false
set_option maxRecDepth 100000
namespace Pack
theorem width_of (a : Int) : ∃ w : Nat, wi (1 + (wi (Int.tmod (IntKind.wrap .u64 a) 64))) = (w : Int) ∧ 1 ≤ w ∧ w ≤ 64 := by
  have h1 : 0 ≤ IntKind.wrap .u64 a := by rw [wrap_u64_eq]; omega
  refine ⟨1 + (IntKind.wrap .u64 a % 64).toNat, ?_, by omega, by omega⟩
  rw [Int.tmod_eq_emod_of_nonneg h1, wi_eq (n := IntKind.wrap .u64 a % 64) (by omega) (by omega), wi_eq (by omega) (by omega)]; omega
theorem cut_of (w : Nat) (hw : 1 ≤ w) (hw2 : w ≤ 64) (v : W64) : ishr .u64 (uw v) (IntKind.wrap .u64 (wi (64 - (w : Int)))) = uw (v >>> (64 - w)) := by
  have e : IntKind.wrap .u64 (wi (64 - (w : Int))) = ((64 - w : Nat) : Int) := by rw [wi_eq (by omega) (by omega), wrap_u64_eq]; omega
  rw [e]; exact un_shr (w := 64) .u64 rfl v (64 - w) (by omega)
theorem cut_fit (w : Nat) (hw2 : w ≤ 64) (v : W64) : Fit w (v >>> (64 - w)) := fun j hj => by
  rw [BitVec.getLsbD_ushiftRight]; exact BitVec.getLsbD_of_ge _ _ (by omega)
theorem words_ex {e : TypeId} {l : List Int} (h : Fits (.slice e (.int .u64)) l) : ∃ L : List W64, l = L.map uw := by
  obtain ⟨_, h⟩ := h
  refine ⟨l.map (fun n => BitVec.ofInt 64 n), ?_⟩
  rw [List.map_map]
  conv => lhs; rw [← List.map_id l]
  refine List.map_congr_left fun n hn => ?_
  have := fits_u64 (h n hn)
  simp only [id, Function.comp, uw, BitVec.toNat_ofInt]; omega
theorem uw_inj {a b : W64} (h : uw a = uw b) : a = b := BitVec.eq_of_toNat_eq (by have h : (a.toNat : Int) = b.toNat := h; omega)
end Pack
open Pack
theorem pure_PackLast (a0 : Int) (F0 : Fits (.int .i64) a0) (l1 : List (Int × Int)) (F1 : Fits (.slice 40 (.pair (.int .i64) (.int .u64))) l1) : colophonlaw01_PackLast.f a0 l1 = some true := by
  obtain ⟨w, hw, hw1, hw2⟩ := width_of a0
  unfold colophonlaw01_PackLast.f
  have hnew := new_f w 20 hw1 hw2 (by omega)
  rw [show ((20 : Nat) : Int) = 20 from rfl] at hnew
  rw [first_f, Option.bind_some, if_neg (by simp), hw, hnew, Option.bind_some]
  simp only [Option.bind_some]
  have key : ∀ (m k i : Nat) (U : List W64) (xs : Nat → W64) (X : List W64), 100 - i = m → m < k → i ≤ 100 → Pk w 20 U xs → X.length = 20 → (∀ j, j < 20 → X[j]? = some (xs j)) →
      ∃ (U' : List W64) (xs' : Nat → W64) (X' : List W64), colophonlaw01_PackLast.l1 a0 l1 k (i : Int) ((w : Int), ((20 : Nat) : Int), U.map uw) (X.map uw) = some (((w : Int), ((20 : Nat) : Int), U'.map uw), X'.map uw) ∧ Pk w 20 U' xs' ∧ X'.length = 20 ∧ (∀ j, j < 20 → X'[j]? = some (xs' j)) := by
    intro m
    induction m with
    | zero =>
      intro k i U xs X hm hk hi hp hX hx; cases k with
      | zero => omega
      | succ k =>
        refine ⟨U, xs, X, ?_, hp, hX, hx⟩; unfold colophonlaw01_PackLast.l1
        by_cases hil : i < l1.length
        · rw [if_pos (by simp; omega), at?_nat, List.getElem?_eq_getElem hil, Option.bind_some, if_pos (by simp; omega)]
        · rw [if_neg (by simp; omega)]
    | succ m ih =>
      intro k i U xs X hm hk hi hp hX hx; cases k with
      | zero => omega
      | succ k =>
        unfold colophonlaw01_PackLast.l1
        by_cases hil : i < l1.length
        case neg => refine ⟨U, xs, X, ?_, hp, hX, hx⟩; rw [if_neg (by simp; omega)]
        rw [if_pos (by simp; omega), at?_nat, List.getElem?_eq_getElem hil, Option.bind_some]
        by_cases h100 : i ≥ 100
        · rw [if_pos (by simp; omega)]; exact ⟨U, xs, X, rfl, hp, hX, hx⟩
        · rw [if_neg (by simp; omega)]
          have hF := F1.2 _ (List.getElem_mem hil)
          obtain ⟨v, hv⟩ : ∃ v : W64, (l1[i]).2 = uw v := ⟨BitVec.ofInt 64 (l1[i]).2, by have := fits_u64 hF.2; simp only [uw, BitVec.toNat_ofInt]; omega⟩
          have h0 : 0 ≤ IntKind.wrap .u64 (l1[i]).1 := by rw [wrap_u64_eq]; omega
          obtain ⟨q, hq, hq20⟩ : ∃ q : Nat, wi (Int.tmod (IntKind.wrap .u64 (l1[i]).1) 20) = (q : Int) ∧ q < 20 := by
            refine ⟨(IntKind.wrap .u64 (l1[i]).1 % 20).toNat, ?_, by omega⟩
            rw [Int.tmod_eq_emod_of_nonneg h0, wi_eq (by omega) (by omega)]; omega
          rw [hv, hw, hq, cut_of w hw1 hw2]
          obtain ⟨U', hs, _, hp'⟩ := pk_set hp hw1 hw2 (by omega) hq20 (cut_fit w hw2 v)
          rw [hs, Option.bind_some]
          simp only [if_true]
          have hqX : q < X.length := by omega
          rw [at?_nat, List.getElem?_map, List.getElem?_eq_getElem hqX]
          simp only [Option.map_some, Option.bind_some]
          rw [set?_nat _ (by simpa using hqX), Option.bind_some, wi_eq (by omega) (by omega), show ((i : Int) + 1) = ((i + 1 : Nat) : Int) by omega, ← List.map_set]
          refine ih k (i + 1) U' _ _ (by omega) (by omega) (by omega) hp' (by simpa using hX) (fun j hj => ?_)
          rw [List.getElem?_set]
          by_cases hjq : q = j
          · rw [if_pos hjq, if_pos hjq.symm]; simp; omega
          · rw [if_neg hjq, if_neg (Ne.symm hjq)]; exact hx j hj
  have h0 := pk_new w 20
  obtain ⟨U', xs', X', hl, hp, hX, hx⟩ := key 100 FU 0 _ (fun _ => 0#64) (List.replicate 20 0#64) (by omega) (by decide) (by omega) h0 (by simp) (fun j hj => by rw [List.getElem?_replicate, if_pos hj])
  rw [List.map_replicate (n := 20)] at hl
  rw [show ((0 : Nat) : Int) = 0 from rfl, show ((20 : Nat) : Int) = 20 from rfl] at hl
  rw [show List.replicate 20 (0 : Int) = List.replicate 20 (uw 0#64) from rfl, hl, Option.bind_some]
  have chk : ∀ (m k i : Nat), 20 - i = m → m < k → i ≤ 20 → colophonlaw01_PackLast.l2 (((w : Int), (20 : Int), U'.map uw), X'.map uw) k (i : Int) = some (.inr ()) := by
    intro m
    induction m with
    | zero => intro k i hm hk hi; cases k with
      | zero => omega
      | succ k => unfold colophonlaw01_PackLast.l2; rw [if_neg (by simp; omega)]
    | succ m ih => intro k i hm hk hi; cases k with
      | zero => omega
      | succ k =>
        unfold colophonlaw01_PackLast.l2
        have hil : i < X'.length := by omega
        have hg := pk_get hp hw1 hw2 (by omega) (i := i) (by omega)
        rw [show ((20 : Nat) : Int) = 20 from rfl] at hg
        rw [if_pos (by simp; omega)]
        simp only []
        rw [at?_nat, List.getElem?_map, hx i (by omega)]
        simp only [Option.map_some, Option.bind_some, hg]
        rw [if_neg (by simp), wi_eq (by omega) (by omega), show ((i : Int) + 1) = ((i + 1 : Nat) : Int) by omega]
        exact ih k (i + 1) (by omega) (by omega) (by omega)
  have hc := chk 20 FU 0 (by omega) (by decide) (by omega)
  rw [show ((0 : Nat) : Int) = 0 from rfl] at hc
  rw [hc, Option.bind_some]
  have := get_out w 20 20 U' (by right; omega)
  rw [show ((20 : Nat) : Int) = 20 from rfl] at this
  simp only [this, Option.bind_some]
  rfl
end Go.Proofs.Ytamlfkfdpgchiaa
