/-
  The laws of layer sparse, in plain words: words there and back. No condition.
-/
import Derived.Test.YtomeiphaohjeoaaPuSparseD
namespace Go.Proofs.Ytomeiphaohjeoaa
open Go Go.Gol
set_option linter.unusedVariables false
set_option linter.unusedSimpArgs false
set_option linter.unnecessarySimpa false
set_option maxRecDepth 100000
open Sparse
theorem pure_SparseBack (a0 : Int) (F0 : Fits (.int .i64) a0) (l1 : List Int) (F1 : Fits (.slice 3 (.int .i64)) l1) (a2 : Int) (F2 : Fits (.int .i64) a2) : colophonlaw03_SparseBack.f a0 l1 a2 = some true := by
  unfold colophonlaw03_SparseBack.f
  rw [first_f, Option.bind_some, if_neg (by simp)]
  by_cases h1 : l1.length > 500
  · rw [if_pos (by simp; omega)]
  rw [if_neg (by simp; omega)]
  by_cases h2 : a0 > 20000
  · rw [if_pos (by simpa using h2)]
  rw [if_neg (by simpa using h2)]
  obtain ⟨b, eb, hb⟩ := right_ok (u := a0) (l := l1) (by omega)
  rw [eb, Option.bind_some]
  cases b with
  | false => rfl
  | true =>
    obtain ⟨h0, h4, hG⟩ := hb.1 rfl
    clear hb
    obtain ⟨u, rfl⟩ : ∃ u : Nat, a0 = (u : Int) := ⟨a0.toNat, by omega⟩
    rw [Int.toNat_natCast] at hG
    have hu : u ≤ 4194304 := by omega
    have hlen := hG.len
    obtain ⟨S0, eS0, hS0⟩ := new_ok (u := u) (l := l1) hu (.inl (by omega)) hG
    obtain ⟨W1, W2, _, w2, _, _⟩ := Sparse.words_ok hS0 hG (by omega)
    obtain ⟨S, U1, U2, t1, t2, hpos, hU1, ef, hS⟩ := from_exact hG (by omega) w2
    rw [if_neg (by simp), w2, Option.bind_some]
    simp only []
    rw [ef, Option.bind_some]
    simp only []
    have k1 : ∀ (m k i : Nat), l1.length - i = m → m < k → colophonlaw03_SparseBack.l1 l1 S k (i : Int) = some (.inr ()) := by
      intro m
      induction m with
      | zero => intro k i hm hk; cases k with
        | zero => omega
        | succ k => unfold colophonlaw03_SparseBack.l1; rw [if_neg (by simp; omega)]
      | succ m ih => intro k i hm hk; cases k with
        | zero => omega
        | succ k =>
          unfold colophonlaw03_SparseBack.l1
          rw [if_pos (by simp; omega), at_g (by omega), Option.bind_some, at_ok hS hG hu (by omega), Option.bind_some, if_neg (by simp), wi_eq (by omega) (by omega), show ((i : Int) + 1) = ((i + 1 : Nat) : Int) by omega]
          exact ih k (i + 1) (by omega) (by omega)
    have e1 := k1 l1.length FU 0 (by omega) (by show l1.length < 4611686018427387904; omega)
    rw [show ((0 : Nat) : Int) = 0 from rfl] at e1
    rw [if_neg (by simp), len_ok hS, Option.bind_some, if_neg (by simp), e1, Option.bind_some]
    simp only []
    by_cases hz : W1.length = 0
    · rw [if_pos (by rw [beq_iff_eq]; omega)]
    rw [if_neg (by rw [beq_iff_eq]; omega)]
    have hWU : W1.length = U1.length := by rw [t1, List.length_map]
    have eB : IntKind.wrap .u64 (wi (64 * (W1.length : Int))) = ((64 * W1.length : Nat) : Int) := by rw [wi_eq (by omega) (by omega), wrapu (by omega) (by omega)]; omega
    obtain ⟨A, hA⟩ : ∃ A : Nat, IntKind.wrap .u64 a2 = (A : Int) := ⟨(IntKind.wrap .u64 a2).toNat, by rw [wrap_u64_eq]; omega⟩
    obtain ⟨K, hK⟩ : ∃ K, K = A % (64 * W1.length) := ⟨_, rfl⟩
    have hKlt : K < 64 * W1.length := by rw [hK]; exact Nat.mod_lt _ (by omega)
    have eK : wi (Int.tmod (IntKind.wrap .u64 a2) (IntKind.wrap .u64 (wi (64 * (W1.length : Int))))) = (K : Int) := by
      have : Int.tmod (A : Int) ((64 * W1.length : Nat) : Int) = (K : Int) := by rw [Int.tmod_eq_emod_of_nonneg (by omega), hK]; norm_cast
      rw [hA, eB, this, wi_eq (by omega) (by omega)]
    have eq : wi (Int.tdiv (K : Int) 64) = ((K / 64 : Nat) : Int) := by rw [Int.tdiv_eq_ediv_of_nonneg (by omega), wi_eq (by omega) (by omega)]; omega
    have er : IntKind.wrap .u64 (Int.tmod (K : Int) 64) = ((K % 64 : Nat) : Int) := by rw [Int.tmod_eq_emod_of_nonneg (by omega), wrapu (by omega) (by omega)]; omega
    rw [chk?_eq (decide_eq_true (by rw [eB]; omega)), Option.bind_some, eK, eq, er, (pow64 (Nat.mod_lt K (by decide))).1]
    have hq : K / 64 < U1.length := by omega
    have hp2 : 2 ^ (K % 64) < 2 ^ 64 := Nat.pow_lt_pow_right (by decide) (Nat.mod_lt K (by decide))
    have hp0 : 0 < 2 ^ (K % 64) := Nat.pow_pos (by decide)
    obtain ⟨f, hf⟩ : ∃ f : BitVec 64, f = BitVec.ofNat 64 (2 ^ (K % 64)) := ⟨_, rfl⟩
    have hfn : f.toNat = 2 ^ (K % 64) := by rw [hf, BitVec.toNat_ofNat]; exact Nat.mod_eq_of_lt hp2
    have ex : ixor .u64 (Pack.uw U1[K / 64]) ((2 ^ (K % 64) : Nat) : Int) = Pack.uw (U1[K / 64] ^^^ f) := by rw [← hfn]; exact un_xor64 _ _
    have hne : U1[K / 64] ^^^ f ≠ U1[K / 64] := by
      intro h
      have h2 := congrArg (fun z => U1[K / 64] ^^^ z) h
      simp only [← BitVec.xor_assoc, BitVec.xor_self, BitVec.zero_xor] at h2
      have : f.toNat = 0 := by rw [h2]; rfl
      omega
    have eat : at? W1 ((K / 64 : Nat) : Int) = some (Pack.uw U1[K / 64]) := by rw [t1]; exact at_w hq
    rw [eat, Option.bind_some, ex, set?_nat _ (by omega), Option.bind_some]
    have hset : W1.set (K / 64) (Pack.uw (U1[K / 64] ^^^ f)) = (U1.set (K / 64) (U1[K / 64] ^^^ f)).map Pack.uw := by rw [t1, List.map_set]
    rw [hset, t2]
    rcases from_any (u := u) (n := l1.length) (U1.set (K / 64) (U1[K / 64] ^^^ f)) U2 (by omega) hlen with e | ⟨S', l', e, hG', hl', hS', hW'⟩
    · rw [e]; rfl
    · rw [e, Option.bind_some]
      simp only []
      rw [if_neg (by simp), Option.bind_some]
      have hdiff : l' ≠ l1 := by
        intro h
        subst h
        obtain ⟨X1, X2, x1, x2, _, _⟩ := Sparse.words_ok hS' hG' (by omega)
        rw [w2] at x2
        rw [hW'] at x1
        have hx1 : (U1.set (K / 64) (U1[K / 64] ^^^ f)).map Pack.uw = X1 := by
          have := x1; simp only [Option.some.injEq, Prod.mk.injEq] at this; exact this.1
        have hx2 : W1 = X1 := by
          have := x2; simp only [Option.some.injEq, Prod.mk.injEq] at this; exact this.1
        have h3 := congrArg (fun z : List Int => z[K / 64]?) (hx1.trans hx2.symm)
        rw [t1, List.getElem?_map, List.getElem?_map, List.getElem?_set, if_pos rfl, if_pos hq, List.getElem?_eq_getElem hq] at h3
        have h4 : Pack.uw (U1[K / 64] ^^^ f) = Pack.uw U1[K / 64] := by simpa using h3
        exact hne (BitVec.eq_of_toNat_eq (by have : ((U1[K / 64] ^^^ f).toNat : Int) = (U1[K / 64].toNat : Int) := h4; omega))
      have k2 : ∀ (m k i : Nat), l1.length - i = m → m < k → i ≤ l1.length → colophonlaw03_SparseBack.l2 l1 S' k (i : Int) = some (.inl true) ∨ (∀ j, i ≤ j → j < l1.length → l'.getD j 0 = l1.getD j 0) := by
        intro m
        induction m with
        | zero => intro k i hm hk hi; exact .inr (fun j a b => by omega)
        | succ m ih => intro k i hm hk hi; cases k with
          | zero => omega
          | succ k =>
            unfold colophonlaw03_SparseBack.l2
            rw [if_pos (by simp; omega), at_g (by omega), Option.bind_some, at_ok hS' hG' hu (by omega), Option.bind_some]
            by_cases he : l'.getD i 0 = l1.getD i 0
            · rw [if_neg (by rw [bne_iff_ne]; exact fun h => h he), wi_eq (by omega) (by omega), show ((i : Int) + 1) = ((i + 1 : Nat) : Int) by omega]
              rcases ih k (i + 1) (by omega) (by omega) (by omega) with h | h
              · exact .inl h
              · exact .inr (fun j a b => by
                  by_cases e : j = i
                  · rw [e]; exact he
                  · exact h j (by omega) b)
            · rw [if_pos (by rw [bne_iff_ne]; exact he)]; exact .inl rfl
      have := k2 l1.length FU 0 (by omega) (by show l1.length < 4611686018427387904; omega) (by omega)
      rw [show ((0 : Nat) : Int) = 0 from rfl] at this
      rcases this with h | h
      · rw [h]; rfl
      · exact absurd (ext_get hl' (fun i hi => h i (by omega) (by omega))) hdiff
theorem pure_SparseFrom (a0 : Int) (F0 : Fits (.int .i64) a0) (a1 : Int) (F1 : Fits (.int .i64) a1) (l2_0 : List Int) (F2_0 : Fits (.slice 43 (.int .u64)) l2_0) (l2_1 : List Int) (F2_1 : Fits (.slice 43 (.int .u64)) l2_1) : colophonlaw03_SparseFrom.f a0 a1 l2_0 l2_1 = some true := by
  obtain ⟨U1, rfl⟩ := u64_ex F2_0
  obtain ⟨U2, rfl⟩ := u64_ex F2_1
  unfold colophonlaw03_SparseFrom.f
  rw [first_f, Option.bind_some, if_neg (by simp)]
  by_cases h1 : imax ((U1.map Pack.uw).length : Int) ((U2.map Pack.uw).length : Int) > 200
  · rw [if_pos (by simpa using h1)]
  rw [if_neg (by simpa using h1)]
  have hbad : ∀ r : Option (Int × Int × Int × (Option (Int × (List Int) × (List Int) × Int)) × (Option (Int × Int × (List Int))) × (Option (Int × Int × (List Int)))) × Int, r = (none, 2) → (if (r.2 == 2) then (match r.1 with | none => some true | some _ => some false) else some false) = some true := fun r h => by subst h; rfl
  by_cases h2 : a0 > 20000
  · rw [if_pos (by simpa using h2)]
    by_cases h3 : a0 ≤ 4194304
    · rw [if_pos (by simpa using h3)]
      by_cases h4 : a1 ≤ a0
      · rw [if_pos (by simpa using h4)]
      rw [if_neg (by simpa using h4), from_bad (by omega), Option.bind_some, if_neg (by rw [decide_eq_true_eq]; omega), if_neg (by rw [decide_eq_true_eq]; omega)]
      by_cases h5 : a1 < 0
      · rw [if_pos (by simpa using h5)]; rfl
      · rw [if_neg (by simpa using h5), if_pos (by rw [decide_eq_true_eq]; omega)]; rfl
    · rw [if_neg (by simpa using h3), from_bad (by omega), Option.bind_some, if_neg (by rw [decide_eq_true_eq]; omega), if_pos (by rw [decide_eq_true_eq]; omega)]; rfl
  rw [if_neg (by simpa using h2)]
  by_cases h0 : a0 < 0
  · rw [from_bad (by omega), Option.bind_some, if_pos (by simpa using h0)]; rfl
  by_cases h5 : a1 < 0
  · rw [from_bad (by omega), Option.bind_some, if_neg (by simpa using h0), if_neg (by rw [decide_eq_true_eq]; omega), if_pos (by simpa using h5)]; rfl
  by_cases h6 : a1 > a0
  · rw [from_bad (by omega), Option.bind_some, if_neg (by simpa using h0), if_neg (by rw [decide_eq_true_eq]; omega), if_neg (by simpa using h5), if_pos (by simpa using h6)]; rfl
  obtain ⟨u, rfl⟩ : ∃ u : Nat, a0 = (u : Int) := ⟨a0.toNat, by omega⟩
  obtain ⟨n, rfl⟩ : ∃ n : Nat, a1 = (n : Int) := ⟨a1.toNat, by omega⟩
  have hu : u ≤ 4194304 := by omega
  rcases from_any (u := u) (n := n) U1 U2 (by omega) (by omega) with e | ⟨S, l, e, hG, hl, hS, hW⟩
  · rw [e, Option.bind_some, if_neg (by simpa using h0), if_neg (by rw [decide_eq_true_eq]; omega), if_neg (by simpa using h5), if_neg (by simpa using h6)]; rfl
  · rw [e, Option.bind_some, if_neg (by simpa using h0), if_neg (by rw [decide_eq_true_eq]; omega), if_neg (by simpa using h5), if_neg (by simpa using h6)]
    simp only []
    rw [if_neg (by simp), Option.bind_some]
    have key : ∀ (x k i : Nat) (L : List Int), n - i = x → x < k → i ≤ n → L = l.take i → colophonlaw03_SparseFrom.l3 (n : Int) S k L (i : Int) = some l := by
      intro x
      induction x with
      | zero => intro k i L hx hk hi hL; cases k with
        | zero => omega
        | succ k => unfold colophonlaw03_SparseFrom.l3; rw [if_neg (by simp; omega), hL, show i = l.length by omega, List.take_length]
      | succ x ih => intro k i L hx hk hi hL; cases k with
        | zero => omega
        | succ k =>
          unfold colophonlaw03_SparseFrom.l3
          have hil : i < l.length := by omega
          rw [if_pos (by simp; omega), at_ok hS hG hu hil, Option.bind_some, app?_eq (by rw [hL]; simp; omega), Option.bind_some, wi_eq (n := (i : Int) + 1) (by omega) (by omega), show ((i : Int) + 1) = ((i + 1 : Nat) : Int) by omega]
          refine ih k (i + 1) _ (by omega) (by omega) (by omega) ?_
          rw [hL, List.take_add_one, List.getElem?_eq_getElem hil, List.getD_eq_getElem?_getD, List.getElem?_eq_getElem hil]; rfl
    have e3 := key n FU 0 [] (by omega) (by show n < 4611686018427387904; omega) (by omega) rfl
    rw [show ((0 : Nat) : Int) = 0 from rfl] at e3
    obtain ⟨X1, X2, x1, x2, y1, y2⟩ := Sparse.words_ok hS hG (by omega)
    rw [hW] at x1
    have hx : U1.map Pack.uw = X1 ∧ U2.map Pack.uw = X2 := by
      have := x1; simp only [Option.some.injEq, Prod.mk.injEq] at this; exact this
    obtain ⟨b, eb, hb⟩ := right_ok (u := (u : Int)) (l := l) (by omega)
    have hbt : b = true := hb.2 ⟨by omega, by omega, by rw [Int.toNat_natCast]; exact hG⟩
    clear hb
    rw [e3, Option.bind_some, hW, Option.bind_some, x2, Option.bind_some, len_ok hS, Option.bind_some, if_pos (by rw [beq_iff_eq]; omega), bound_ok hS, Option.bind_some, if_pos (by simp), eb, Option.bind_some, hbt, if_pos rfl]
    simp only []
    rw [hx.1, hx.2, Refw.same_refl _ (by omega), Option.bind_some, if_pos rfl, Refw.same_refl _ (by omega), Option.bind_some, if_pos rfl, Option.bind_some, if_pos rfl, Option.bind_some]
end Go.Proofs.Ytomeiphaohjeoaa
