/-
  The plain laws of layer rmq without the document's answer. No condition.
-/
import Derived.Test.YtadmnacpjjgdnaaPuRmqB
import Derived.Test.YtadmnacpjjgdnaaGRmqFirst
import Derived.Test.YtadmnacpjjgdnaaGRmqMoves
import Derived.Test.YtadmnacpjjgdnaaGRmqAll
namespace Go.Proofs.Ytadmnacpjjgdnaa
open Go Go.Gol Rmq
set_option linter.unusedVariables false
set_option linter.unusedSimpArgs false
set_option maxRecDepth 100000
namespace Rmq
theorem Best.shift {l l' : List Int} {S : Nat → Prop} {r : Int} (h : Best l S r) (c : Int) (e : ∀ j, S j → l'.getD j 0 = l.getD j 0 + c) : Best l' S r := by
  rcases h with h | ⟨q, rfl, hq, hm⟩
  · exact .inl h
  · refine .inr ⟨q, rfl, hq, fun j hj => ?_⟩
    have := hm j hj
    rw [e j hj, e q hq]
    exact ⟨by omega, fun h => by have := this.2 h; omega⟩
end Rmq
theorem pure_RmqFirst (a0 : Int) (F0 : Fits (.int .u16) a0) (a1 : Int) (F1 : Fits (.int .i64) a1) (a2_0 : Int) (F2_0 : Fits (.int .i64) a2_0) (a2_1 : Int) (F2_1 : Fits (.int .i64) a2_1) : colophonlaw14_RmqFirst.f a0 a1 a2_0 a2_1 = some true := by
  have F : 0 ≤ a0 ∧ a0 ≤ 65535 := F0
  obtain ⟨n, hn, hn3⟩ : ∃ n : Nat, Int.tmod a0 300 = (n : Int) ∧ n < 300 := ⟨(a0 % 300).toNat, by rw [Int.tmod_eq_emod_of_nonneg F.1]; omega, by omega⟩
  have key : ∀ (m k i : Nat), n - i = m → m < k → i ≤ n → colophonlaw14_RmqFirst.l1 a0 a1 k (List.replicate i a1) (i : Int) = some (List.replicate n a1) := by
    intro m
    induction m with
    | zero => intro k i hm hk hi; cases k with
      | zero => omega
      | succ k => unfold colophonlaw14_RmqFirst.l1; rw [hn, if_neg (by simp; omega), show i = n by omega]
    | succ m ih => intro k i hm hk hi; cases k with
      | zero => omega
      | succ k =>
        unfold colophonlaw14_RmqFirst.l1
        rw [hn, if_pos (by simp; omega), app?_eq (by simp; omega), Option.bind_some, wrap_u16_eq, show ((i : Int) + 1) % 65536 = ((i + 1 : Nat) : Int) by omega, ← List.replicate_succ']
        exact ih k (i + 1) (by omega) (by omega) (by omega)
  have e := key n FU 0 (by omega) (by show n < 4611686018427387904; omega) (by omega)
  rw [show ((0 : Nat) : Int) = 0 from rfl, List.replicate_zero] at e
  unfold colophonlaw14_RmqFirst.f
  rw [first_f, Option.bind_some, if_neg (by simp), e, Option.bind_some]
  obtain ⟨rows, h1, h2⟩ := new_ok (l := List.replicate n a1) (by simp; omega)
  rw [h1, Option.bind_some]
  simp only []
  obtain ⟨r, g1, g2⟩ := least_ok (by simp; omega) h2 a2_0 a2_1
  rw [g1]
  simp only [Option.bind_some, List.length_replicate] at g2 ⊢
  have gd : ∀ j, j < n → (List.replicate n a1).getD j 0 = a1 := fun j hj => by simp [List.getD_eq_getElem?_getD, List.getElem?_replicate, hj]
  by_cases c1 : imax a2_0 0 ≥ (n : Int)
  · rw [if_pos (by simpa using c1)]
    have : r = -1 := g2.uniq (.inl ⟨fun j hj => by obtain ⟨h1, h2, h3⟩ := hj; unfold imax at c1; split at c1 <;> omega, rfl⟩)
    rw [this]; rfl
  rw [if_neg (by simpa using c1)]
  by_cases c2 : imax a2_0 0 ≥ a2_1
  · rw [if_pos (by simpa using c2)]
    have : r = -1 := g2.uniq (.inl ⟨fun j hj => by obtain ⟨h1, h2, h3⟩ := hj; unfold imax at c2; split at c2 <;> omega, rfl⟩)
    rw [this]; rfl
  rw [if_neg (by simpa using c2)]
  have : r = imax a2_0 0 := by
    refine g2.uniq (.inr ⟨(imax a2_0 0).toNat, ?_, ⟨?_, ?_, ?_⟩, fun j hj => ?_⟩)
    · unfold imax; split <;> omega
    · unfold imax; split <;> omega
    · unfold imax at *; split at c2 <;> omega
    · unfold imax at *; split at c1 <;> omega
    · obtain ⟨h1, h2, h3⟩ := hj
      rw [gd j h3, gd _ (by unfold imax at *; split at c1 <;> omega)]
      exact ⟨Int.le_refl _, fun h => by unfold imax at h; split at h <;> omega⟩
  rw [this]; simp
theorem pure_RmqMoves (l0 : List Int) (F0 : Fits (.slice 34 (.int .i8)) l0) (a1_0 : Int) (F1_0 : Fits (.int .i64) a1_0) (a1_1 : Int) (F1_1 : Fits (.int .i64) a1_1) (a2 : Int) (F2 : Fits (.int .i64) a2) : colophonlaw14_RmqMoves.f l0 a1_0 a1_1 a2 = some true := by
  unfold colophonlaw14_RmqMoves.f
  rw [first_f, Option.bind_some, if_neg (by simp)]
  by_cases hl : l0.length > 500
  · rw [if_pos (by simp; omega)]
  rw [if_neg (by simp; omega)]
  by_cases h0 : l0.length = 0
  · rw [if_pos (by simpa using h0)]
  rw [if_neg (by simpa using h0)]
  have fit : ∀ j, j < l0.length → -128 ≤ l0.getD j 0 ∧ l0.getD j 0 ≤ 127 := fun j hj => by
    have h : (-128 : Int) ≤ l0[j] ∧ l0[j] ≤ 127 := F0.2 _ (List.getElem_mem hj)
    rw [List.getD_eq_getElem?_getD, List.getElem?_eq_getElem hj]; exact h
  have tk : ∀ (f : Int → Int) (i : Nat), i < l0.length → (l0.take i).map f ++ [f (l0.getD i 0)] = (l0.take (i + 1)).map f := fun f i hi => by
    rw [List.take_add_one, List.map_append, List.getD_eq_getElem?_getD, List.getElem?_eq_getElem hi]; rfl
  have key : ∀ (m k i : Nat), l0.length - i = m → m < k → i ≤ l0.length → colophonlaw14_RmqMoves.l1 l0 k ((l0.take i).map id) ((l0.take i).map (· + 1000)) ((l0.take i).map id) (i : Int) = some (l0.map id, l0.map (· + 1000), l0.map id) := by
    intro m
    induction m with
    | zero => intro k i hm hk hi; cases k with
      | zero => omega
      | succ k => unfold colophonlaw14_RmqMoves.l1; rw [if_neg (by simp; omega), List.take_of_length_le (by omega)]
    | succ m ih => intro k i hm hk hi; cases k with
      | zero => omega
      | succ k =>
        unfold colophonlaw14_RmqMoves.l1
        have hf := fit i (by omega)
        rw [if_pos (by simp; omega), at_get (by omega), Option.bind_some, wi_eq (n := l0.getD i 0) (by omega) (by omega), wi_eq (n := l0.getD i 0 + 1000) (by omega) (by omega),
          app?_eq (by simp; omega), Option.bind_some, app?_eq (by simp; omega), Option.bind_some, Option.bind_some, wi_eq (by omega) (by omega), show ((i : Int) + 1) = ((i + 1 : Nat) : Int) by omega]
        have t1 := tk id i (by omega)
        have t2 := tk (· + 1000) i (by omega)
        simp only [id] at t1 t2 ⊢
        rw [t1, t2]
        exact ih k (i + 1) (by omega) (by omega) (by omega)
  have e := key l0.length FU 0 (by omega) (by show l0.length < 4611686018427387904; omega) (by omega)
  rw [show ((0 : Nat) : Int) = 0 from rfl] at e
  simp only [List.take_zero, List.map_nil, List.map_id_fun, id] at e
  have hwl : IntKind.wrap .u64 (l0.length : Int) = (l0.length : Int) := by rw [wrap_u64_eq]; omega
  obtain ⟨q, hq, hql⟩ : ∃ q : Nat, wi (Int.tmod (IntKind.wrap .u64 a2) (l0.length : Int)) = (q : Int) ∧ q < l0.length := by
    have h1 : 0 ≤ IntKind.wrap .u64 a2 := by rw [wrap_u64_eq]; omega
    have h2 := Int.emod_nonneg (IntKind.wrap .u64 a2) (show (l0.length : Int) ≠ 0 by omega)
    have h3 := Int.emod_lt_of_pos (IntKind.wrap .u64 a2) (show (0 : Int) < (l0.length : Int) by omega)
    refine ⟨(IntKind.wrap .u64 a2 % (l0.length : Int)).toNat, ?_, by omega⟩
    rw [Int.tmod_eq_emod_of_nonneg h1, wi_eq (by omega) (by omega)]; omega
  rw [e, Option.bind_some, hwl, hq, chk?_eq (decide_eq_true (by omega)), Option.bind_some]
  simp only []
  rw [at_get hql, Option.bind_some, set?_nat _ hql, Option.bind_some]
  obtain ⟨rx, x1, x2⟩ := new_ok (l := l0) (by omega)
  obtain ⟨ry, y1, y2⟩ := new_ok (l := l0.map (· + 1000)) (by simp; omega)
  obtain ⟨rz, z1, z2⟩ := new_ok (l := l0.set q (-500)) (by simp; omega)
  rw [x1, Option.bind_some, y1, Option.bind_some, z1, Option.bind_some]
  simp only []
  obtain ⟨r, gx, bx⟩ := least_ok (by omega) x2 a1_0 a1_1
  obtain ⟨r', gy, bY⟩ := least_ok (by simp; omega) y2 a1_0 a1_1
  obtain ⟨r'', gz, bz⟩ := least_ok (by simp; omega) z2 a1_0 a1_1
  simp only [List.length_map, List.length_set] at bY bz
  rw [gx, gy, gz]
  simp only [Option.bind_some]
  have e1 : r = r' := (bx.shift (l' := l0.map (· + 1000)) 1000 (fun j hj => by simp [List.getD_eq_getElem?_getD, List.getElem?_eq_getElem hj.2.2])).uniq bY
  subst e1
  have gset : ∀ j, j < l0.length → (l0.set q (-500)).getD j 0 = if q = j then -500 else l0.getD j 0 := fun j hj => by
    simp only [List.getD_eq_getElem?_getD, List.getElem?_set]; split <;> simp_all
  have hit : a1_0 ≤ (q : Int) → (q : Int) < a1_1 → r'' = (q : Int) := fun h1 h2 => by
    refine bz.uniq (.inr ⟨q, rfl, ⟨h1, h2, hql⟩, fun j hj => ?_⟩)
    rw [gset q hql, gset j hj.2.2, if_pos rfl]
    have := fit j hj.2.2
    by_cases h : q = j
    · rw [if_pos h]; exact ⟨by omega, fun h => by omega⟩
    · rw [if_neg h]; exact ⟨by omega, fun _ => by omega⟩
  have miss : ¬ (a1_0 ≤ (q : Int) ∧ (q : Int) < a1_1) → r'' = r := fun h => by
    refine bz.uniq (bx.shift 0 (fun j hj => ?_))
    rw [gset j hj.2.2, if_neg (fun e => h (by subst e; exact ⟨hj.1, hj.2.1⟩))]; omega
  by_cases c1 : (q : Int) ≥ a1_0
  · rw [if_pos (by simpa using c1)]
    by_cases c2 : (q : Int) < a1_1
    · rw [if_pos (by simpa using c2), if_pos (by simp), hit c1 c2]; simp
    · rw [if_neg (by simpa using c2), if_pos (by simp), miss (by omega)]; simp
  · rw [if_neg (by simpa using c1), if_pos (by simp), miss (by omega)]; simp
theorem pure_RmqAll (l0 : List Int) (F0 : Fits (.slice 34 (.int .i8)) l0) (a1 : Int) (F1 : Fits (.int .i64) a1) : colophonlaw14_RmqAll.f l0 a1 = some true := by
  unfold colophonlaw14_RmqAll.f
  rw [first_f, Option.bind_some, if_neg (by simp)]
  have k2 : ∀ (t : Int) (m k i : Nat) (x : List Int), 30 - i = m → m < k → x.length + (30 - i) ≤ 1000 → i ≤ 30 → ∃ y, colophonlaw14_RmqAll.l2 l0 t k x (i : Int) = some y ∧ y.length ≤ x.length + (30 - i) := by
    intro t m
    induction m with
    | zero => intro k i x hm hk hx hi; cases k with
      | zero => omega
      | succ k =>
        unfold colophonlaw14_RmqAll.l2
        by_cases h : i < l0.length
        · rw [if_pos (by simp; omega), if_neg (by simp; omega)]; exact ⟨x, rfl, by omega⟩
        · rw [if_neg (by simp; omega)]; exact ⟨x, rfl, by omega⟩
    | succ m ih => intro k i x hm hk hx hi; cases k with
      | zero => omega
      | succ k =>
        unfold colophonlaw14_RmqAll.l2
        by_cases h : i < l0.length
        · rw [if_pos (by simp; omega), if_pos (by simp; omega), at_get h, Option.bind_some, app?_eq (by simp; omega), Option.bind_some, wi_eq (n := (i : Int) + 1) (by omega) (by omega), show ((i : Int) + 1) = ((i + 1 : Nat) : Int) by omega]
          obtain ⟨y, y1, y2⟩ := ih k (i + 1) (x ++ [wi (wi (l0.getD i 0) * wi (1 + Int.tmod t 2))]) (by omega) (by omega) (by simp; omega) (by omega)
          exact ⟨y, y1, by simp at y2; omega⟩
        · rw [if_neg (by simp; omega)]; exact ⟨x, rfl, by omega⟩
  obtain ⟨w, hw, hw20⟩ : ∃ w : Nat, wi (1 + (wi (Int.tmod (IntKind.wrap .u64 a1) 20))) = (w : Int) ∧ w ≤ 20 := by
    have h1 : 0 ≤ IntKind.wrap .u64 a1 := by rw [wrap_u64_eq]; omega
    refine ⟨1 + (IntKind.wrap .u64 a1 % 20).toNat, ?_, by omega⟩
    rw [Int.tmod_eq_emod_of_nonneg h1, wi_eq (n := IntKind.wrap .u64 a1 % 20) (by omega) (by omega), wi_eq (by omega) (by omega)]; omega
  have k1 : ∀ (m k i : Nat) (x : List Int), w - i = m → m < k → i ≤ w → x.length ≤ 30 * i → ∃ y, colophonlaw14_RmqAll.l1 l0 a1 k x (i : Int) = some y ∧ y.length ≤ 600 := by
    intro m
    induction m with
    | zero => intro k i x hm hk hi hx; cases k with
      | zero => omega
      | succ k => unfold colophonlaw14_RmqAll.l1; rw [hw, if_neg (by simp; omega)]; exact ⟨x, rfl, by omega⟩
    | succ m ih => intro k i x hm hk hi hx; cases k with
      | zero => omega
      | succ k =>
        unfold colophonlaw14_RmqAll.l1
        obtain ⟨y, y1, y2⟩ := k2 (i : Int) 30 FU 0 x (by omega) (by decide) (by omega) (by omega)
        rw [show ((0 : Nat) : Int) = 0 from rfl] at y1
        rw [hw, if_pos (by simp; omega), y1, Option.bind_some, wi_eq (by omega) (by omega), show ((i : Int) + 1) = ((i + 1 : Nat) : Int) by omega]
        exact ih k (i + 1) y (by omega) (by omega) (by omega) (by omega)
  obtain ⟨x, x1, x2⟩ := k1 w FU 0 [] (by omega) (by show w < 4611686018427387904; omega) (by omega) (by simp)
  rw [show ((0 : Nat) : Int) = 0 from rfl] at x1
  rw [x1, Option.bind_some]
  obtain ⟨rows, t1, t2⟩ := new_ok (l := x) (by omega)
  rw [t1, Option.bind_some]
  simp only [Option.bind_some]
  have k4 : ∀ (a : Nat) (m k b : Nat) (best : Int), x.length - b = m → m < k → a ≤ b → b ≤ x.length → Best x (fun j => a ≤ j ∧ j < b) best → colophonlaw14_RmqAll.l4 x (x, rows) (a : Int) (k + 1) best (b : Int) = some (.inr ()) := by
    intro a m
    induction m with
    | zero => intro k b best hm hk ha hb h; cases k with
      | zero => omega
      | succ k =>
        have : b = x.length := by omega
        subst this
        unfold colophonlaw14_RmqAll.l4
        obtain ⟨r, g1, g2⟩ := least_ok (by omega) t2 (a : Int) (x.length : Int)
        have : r = best := g2.uniq (h.congr fun j => by unfold In; omega)
        subst this
        rw [if_pos (by simp), g1, Option.bind_some, if_neg (by simp), if_neg (by simp), wi_eq (by omega) (by omega)]
        unfold colophonlaw14_RmqAll.l4
        rw [if_neg (by simp; omega)]
    | succ m ih => intro k b best hm hk ha hb h; cases k with
      | zero => omega
      | succ k =>
        unfold colophonlaw14_RmqAll.l4
        obtain ⟨r, g1, g2⟩ := least_ok (by omega) t2 (a : Int) (b : Int)
        have : r = best := g2.uniq (h.congr fun j => by unfold In; omega)
        subst this
        have one : Best x (fun j => j = b) (b : Int) := .inr ⟨b, rfl, rfl, fun j hj => by subst hj; exact ⟨Int.le_refl _, fun h => by omega⟩⟩
        rw [if_pos (by simp; omega), g1, Option.bind_some, if_neg (by simp), if_pos (by simp; omega), wi_eq (by omega) (by omega), show ((b : Int) + 1) = ((b + 1 : Nat) : Int) by omega]
        rcases h with ⟨h1, rfl⟩ | ⟨q, rfl, hq, hmn⟩
        · rw [if_pos (by simp)]
          exact ih k (b + 1) _ (by omega) (by omega) (by omega) (by omega) (one.congr fun j => by have := h1 j; omega)
        · rw [if_neg (by simp), at_get (by omega), Option.bind_some, at_get (by omega), Option.bind_some]
          by_cases c : x.getD b 0 < x.getD q 0
          · rw [if_pos (by simpa using c)]
            refine ih k (b + 1) _ (by omega) (by omega) (by omega) (by omega) (.inr ⟨b, rfl, by omega, fun j hj => ?_⟩)
            by_cases hj2 : j = b
            · subst hj2; exact ⟨Int.le_refl _, fun h => by omega⟩
            · have := hmn j (by omega); exact ⟨by omega, fun _ => by omega⟩
          · rw [if_neg (by simpa using c)]
            refine ih k (b + 1) _ (by omega) (by omega) (by omega) (by omega) (.inr ⟨q, rfl, by omega, fun j hj => ?_⟩)
            by_cases hj2 : j = b
            · subst hj2; exact ⟨by omega, fun h => by omega⟩
            · exact hmn j (by omega)
  obtain ⟨st, hst, hst1⟩ : ∃ s : Nat, wi (1 + (wi (Int.tdiv (x.length : Int) 40))) = (s : Int) ∧ 1 ≤ s ∧ s ≤ 1000 := by
    refine ⟨1 + x.length / 40, ?_, by omega, by omega⟩
    rw [Int.tdiv_eq_ediv_of_nonneg (by omega), wi_eq (n := (x.length : Int) / 40) (by omega) (by omega), wi_eq (by omega) (by omega)]; omega
  have k3 : ∀ (m k a : Nat), x.length - a = m → m < k → colophonlaw14_RmqAll.l3 x (x, rows) k (a : Int) = some (.inr ()) := by
    intro m
    induction m using Nat.strongRecOn with
    | _ m ih =>
      intro k a hm hk; cases k with
      | zero => omega
      | succ k =>
        unfold colophonlaw14_RmqAll.l3
        by_cases h1 : a < x.length
        · rw [if_pos (by simp; omega)]
          by_cases h2 : a < 300
          · have e4 := k4 a (x.length - a) (FU - 1) a (-1) rfl (by show x.length - a < 4611686018427387903; omega) (Nat.le_refl _) (by omega) (.inl ⟨fun j => by omega, rfl⟩)
            rw [show FU - 1 + 1 = FU from rfl] at e4
            rw [if_pos (by simp; omega), e4, Option.bind_some, hst, wi_eq (by omega) (by omega), show ((a : Int) + (st : Int)) = ((a + st : Nat) : Int) by omega]
            exact ih (x.length - (a + st)) (by omega) k (a + st) rfl (by omega)
          · rw [if_neg (by simp; omega)]
        · rw [if_neg (by simp; omega)]
  have e3 := k3 x.length FU 0 (by omega) (by show x.length < 4611686018427387904; omega)
  rw [show ((0 : Nat) : Int) = 0 from rfl] at e3
  rw [e3, Option.bind_some]
end Go.Proofs.Ytadmnacpjjgdnaa
