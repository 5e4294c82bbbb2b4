/-
  Caches in plain words: where a page is; the hand goes round. No condition.
-/
import Derived.Test.YtbcdcpkofgfofaaPuCaA
namespace Go.Proofs.Ytbcdcpkofgfofaa
open Go Go.Gol
set_option linter.unusedVariables false
set_option linter.unusedSimpArgs false
set_option maxRecDepth 100000
namespace Ca
open Crc Page Img
abbrev Rr := Int × Int × Bool
abbrev Rx := Int × List Rr × Int × Int × Int
def pr (f : Fr) : Rr := (f.1, f.2.2.2, f.2.2.1)
def er (f : Fr) : Int × List Int × Int := (f.1, f.2.1, f.2.2.2)
def fidx {α : Type} (p : α → Bool) : List α → Nat → Option Nat
  | [], _ => none
  | x :: l, i => if p x = true then some i else fidx p l (i + 1)
theorem fidx_some {α : Type} {p : α → Bool} : ∀ {l : List α} {i j : Nat}, fidx p l i = some j → ∃ d, j = i + d ∧ ∃ x, l[d]? = some x ∧ p x = true
  | [], _, _, h => by cases h
  | x :: l, i, j, h => by
    unfold fidx at h
    by_cases hx : p x = true
    · rw [if_pos hx] at h; exact ⟨0, by simpa using h.symm, x, rfl, hx⟩
    · rw [if_neg hx] at h
      obtain ⟨d, h1, y, h2, h3⟩ := fidx_some h
      exact ⟨d + 1, by omega, y, by simpa using h2, h3⟩
theorem fidx_none {α : Type} {p : α → Bool} : ∀ {l : List α} {i : Nat}, fidx p l i = none → ∀ x ∈ l, p x = false
  | [], _, _, x, hx => by cases hx
  | y :: l, i, h, x, hx => by
    unfold fidx at h
    by_cases hy : p y = true
    · rw [if_pos hy] at h; cases h
    · rw [if_neg hy] at h
      rcases List.mem_cons.1 hx with rfl | hx
      · simpa using hy
      · exact fidx_none h x hx
theorem fidx_map {α β : Type} (g : α → β) (p : β → Bool) : ∀ (l : List α) (i : Nat), fidx p (l.map g) i = fidx (fun x => p (g x)) l i
  | [], _ => rfl
  | x :: l, i => by
    show (if p (g x) = true then some i else fidx p (l.map g) (i + 1)) = (if p (g x) = true then some i else fidx (fun x => p (g x)) l (i + 1))
    rw [fidx_map g p l]
def atI : Option Nat → Int | some i => (i : Int) | none => -1
theorem at_nat {α : Type} {l : List α} {i : Nat} (h : i < l.length) : at? l (i : Int) = some l[i] := by rw [at?_nat, List.getElem?_eq_getElem h]
theorem at_l1 (n : Int) (c : Cx) (hl : c.2.1.length ≤ 5000) : ∀ (m k i : Nat), c.2.1.length - i = m → m < k → i ≤ c.2.1.length →
    cache_Cache_at.l1 n c k (i : Int) = some (match fidx (fun f => f.1 == n) (c.2.1.drop i) i with | some j => .inl (j : Int) | none => .inr ()) := by
  intro m
  induction m with
  | zero => intro k i h1 h2 h3; cases k with
    | zero => omega
    | succ k =>
      rw [cache_Cache_at.l1, if_neg (by rw [decide_eq_true_eq]; omega), List.drop_of_length_le (by omega)]; rfl
  | succ m ih => intro k i h1 h2 h3; cases k with
    | zero => omega
    | succ k =>
      have hil : i < c.2.1.length := by omega
      rw [cache_Cache_at.l1, if_pos (by rw [decide_eq_true_eq]; omega), at_nat hil, Option.bind_some, List.drop_eq_getElem_cons hil, fidx, wi_eq (by omega) (by omega), show ((i : Int) + 1) = ((i + 1 : Nat) : Int) by omega, ih k (i + 1) (by omega) (by omega) (by omega)]
      by_cases hp : (c.2.1[i].1 == n) = true
      · rw [if_pos hp, if_pos hp]
      · rw [if_neg hp, if_neg hp]
theorem at_f (n : Int) (c : Cx) (hl : c.2.1.length ≤ 5000) : cache_Cache_at.f (some c) n = some (atI (fidx (fun f => f.1 == n) c.2.1 0)) := by
  unfold cache_Cache_at.f
  have h := at_l1 n c hl c.2.1.length FU 0 (by omega) (by show c.2.1.length < 4611686018427387904; omega) (by omega)
  rw [show ((0 : Nat) : Int) = 0 from rfl, List.drop_zero] at h
  rw [Option.bind_some, h, Option.bind_some]
  cases fidx (fun f : Fr => f.1 == n) c.2.1 0 <;> rfl
theorem rat_l1 (n : Int) (c : Rx) (hl : c.2.1.length ≤ 5000) : ∀ (m k i : Nat), c.2.1.length - i = m → m < k → i ≤ c.2.1.length →
    colophonref07_Cache_at.l1 n c k (i : Int) = some (match fidx (fun f => f.1 == n) (c.2.1.drop i) i with | some j => .inl (j : Int) | none => .inr ()) := by
  intro m
  induction m with
  | zero => intro k i h1 h2 h3; cases k with
    | zero => omega
    | succ k =>
      rw [colophonref07_Cache_at.l1, if_neg (by rw [decide_eq_true_eq]; omega), List.drop_of_length_le (by omega)]; rfl
  | succ m ih => intro k i h1 h2 h3; cases k with
    | zero => omega
    | succ k =>
      have hil : i < c.2.1.length := by omega
      rw [colophonref07_Cache_at.l1, if_pos (by rw [decide_eq_true_eq]; omega), at_nat hil, Option.bind_some, List.drop_eq_getElem_cons hil, fidx, wi_eq (by omega) (by omega), show ((i : Int) + 1) = ((i + 1 : Nat) : Int) by omega, ih k (i + 1) (by omega) (by omega) (by omega)]
      by_cases hp : (c.2.1[i].1 == n) = true
      · rw [if_pos hp, if_pos hp]
      · rw [if_neg hp, if_neg hp]
theorem rat_f (n : Int) (c : Rx) (hl : c.2.1.length ≤ 5000) : colophonref07_Cache_at.f (some c) n = some (atI (fidx (fun f => f.1 == n) c.2.1 0)) := by
  unfold colophonref07_Cache_at.f
  have h := rat_l1 n c hl c.2.1.length FU 0 (by omega) (by show c.2.1.length < 4611686018427387904; omega) (by omega)
  rw [show ((0 : Nat) : Int) = 0 from rfl, List.drop_zero] at h
  rw [Option.bind_some, h, Option.bind_some]
  cases fidx (fun f : Rr => f.1 == n) c.2.1 0 <;> rfl
theorem rat_pr (n : Int) (N1 : Int) (fs : List Fr) (h a b : Int) (hl : fs.length ≤ 5000) : colophonref07_Cache_at.f (some (N1, fs.map pr, h, a, b)) n = some (atI (fidx (fun f => f.1 == n) fs 0)) := by
  rw [rat_f n (N1, fs.map pr, h, a, b) (by show (fs.map pr).length ≤ 5000; rw [List.length_map]; exact hl)]
  show some (atI (fidx _ (fs.map pr) 0)) = _
  rw [fidx_map]; rfl
theorem free_l1 (c : Cx) (hl : c.2.1.length ≤ 5000) : ∀ (m k i : Nat), c.2.1.length - i = m → m < k → i ≤ c.2.1.length →
    cache_Cache_free.l1 c k (i : Int) = some (match fidx (fun f => f.2.2.2 == 0) (c.2.1.drop i) i with | some j => .inl (j : Int) | none => .inr ()) := by
  intro m
  induction m with
  | zero => intro k i h1 h2 h3; cases k with
    | zero => omega
    | succ k =>
      rw [cache_Cache_free.l1, if_neg (by rw [decide_eq_true_eq]; omega), List.drop_of_length_le (by omega)]; rfl
  | succ m ih => intro k i h1 h2 h3; cases k with
    | zero => omega
    | succ k =>
      have hil : i < c.2.1.length := by omega
      rw [cache_Cache_free.l1, if_pos (by rw [decide_eq_true_eq]; omega), at_nat hil, Option.bind_some, List.drop_eq_getElem_cons hil, fidx, wi_eq (by omega) (by omega), show ((i : Int) + 1) = ((i + 1 : Nat) : Int) by omega, ih k (i + 1) (by omega) (by omega) (by omega)]
      by_cases hp : (c.2.1[i].2.2.2 == 0) = true
      · rw [if_pos hp, if_pos hp]
      · rw [if_neg hp, if_neg hp]
/-! ### the hand -/
def unm (f : Fr) : Fr := (f.1, f.2.1, false, f.2.2.2)
def nx (K h : Nat) : Nat := (h + 1) % K
def clk : Nat → List Fr → Nat → Option (Nat × List Fr × Nat)
  | 0, _, _ => none
  | s + 1, fs, h => match fs[h]? with
    | none => none
    | some f => if f.2.2.2 > 0 then clk s fs (nx fs.length h) else if f.2.2.1 = true then clk s (fs.set h (unm f)) (nx fs.length h) else some (h, fs, nx fs.length h)
theorem nx_lt {K h : Nat} (hK : 0 < K) : nx K h < K := Nat.mod_lt _ hK
theorem er_set {fs : List Fr} {h : Nat} {f : Fr} (hf : fs[h]? = some f) : (fs.set h (unm f)).map er = fs.map er := by
  apply List.ext_getElem?
  intro j
  rw [List.getElem?_map, List.getElem?_map, List.getElem?_set]
  by_cases hj : h = j
  · subst hj
    have hl : h < fs.length := by
      rcases Nat.lt_or_ge h fs.length with q | q
      · exact q
      · rw [List.getElem?_eq_none q] at hf; cases hf
    rw [if_pos rfl, if_pos hl, hf]; rfl
  · rw [if_neg hj]
theorem tm_nx {K h : Nat} (hh : h < K) (hK : K ≤ 5000) : Int.tmod (wi ((h : Int) + 1)) (K : Int) = ((nx K h : Nat) : Int) := by
  rw [wi_eq (by omega) (by omega), Int.tmod_eq_emod_of_nonneg (by omega), show ((h : Int) + 1) = ((h + 1 : Nat) : Int) by omega]
  unfold nx; exact (Int.natCast_emod _ _).symm
theorem clk_l (l : Nat → Cx → Option (Int × Cx)) (h0 : ∀ k q, l (k + 1) q = ((at? q.2.1 q.2.2.1).bind fun v => ((chk? (decide ((q.2.1.length : Int) ≠ 0))).bind fun _ => (if decide (v.2.2.2 > 0) then l k (q.1, q.2.1, Int.tmod (wi (q.2.2.1 + 1)) (q.2.1.length : Int), q.2.2.2.1, q.2.2.2.2) else (if v.2.2.1 then l k (q.1, (List.set q.2.1 (q.2.2.1).toNat (v.1, v.2.1, false, v.2.2.2)), Int.tmod (wi (q.2.2.1 + 1)) (q.2.1.length : Int), q.2.2.2.1, q.2.2.2.2) else some (q.2.2.1, (q.1, q.2.1, Int.tmod (wi (q.2.2.1 + 1)) (q.2.1.length : Int), q.2.2.2.1, q.2.2.2.2))))))) (m : Option Obj3) (a b : Int) :
    ∀ (s : Nat) (fs : List Fr) (h : Nat) (r : Nat × List Fr × Nat), h < fs.length → fs.length ≤ 5000 → clk s fs h = some r → ∀ k, s ≤ k → l k (m, fs, (h : Int), a, b) = some ((r.1 : Int), (m, r.2.1, (r.2.2 : Int), a, b)) := by
  intro s
  induction s with
  | zero => intro fs h r _ _ e; cases e
  | succ s ih =>
    intro fs h r hh hl e k hk
    cases k with
    | zero => omega
    | succ k =>
      unfold clk at e
      rw [List.getElem?_eq_getElem hh] at e
      simp only [] at e
      have hn := nx_lt (K := fs.length) (h := h) (by omega)
      rw [h0]
      simp only []
      rw [at_nat hh, Option.bind_some, chk?_eq (by rw [decide_eq_true_eq]; omega), Option.bind_some, tm_nx hh hl, Int.toNat_natCast]
      by_cases c1 : fs[h].2.2.2 > 0
      · rw [if_pos c1] at e
        rw [if_pos (by rw [decide_eq_true_eq]; exact c1)]
        exact ih fs _ r hn hl e k (by omega)
      · rw [if_neg c1] at e
        rw [if_neg (by rw [decide_eq_true_eq]; exact c1)]
        by_cases c2 : fs[h].2.2.1 = true
        · rw [if_pos c2] at e
          rw [if_pos c2]
          exact ih (fs.set h (unm fs[h])) _ r (by rw [List.length_set]; exact hn) (by rw [List.length_set]; exact hl) e k (by omega)
        · rw [if_neg c2] at e
          rw [if_neg c2]
          obtain rfl := Option.some.inj e
          rfl
/-- what the hand comes to -/
theorem clk_good : ∀ (s : Nat) (fs : List Fr) (h : Nat) (r : Nat × List Fr × Nat), h < fs.length → (∀ f ∈ fs, 0 ≤ f.2.2.2) → clk s fs h = some r →
    r.1 < fs.length ∧ r.2.2 < fs.length ∧ r.2.1.length = fs.length ∧ r.2.1.map er = fs.map er ∧ ∃ f, r.2.1[r.1]? = some f ∧ f.2.2.2 = 0 ∧ f.2.2.1 = false := by
  intro s
  induction s with
  | zero => intro fs h r _ _ e; cases e
  | succ s ih =>
    intro fs h r hh hp e
    unfold clk at e
    rw [List.getElem?_eq_getElem hh] at e
    simp only [] at e
    have hn := nx_lt (K := fs.length) (h := h) (by omega)
    by_cases c1 : fs[h].2.2.2 > 0
    · rw [if_pos c1] at e
      exact ih fs _ r hn hp e
    · rw [if_neg c1] at e
      by_cases c2 : fs[h].2.2.1 = true
      · rw [if_pos c2] at e
        have hp' : ∀ f ∈ fs.set h (unm fs[h]), 0 ≤ f.2.2.2 := fun f hf => by
          rcases List.mem_or_eq_of_mem_set hf with q | q
          · exact hp f q
          · rw [q]; show 0 ≤ fs[h].2.2.2; exact hp _ (List.getElem_mem hh)
        have := ih (fs.set h (unm fs[h])) _ r (by rw [List.length_set]; exact hn) hp' e
        rw [List.length_set, er_set (List.getElem?_eq_getElem hh)] at this
        exact this
      · rw [if_neg c2] at e
        obtain rfl := Option.some.inj e
        have h0 := hp _ (List.getElem_mem hh)
        exact ⟨hh, hn, rfl, rfl, fs[h], List.getElem?_eq_getElem hh, by omega, by simpa using c2⟩
theorem mod_step {K h d t : Nat} (e : (h + (d + 1)) % K = t) : (nx K h + d) % K = t := by
  unfold nx; rw [Nat.mod_add_mod, ← e]; congr 1; omega
theorem clk_ex1 : ∀ (d : Nat) (fs : List Fr) (h t : Nat) (f : Fr), h < fs.length → fs[t]? = some f → ¬ f.2.2.2 > 0 → f.2.2.1 = false → (h + d) % fs.length = t → ∃ r, clk (d + 1) fs h = some r := by
  intro d
  induction d with
  | zero =>
    intro fs h t f hh hf c1 c2 e
    rw [Nat.add_zero, Nat.mod_eq_of_lt hh] at e
    subst e
    refine ⟨(h, fs, nx fs.length h), ?_⟩
    unfold clk; rw [hf]; simp only []
    rw [if_neg c1, if_neg (by simp [c2])]
  | succ d ih =>
    intro fs h t f hh hf c1 c2 e
    have hn := nx_lt (K := fs.length) (h := h) (by omega)
    unfold clk
    rw [List.getElem?_eq_getElem hh]
    simp only []
    by_cases d1 : fs[h].2.2.2 > 0
    · rw [if_pos d1]; exact ih fs _ t f hn hf c1 c2 (mod_step e)
    · rw [if_neg d1]
      by_cases d2 : fs[h].2.2.1 = true
      · rw [if_pos d2]
        have hne : h ≠ t := fun q => by
          subst q
          rw [List.getElem?_eq_getElem hh] at hf
          rw [Option.some.inj hf, c2] at d2; cases d2
        exact ih (fs.set h (unm fs[h])) _ t f (by rw [List.length_set]; exact hn) (by rw [List.getElem?_set, if_neg hne]; exact hf) c1 c2 (by rw [List.length_set]; exact mod_step e)
      · rw [if_neg d2]; exact ⟨_, rfl⟩
theorem clk_ex2 : ∀ (d : Nat) (fs : List Fr) (h t : Nat) (f : Fr), h < fs.length → fs[t]? = some f → ¬ f.2.2.2 > 0 → (h + d) % fs.length = t → ∃ r, clk (d + 1 + fs.length) fs h = some r := by
  intro d
  induction d with
  | zero =>
    intro fs h t f hh hf c1 e
    rw [Nat.add_zero, Nat.mod_eq_of_lt hh] at e
    subst e
    have hn := nx_lt (K := fs.length) (h := h) (by omega)
    rw [show 0 + 1 + fs.length = fs.length + 1 by omega]
    unfold clk; rw [hf]; simp only []
    rw [if_neg c1]
    by_cases d2 : f.2.2.1 = true
    · rw [if_pos d2]
      obtain ⟨k, hk⟩ : ∃ k, fs.length = k + 1 := ⟨fs.length - 1, by omega⟩
      have := clk_ex1 k (fs.set h (unm f)) (nx fs.length h) h (unm f) (by rw [List.length_set]; exact hn) (by rw [List.getElem?_set, if_pos rfl, if_pos hh]) c1 rfl (by
        rw [List.length_set]
        unfold nx
        rw [Nat.mod_add_mod, show h + 1 + k = h + fs.length by omega, Nat.add_mod_right, Nat.mod_eq_of_lt hh])
      rw [← hk] at this
      exact this
    · rw [if_neg d2]; exact ⟨_, rfl⟩
  | succ d ih =>
    intro fs h t f hh hf c1 e
    have hn := nx_lt (K := fs.length) (h := h) (by omega)
    rw [show d + 1 + 1 + fs.length = (d + 1 + fs.length) + 1 by omega]
    unfold clk
    rw [List.getElem?_eq_getElem hh]
    simp only []
    by_cases d1 : fs[h].2.2.2 > 0
    · rw [if_pos d1]; exact ih fs _ t f hn hf c1 (mod_step e)
    · rw [if_neg d1]
      by_cases d2 : fs[h].2.2.1 = true
      · rw [if_pos d2]
        have hl : (fs.set h (unm fs[h])).length = fs.length := List.length_set
        have hf' : ∃ g, (fs.set h (unm fs[h]))[t]? = some g ∧ ¬ g.2.2.2 > 0 := by
          rw [List.getElem?_set]
          by_cases ht : h = t
          · rw [if_pos ht, if_pos hh]; exact ⟨_, rfl, d1⟩
          · rw [if_neg ht]; exact ⟨f, hf, c1⟩
        obtain ⟨g, hg, c1'⟩ := hf'
        have := ih (fs.set h (unm fs[h])) (nx fs.length h) t g (by rw [hl]; exact hn) hg c1' (by rw [hl]; exact mod_step e)
        rw [hl] at this
        exact this
      · rw [if_neg d2]; exact ⟨_, rfl⟩
theorem clk_ex {fs : List Fr} {h t : Nat} {f : Fr} (hh : h < fs.length) (hf : fs[t]? = some f) (c1 : ¬ f.2.2.2 > 0) : ∃ s r, s ≤ 2 * fs.length ∧ clk s fs h = some r := by
  have ht : t < fs.length := by
    rcases Nat.lt_or_ge t fs.length with q | q
    · exact q
    · rw [List.getElem?_eq_none q] at hf; cases hf
  by_cases hc : h ≤ t
  · obtain ⟨r, hr⟩ := clk_ex2 (t - h) fs h t f hh hf c1 (by rw [show h + (t - h) = t by omega, Nat.mod_eq_of_lt ht])
    exact ⟨_, r, by omega, hr⟩
  · obtain ⟨r, hr⟩ := clk_ex2 (t + fs.length - h) fs h t f hh hf c1 (by rw [show h + (t + fs.length - h) = t + fs.length by omega, Nat.add_mod_right, Nat.mod_eq_of_lt ht])
    exact ⟨_, r, by omega, hr⟩
/-! ### the document's hand -/
theorem ref_step (y : List Rr) (N1 : Int) (L : List Rr) (h : Nat) (a b : Int) (k x9 : Nat) (v : Rr) (hy : y.length = L.length) (hl : L.length ≤ 5000) (hh : h < L.length) (hv : L[h]? = some v) (hx : x9 < 2 * L.length) :
    colophonref07_Cache_Hold.l1 y (k + 1) (-1) (x9 : Int) (N1, L, (h : Int), a, b) = colophonref07_Cache_Hold.l1 y k (if v.2.1 = 0 ∧ v.2.2 = false then (h : Int) else -1) ((x9 + 1 : Nat) : Int) (N1, (if v.2.1 = 0 then L.set h (v.1, v.2.1, false) else L), ((nx L.length h : Nat) : Int), a, b) := by
  have hv' : at? L (h : Int) = some v := by rw [at?_nat]; exact hv
  rw [colophonref07_Cache_Hold.l1]
  simp only []
  rw [if_pos (by rw [decide_eq_true_eq, wi_eq (by omega) (by omega)]; omega), if_pos (by decide), hv', Option.bind_some, wi_eq (n := (x9 : Int) + 1) (by omega) (by omega), wi_eq (n := (h : Int) + 1) (by omega) (by omega), Int.toNat_natCast, show ((x9 : Int) + 1) = ((x9 + 1 : Nat) : Int) by omega]
  have hnx : (if (((h : Int) + 1 == (y.length : Int)) = true) then (0 : Int) else (h : Int) + 1) = ((nx L.length h : Nat) : Int) := by
    unfold nx
    by_cases q : h + 1 = L.length
    · rw [if_pos (by rw [beq_iff_eq]; omega), q, Nat.mod_self]; rfl
    · rw [if_neg (by rw [beq_iff_eq]; omega), Nat.mod_eq_of_lt (by omega)]; omega
  rw [← hnx]
  by_cases c3 : ((h : Int) + 1 == (y.length : Int)) = true
  · simp only [if_pos c3]
    by_cases c1 : v.2.1 = 0
    · simp only [c1, beq_self_eq_true, if_true]
      by_cases c2 : v.2.2 = false
      · simp [c2]
      · have c2' : v.2.2 = true := by simpa using c2
        simp [c2']
    · have c1' : (v.2.1 == 0) = false := by rw [beq_eq_false_iff_ne]; exact c1
      simp [c1, c1']
  · simp only [if_neg c3]
    by_cases c1 : v.2.1 = 0
    · simp only [c1, beq_self_eq_true, if_true]
      by_cases c2 : v.2.2 = false
      · simp [c2]
      · have c2' : v.2.2 = true := by simpa using c2
        simp [c2']
    · have c1' : (v.2.1 == 0) = false := by rw [beq_eq_false_iff_ne]; exact c1
      simp [c1, c1']
theorem ref_stop (y : List Rr) (q : Rx) (k : Nat) (x6 x9 : Int) (hy : y.length ≤ 5000) (h : 0 ≤ x6 ∨ 2 * (y.length : Int) ≤ x9) : colophonref07_Cache_Hold.l1 y (k + 1) x6 x9 q = some (x6, q) := by
  rw [colophonref07_Cache_Hold.l1]
  by_cases c : x9 < wi (2 * (y.length : Int))
  · rw [if_pos (by rw [decide_eq_true_eq]; exact c)]
    rw [wi_eq (by omega) (by omega)] at c
    rw [if_neg (by rw [decide_eq_true_eq]; omega)]
  · rw [if_neg (by rw [decide_eq_true_eq]; exact c)]
theorem ref_clk (y : List Rr) (N1 a b : Int) : ∀ (s : Nat) (fs : List Fr) (h : Nat) (r : Nat × List Fr × Nat), h < fs.length → fs.length ≤ 5000 → y.length = fs.length → (∀ f ∈ fs, 0 ≤ f.2.2.2) → clk s fs h = some r → ∀ k x9 : Nat, s < k → x9 + s ≤ 2 * fs.length →
    colophonref07_Cache_Hold.l1 y k (-1) (x9 : Int) (N1, fs.map pr, (h : Int), a, b) = some ((r.1 : Int), (N1, r.2.1.map pr, (r.2.2 : Int), a, b)) := by
  intro s
  induction s with
  | zero => intro fs h r _ _ _ _ e; cases e
  | succ s ih =>
    intro fs h r hh hl hy hp e k x9 hk hx
    cases k with
    | zero => omega
    | succ k =>
      have hml : (fs.map pr).length = fs.length := List.length_map _
      rw [ref_step y N1 (fs.map pr) h a b k x9 (pr fs[h]) (by rw [hml]; exact hy) (by rw [hml]; exact hl) (by rw [hml]; exact hh) (by rw [List.getElem?_map, List.getElem?_eq_getElem hh]; rfl) (by rw [hml]; omega), hml]
      unfold clk at e
      rw [List.getElem?_eq_getElem hh] at e
      simp only [] at e
      have hn := nx_lt (K := fs.length) (h := h) (by omega)
      have h0 := hp _ (List.getElem_mem hh)
      have e1 : (pr fs[h]).2.1 = fs[h].2.2.2 := rfl
      have e2 : (pr fs[h]).2.2 = fs[h].2.2.1 := rfl
      rw [e1, e2]
      by_cases c1 : fs[h].2.2.2 > 0
      · rw [if_pos c1] at e
        rw [if_neg (by omega), if_neg (by omega)]
        exact ih fs _ r hn hl hy hp e k (x9 + 1) (by omega) (by omega)
      · rw [if_neg c1] at e
        have hz : fs[h].2.2.2 = 0 := by omega
        have hset : (fs.map pr).set h ((pr fs[h]).1, fs[h].2.2.2, false) = (fs.set h (unm fs[h])).map pr := by rw [List.map_set]; rfl
        rw [if_pos hz, hset]
        by_cases c2 : fs[h].2.2.1 = true
        · rw [if_pos c2] at e
          rw [if_neg (by rw [c2]; simp)]
          have hp' : ∀ f ∈ fs.set h (unm fs[h]), 0 ≤ f.2.2.2 := fun f hf => by
            rcases List.mem_or_eq_of_mem_set hf with q | q
            · exact hp f q
            · rw [q]; exact h0
          exact ih (fs.set h (unm fs[h])) _ r (by rw [List.length_set]; exact hn) (by rw [List.length_set]; exact hl) (by rw [List.length_set]; exact hy) hp' e k (x9 + 1) (by omega) (by rw [List.length_set]; omega)
        · rw [if_neg c2] at e
          have c2' : fs[h].2.2.1 = false := by simpa using c2
          obtain rfl := Option.some.inj e
          rw [if_pos ⟨hz, c2'⟩]
          cases k with
          | zero => omega
          | succ k =>
            rw [ref_stop y _ k _ _ (by omega) (.inl (by omega))]
            have hu : unm fs[h] = fs[h] := by
              unfold unm; rw [← c2']
            rw [hu, List.set_getElem_self]
theorem ref_full (y : List Rr) (N1 a b : Int) (fs : List Fr) (hl : fs.length ≤ 5000) (hy : y.length = fs.length) (hp : ∀ f ∈ fs, f.2.2.2 ≠ 0) : ∀ (m x9 k h : Nat), 2 * fs.length - x9 = m → m < k → h < fs.length →
    ∃ h' : Int, colophonref07_Cache_Hold.l1 y k (-1) (x9 : Int) (N1, fs.map pr, (h : Int), a, b) = some (-1, (N1, fs.map pr, h', a, b)) := by
  intro m
  induction m with
  | zero => intro x9 k h h1 h2 h3; cases k with
    | zero => omega
    | succ k => exact ⟨(h : Int), ref_stop y _ k _ _ (by omega) (.inr (by omega))⟩
  | succ m ih => intro x9 k h h1 h2 h3; cases k with
    | zero => omega
    | succ k =>
      have hml : (fs.map pr).length = fs.length := List.length_map _
      have hv := hp _ (List.getElem_mem h3)
      have e1 : (pr fs[h]).2.1 = fs[h].2.2.2 := rfl
      rw [ref_step y N1 (fs.map pr) h a b k x9 (pr fs[h]) (by rw [hml]; exact hy) (by rw [hml]; exact hl) (by rw [hml]; exact h3) (by rw [List.getElem?_map, List.getElem?_eq_getElem h3]; rfl) (by rw [hml]; omega), hml, e1, if_neg (fun q => hv q.1), if_neg hv]
      exact ih (x9 + 1) k _ (by omega) (by omega) (nx_lt (by omega))
end Ca
end Go.Proofs.Ytbcdcpkofgfofaa
