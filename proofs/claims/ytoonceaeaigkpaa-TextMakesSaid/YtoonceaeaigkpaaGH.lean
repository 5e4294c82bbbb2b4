/-
  From what a row's arguments read as, to what a walk is told of them.
-/
import Derived.Test.YtoonceaeaigkpaaGG
import Derived.OpenShut
import Derived.ProofKit
set_option linter.unusedVariables false
set_option linter.unusedSimpArgs false
namespace Go.Gol
open Go

/-- what is known of a value that came in -/
def Fits : (κ : Ki) → κ.T → Prop
  | .int k, n => k.min ≤ n ∧ n ≤ k.max
  | .bool, _ => True
  | .str, s => s.size ≤ maxLen
  | .unit, _ => True
  | .pair a b, x => Fits a x.1 ∧ Fits b x.2
  | .slice _ κ, xs => List.length xs ≤ maxLen ∧ ∀ x ∈ (show List κ.T from xs), Fits κ x
  | .ptr _ _, _ => True
  | .arr m κ, xs => List.length xs = m ∧ ∀ x ∈ (show List κ.T from xs), Fits κ x

def Opens (P : Program) (t : TypeId) (κ : Ki) : Prop :=
  ∀ {H : Type} (enc : TypeId × Value → H) (w : World) (base : Nat) (held : Bool) (fuel : Nat) (cs : List Value) (x : DataW H × List MemPlace),
    DataW.trod enc P w base (fun _ => true) held fuel t cs = some x → ∃ v : κ.T, rd (hp w) κ cs v ∧ Fits κ v
theorem Opens.int {P : Program} {t : TypeId} {k : IntKind} (h : P.underlying t = some (.int k)) : Opens P t (.int k) := fun enc w base held fuel cs x hx => by
  obtain ⟨n, rfl, _, hw⟩ := DataW.trod_int h hx
  simp only [Lit.wf, Bool.and_eq_true, decide_eq_true_eq] at hw
  exact ⟨n, rfl, hw⟩
theorem Opens.bool {P : Program} {t : TypeId} (h : P.underlying t = some .bool) : Opens P t .bool := fun enc w base held fuel cs x hx => by
  obtain ⟨b, rfl, _⟩ := DataW.trod_bool h hx
  exact ⟨b, rfl, trivial⟩
theorem Opens.str {P : Program} {t : TypeId} (h : P.underlying t = some .string) : Opens P t .str := fun enc w base held fuel cs x hx => by
  obtain ⟨s, rfl, _, hs⟩ := DataW.trod_string h hx
  exact ⟨s, rfl, hs⟩
theorem list_choose {α : Type} (p : Nat → α → Prop) : ∀ n : Nat, (∀ i, i < n → ∃ x, p i x) → ∃ xs : List α, xs.length = n ∧ ∀ i x, xs[i]? = some x → p i x
  | 0, _ => ⟨[], rfl, fun i x h => by simp at h⟩
  | n + 1, h => by
    obtain ⟨xs, hl, hp⟩ := list_choose p n (fun i hi => h i (by omega))
    obtain ⟨y, hy⟩ := h n (by omega)
    refine ⟨xs ++ [y], by simp [hl], fun i x hx => ?_⟩
    rcases Nat.lt_or_ge i xs.length with h' | h'
    · rw [List.getElem?_append_left h'] at hx; exact hp i x hx
    · rw [List.getElem?_append_right h'] at hx
      have : i - xs.length = 0 := by
        rcases Nat.eq_zero_or_pos (i - xs.length) with h0 | h0
        · exact h0
        · rw [List.getElem?_eq_none (by simp; omega)] at hx; cases hx
      rw [this] at hx; simp at hx; subst hx
      have : i = n := by omega
      subst this; exact hy
theorem spot_of_cell {w : World} {a : Addr} {v : Value} (h : w.cell? a = some v) : a.spot = none ∧ ∃ cells E fr, w.heap[a.block]? = some (.cells cells E fr) ∧ cells[a.off]? = some v := by
  unfold World.cell? at h
  split at h
  · rename_i c E fr hb
    split at h
    · cases h
    · rename_i hs
      refine ⟨?_, c, E, fr, hb, h⟩
      cases hsp : a.spot with
      | none => rfl
      | some s => simp [hsp] at hs
  · cases h
theorem Opens.slice {P : Program} {t e : TypeId} {κ : Ki} (h : P.underlying t = some (.slice e)) (hc : P.cellsOf e = κ.sz) (hs : 0 < κ.sz) (he : Opens P e κ) : Opens P t (.slice e κ) := fun enc w base held fuel cs x hx => by
  rcases DataW.trod_slice h hx with ⟨rfl, _⟩ | ⟨a, len, cap, elems, rest, n, _, rfl, _, hb, hl, hm, hlen, hel, hsp, _⟩
  · exact ⟨([] : List κ.T), ⟨none, 0, rfl, Nat.le_refl _, Nat.zero_le _, rfl⟩, Nat.zero_le _, fun x hx => by cases hx⟩
  · rw [hc] at hel hsp
    -- all cells, up to the capacity
    have hcell : ∀ i, i < cap → ∃ cs', w.cells? base (a.add (i * κ.sz)) κ.sz = some cs' ∧ ∃ v : κ.T, rd (hp w) κ cs' v ∧ Fits κ v := fun i hi => by
      have hb' : ∃ y, (w.cells? base (a.add (i * κ.sz)) κ.sz).bind (DataW.trod enc P w base (fun _ => true) held n e) = some y := by
        by_cases hil : i < len
        · rw [hel i hil]; exact ⟨elems[i]'(by omega), by simp [hlen, hil]⟩
        · obtain ⟨hrl, hr⟩ := hsp rfl
          have := hr (i - len) (by omega)
          rw [show len + (i - len) = i by omega] at this
          rw [this]; exact ⟨rest[i - len]'(by omega), List.getElem?_eq_getElem (by omega)⟩
      obtain ⟨y, hy⟩ := hb'
      obtain ⟨cs', h1, h2⟩ := Option.bind_eq_some_iff.1 hy
      exact ⟨cs', h1, he enc w base held n cs' y h2⟩
    by_cases hc0 : cap = 0
    · subst hc0
      have : len = 0 := by omega
      subst this
      exact ⟨([] : List κ.T), ⟨some a, 0, rfl, Nat.le_refl _, Nat.zero_le _, .inl rfl⟩, Nat.zero_le _, fun x hx => by cases hx⟩
    · have hlk : ∀ i (hi : i < cap), ∀ j, j < κ.sz → ∃ v, w.cell? (a.add (i * κ.sz + j)) = some v ∧ (hcell i hi).choose[j]? = some v := fun i hi j hj => by
        have h1 := (hcell i hi).choose_spec.1
        obtain ⟨_, hl2, h3⟩ := World.cells?_some h1
        have := h3 j hj
        have hsz : j < ((hcell i hi).choose).length := by omega
        refine ⟨_, ?_, List.getElem?_eq_getElem hsz⟩
        have e1 : (a.add (i * κ.sz)).add j = a.add (i * κ.sz + j) := by
          unfold Addr.add
          by_cases hi0 : i * κ.sz = 0 <;> by_cases hj0 : j = 0 <;> simp [hi0, hj0, Nat.add_assoc]
        rw [e1] at this
        rw [this, List.getElem?_eq_getElem hsz]
      obtain ⟨v0, hv0, _⟩ := hlk 0 (by omega) 0 hs
      have hv0' : w.cell? a = some v0 := by simpa [Addr.add] using hv0
      obtain ⟨hsp0, cells, E, fr, hblk, _⟩ := spot_of_cell hv0'
      have hget : ∀ i (hi : i < cap) j, j < κ.sz → cells[a.off + (i * κ.sz + j)]? = (hcell i hi).choose[j]? := fun i hi j hj => by
        obtain ⟨v, h1, h2⟩ := hlk i hi j hj
        rw [h2, ← h1, add_cell hsp0 hblk]
      obtain ⟨xs, hxl, hxs⟩ := list_choose (fun i (v : κ.T) => ∃ hi : i < cap, rd (hp w) κ (hcell i hi).choose v ∧ Fits κ v) len (fun i hi => by
        obtain ⟨v, h1, h2⟩ := (hcell i (by omega)).choose_spec.2
        exact ⟨v, by omega, h1, h2⟩)
      have hsize : a.off + cap * κ.sz ≤ cells.size := by
        obtain ⟨v, h1, _⟩ := hlk (cap - 1) (by omega) (κ.sz - 1) (by omega)
        rw [add_cell hsp0 hblk] at h1
        have := (Array.getElem?_eq_some_iff.1 h1).1
        have e1 : (cap - 1) * κ.sz + κ.sz = cap * κ.sz := by rw [← Nat.succ_mul]; congr 1; omega
        omega
      subst hxl
      refine ⟨xs, ⟨some a, cap, rfl, hl, hm, .inr ⟨hsp0, cells, E, fr, hblk, hsize, ?_⟩⟩, by omega, fun x hx => ?_⟩
      · obtain ⟨css, hcl, hcs⟩ := list_choose (fun i (c : List Value) => ∃ hi : i < cap, c = (hcell i hi).choose) xs.length (fun i hi => ⟨_, by omega, rfl⟩)
        have hclen : ∀ c ∈ css, c.length = κ.sz := fun c hc => by
          obtain ⟨i, hi, rfl⟩ := List.getElem_of_mem hc
          obtain ⟨hi', e⟩ := hcs i _ (List.getElem?_eq_getElem hi)
          rw [e]
          exact (World.cells?_some (hcell i hi').choose_spec.1).2.1
        refine ⟨css, ?_, hcl, hclen, fun i c x hc hx => ?_⟩
        · apply List.ext_getElem?
          intro k
          rw [List.getElem?_take]
          by_cases hk : k < xs.length * κ.sz
          · rw [if_pos hk, List.getElem?_drop, Array.getElem?_toList]
            have hmod : k % κ.sz < κ.sz := Nat.mod_lt _ hs
            have hdiv : k / κ.sz < xs.length := Nat.div_lt_of_lt_mul (by rwa [Nat.mul_comm] at hk)
            have hk2 : k = k / κ.sz * κ.sz + k % κ.sz := by rw [Nat.mul_comm]; exact (Nat.div_add_mod k κ.sz).symm
            have h1 := hget (k / κ.sz) (by omega) (k % κ.sz) hmod
            rw [← hk2] at h1
            rw [h1]
            have hd2 : k / κ.sz < css.length := by omega
            obtain ⟨_, e⟩ := hcs (k / κ.sz) _ (List.getElem?_eq_getElem hd2)
            rw [← e]
            have h5 : (css.flatten.drop (k / κ.sz * κ.sz)).take κ.sz = css[k / κ.sz] := by
              rw [flatten_drop hclen, List.drop_eq_getElem_cons hd2, List.flatten_cons]
              exact List.take_left' (hclen _ (List.getElem_mem hd2))
            have h6 : ((css.flatten.drop (k / κ.sz * κ.sz)).take κ.sz)[k % κ.sz]? = css.flatten[k]? := by
              rw [List.getElem?_take, if_pos hmod, List.getElem?_drop, ← hk2]
            rw [← h6, h5]
          · rw [if_neg hk, List.getElem?_eq_none (by rw [flatten_len hclen, hcl]; omega)]
        · obtain ⟨hi1, rfl⟩ := hcs i c hc
          obtain ⟨hi2, h1, _⟩ := hxs i x hx
          exact h1
      · obtain ⟨i, hi, rfl⟩ := List.getElem_of_mem hx
        obtain ⟨_, _, h2⟩ := hxs i _ (List.getElem?_eq_getElem hi)
        exact h2
/-- fields, from a place on -/
def OpensF (P : Program) (fs : List Field) (off : Nat) (κ : Ki) : Prop :=
  ∀ {H : Type} (enc : TypeId × Value → H) (w : World) (base : Nat) (held : Bool) (fuel : Nat) (cs : List Value), cs.length = off + κ.sz →
    (∀ f ∈ fs, ∃ y, DataW.trod enc P w base (fun _ => true) held fuel f.type ((cs.drop f.offset).take (P.cellsOf f.type)) = some y) → ∃ v : κ.T, rd (hp w) κ (cs.drop off) v ∧ Fits κ v
theorem OpensF.one {P : Program} {f : Field} {κ : Ki} (hc : P.cellsOf f.type = κ.sz) (h : Opens P f.type κ) : OpensF P [f] f.offset κ := fun enc w base held fuel cs hl hf => by
  obtain ⟨y, hy⟩ := hf f (by simp)
  have e : (cs.drop f.offset).take (P.cellsOf f.type) = cs.drop f.offset := List.take_of_length_le (by simp; omega)
  rw [e] at hy
  exact h enc w base held fuel _ y hy
theorem OpensF.cons {P : Program} {f : Field} {fs : List Field} {a b : Ki} (hc : P.cellsOf f.type = a.sz) (h : Opens P f.type a) (hr : OpensF P fs (f.offset + a.sz) b) : OpensF P (f :: fs) f.offset (.pair a b) := fun enc w base held fuel cs hl hf => by
  simp only [Ki.sz] at hl
  obtain ⟨y, hy⟩ := hf f (by simp)
  obtain ⟨v1, h1, g1⟩ := h enc w base held fuel _ y hy
  obtain ⟨v2, h2, g2⟩ := hr enc w base held fuel cs (by omega) (fun g hg => hf g (List.mem_cons_of_mem _ hg))
  refine ⟨(v1, v2), ⟨_, _, ?_, ?_, h1, h2⟩, g1, g2⟩
  · rw [← List.drop_drop, hc]; exact (List.take_append_drop _ _).symm
  · rw [hc]; simp; omega
theorem Opens.struct {P : Program} {t : TypeId} {fs : Array Field} {κ : Ki} (h : P.underlying t = some (.struct fs)) (hc : P.cellsOf t = κ.sz) (hf : OpensF P fs.toList 0 κ) : Opens P t κ := fun enc w base held fuel cs x hx => by
  obtain ⟨xs, n, _, _, hl, hxl, hall⟩ := DataW.trod_struct h hx
  have := hf enc w base held n cs (by omega) (fun f hfm => by
    obtain ⟨i, hi, rfl⟩ := List.getElem_of_mem hfm
    have hi' : i < fs.size := by simpa using hi
    have e := hall i fs[i] (Array.getElem?_eq_getElem hi')
    have hx' : i < xs.length := by omega
    refine ⟨xs[i], ?_⟩
    rw [List.getElem?_eq_getElem hx'] at e
    simpa using e)
  simpa using this
theorem Opens.arr {P : Program} {t e : TypeId} {m : Nat} {κ : Ki} (h : P.underlying t = some (.array m e)) (hc : P.cellsOf e = κ.sz) (hct : P.cellsOf t = m * κ.sz) (he : Opens P e κ) : Opens P t (.arr m κ) := fun enc w base held fuel cs x hx => by
  obtain ⟨xs, n, _, _, hl, hxl, hall⟩ := DataW.trod_array h hx
  rw [hc] at hall
  rw [hct] at hl
  obtain ⟨vs, hvl, hvs⟩ := list_choose (fun i (v : κ.T) => i < m ∧ rd (hp w) κ ((cs.drop (i * κ.sz)).take κ.sz) v ∧ Fits κ v) m (fun i hi => by
    have hx' : i < xs.length := by omega
    have e1 := hall i hi
    rw [List.getElem?_eq_getElem hx'] at e1
    obtain ⟨v, h1, h2⟩ := he enc w base held n _ _ e1
    exact ⟨v, hi, h1, h2⟩)
  refine ⟨vs, ⟨hvl, (List.range m).map (fun i => (cs.drop (i * κ.sz)).take κ.sz), ?_, by simp [hvl], ?_, ?_⟩, hvl, ?_⟩
  · exact chunks m cs κ.sz hl
  · intro c hc'
    obtain ⟨i, hi, rfl⟩ := List.mem_map.1 hc'
    have hi' : i < m := by simpa using hi
    have : (i + 1) * κ.sz ≤ m * κ.sz := Nat.mul_le_mul_right _ hi'
    rw [Nat.add_mul] at this
    simp; omega
  · intro i c x hc' hx'
    obtain ⟨hi, h1, _⟩ := hvs i x hx'
    simp [hi] at hc'
    subst hc'; exact h1
  · intro x hx'
    obtain ⟨i, hi, rfl⟩ := List.getElem_of_mem hx'
    exact (hvs i _ (List.getElem?_eq_getElem hi)).2.2
  where
  chunks : ∀ (m : Nat) (cs : List Value) (sz : Nat), cs.length = m * sz → cs = ((List.range m).map fun i => (cs.drop (i * sz)).take sz).flatten
    | 0, cs, sz, h => by simp at h; subst h; rfl
    | m + 1, cs, sz, h => by
      rw [List.range_succ_eq_map]
      simp only [List.map_cons, List.map_map, List.flatten_cons, Nat.zero_mul, List.drop_zero]
      have ih := chunks m (cs.drop sz) sz (by simp [h, Nat.add_mul])
      have e : ((List.range m).map ((fun i => (cs.drop (i * sz)).take sz) ∘ Nat.succ)) = (List.range m).map fun i => ((cs.drop sz).drop (i * sz)).take sz := by
        apply List.map_congr_left
        intro i _
        simp only [Function.comp, List.drop_drop]
        congr 2
        rw [Nat.succ_mul, Nat.add_comm]
      rw [e, ← ih, List.take_append_drop]
end Go.Gol
