/-
  Maps from whole numbers to whole numbers; elements of several cells that are written. My own text.
-/
import Derived.Test.YtoonceaeaigkpaaGL
import Derived.MapKept
set_option linter.unusedVariables false
set_option linter.unusedSimpArgs false
namespace Go.Gol
open Go Go.MapKept
theorem rdL.consN {α : Type} {R : List Value → α → Prop} {sz : Nat} (c : List Value) {vs : List Value} {x : α} {xs : List α} (hc : c.length = sz) (h : R c x) (h' : rdL R sz vs xs) : rdL R sz (c ++ vs) (x :: xs) := (rdL.single hc h).append h'
/-- where a key stands, and what is there -/
def mix : List (Int × Int) → Int → Option (Nat × Int)
  | [], _ => none
  | p :: m, k => if k == p.1 then some (0, p.2) else (mix m k).map fun x => (x.1 + 1, x.2)
def mget (m : List (Int × Int)) (k : Int) : Option Int := (mix m k).map (·.2)
def mset (m : List (Int × Int)) (k v : Int) : List (Int × Int) := match mix m k with | some x => m.set x.1 (k, v) | none => m ++ [(k, v)]
def mdel (m : List (Int × Int)) (k : Int) : List (Int × Int) := match mix m k with | some x => m.eraseIdx x.1 | none => m
abbrev kv (kk vk : IntKind) (m : List (Int × Int)) : List (Value × Value) := m.map fun p => (Value.int kk p.1, Value.int vk p.2)
abbrev ekv (es : Array MapEntry) : List (Value × Value) := es.toList.map fun e => (e.key, e.val)
def omp (kk vk : IntKind) (b : Nat) (m : List (Int × Int)) : HP := fun H => ∃ es clock, H b = some (.map es clock) ∧ Stamped es clock ∧ ekv es = kv kk vk m
theorem mix_len : ∀ {m : List (Int × Int)} {k : Int} {x : Nat × Int}, mix m k = some x → x.1 < m.length ∧ m[x.1]? = some (k, x.2)
  | [], k, x, h => by cases h
  | p :: m, k, x, h => by
    unfold mix at h
    split at h
    · rename_i hk
      simp only [Option.some.injEq] at h
      subst h
      have : k = p.1 := by simpa using hk
      subst this
      exact ⟨by simp, rfl⟩
    · cases hm : mix m k with
      | none => simp [hm] at h
      | some y =>
        simp only [hm, Option.map_some, Option.some.injEq] at h
        subst h
        have := mix_len hm
        exact ⟨by simp; omega, by simpa using this.2⟩
theorem mix_none : ∀ {m : List (Int × Int)} {k : Int}, mix m k = none → ∀ p ∈ m, p.1 ≠ k
  | [], k, h => by intro p hp; cases hp
  | q :: m, k, h => by
    unfold mix at h
    split at h
    · cases h
    · rename_i hk
      cases hm : mix m k with
      | some y => simp [hm] at h
      | none =>
        intro p hp
        rcases List.mem_cons.1 hp with rfl | hp
        · intro e; exact hk (by simp [e])
        · exact mix_none hm p hp
theorem findNow_mix (kk vk : IntKind) (k : Int) : ∀ (l : List MapEntry) (m : List (Int × Int)) (i : Nat), l.map (fun e => (e.key, e.val)) = kv kk vk m →
    Instr.findNow (.int kk) (.int kk k) l i = some ((mix m k).map fun x => (i + x.1, Value.int vk x.2))
  | [], m, i, h => by
    have : m = [] := by cases m with | nil => rfl | cons _ _ => simp [kv] at h
    subst this; rfl
  | e :: l, [], i, h => by simp [kv] at h
  | e :: l, p :: m, i, h => by
    simp only [List.map_cons, kv, List.cons.injEq, Prod.mk.injEq] at h
    obtain ⟨⟨h1, h2⟩, h3⟩ := h
    have ih := findNow_mix kk vk k l m (i + 1) h3
    unfold Instr.findNow
    simp only [h1, Instr.sameNow, if_true]
    unfold mix
    by_cases hk : (k == p.1) = true
    · simp [hk, h2]
    · have hk' : (k == p.1) = false := by simpa using hk
      simp only [hk', ih]
      cases mix m k with
      | none => simp
      | some x => simp; omega
theorem mget_mset (m : List (Int × Int)) (k v k' : Int) : mget (mset m k v) k' = if k' = k then some v else mget m k' := by
  induction m with
  | nil =>
    simp only [mset, mix, List.nil_append, mget]
    by_cases h : k' = k
    · simp [h]
    · simp [h]
  | cons p m ih =>
    unfold mset
    unfold mix
    by_cases h : (k == p.1) = true
    · simp only [h, if_true, List.set_cons_zero]
      have e : k = p.1 := by simpa using h
      unfold mget mix
      by_cases h2 : k' = k
      · simp [h2]
      · have h3 : ¬ k' = p.1 := fun q => h2 (q.trans e.symm)
        simp [h2, h3]
    · simp only [h, if_false]
      have hm : (match Option.map (fun x : Nat × Int => (x.1 + 1, x.2)) (mix m k) with | some x => (p :: m).set x.1 (k, v) | none => p :: m ++ [(k, v)]) = p :: mset m k v := by
        unfold mset
        cases mix m k with
        | none => rfl
        | some x => rfl
      have hif : (if false = true then some (0, p.2) else Option.map (fun x : Nat × Int => (x.1 + 1, x.2)) (mix m k)) = Option.map (fun x : Nat × Int => (x.1 + 1, x.2)) (mix m k) := rfl
      simp only [Bool.false_eq_true, if_false]
      rw [hm]
      unfold mget mix
      by_cases h2 : (k' == p.1) = true
      · have e : k' = p.1 := by simpa using h2
        have h3 : ¬ k' = k := fun q => h (by simp [← q, e])
        simp [h3, e]
        intro h4; exact absurd (e.trans h4) h3
      · simp only [h2]
        have ih' := ih
        unfold mget at ih'
        simp only [Bool.false_eq_true, if_false, Option.map_map]
        have c : ((fun x : Nat × Int => x.2) ∘ fun x : Nat × Int => (x.1 + 1, x.2)) = fun x : Nat × Int => x.2 := rfl
        rw [c, ih']
section
variable {P : Program} {n : Nat} {ops : Array Oper} {L : SL} {w : World} {i : Nat} {K : Value → World → Prop} {M : Value → Prop} {B : Rf} {cs : List HP}
theorem Sat.optOne {α : Type} {O : Nat → α → HP} {v : Value} {x : Option α} (j : Nat) (h : Sat w B cs) (hj : cs[j]? = some (optP O v x)) : v.oneCell' = true := by
  obtain ⟨M0, _, _, hm⟩ := Sat.read _ _ (split_at hj ▸ h)
  cases x with
  | none => have h' : v = .pointer none := hm; subst h'; rfl
  | some y => obtain ⟨b, rfl, _⟩ := hm; rfl
theorem omp.ofNew {kk vk : IntKind} {b : Nat} (h : Sat w B (pts b (.map #[] 0) :: cs)) : Sat w B (omp kk vk b [] :: cs) := h.mono1 (fun H h => ⟨#[], 0, h, stamped_empty 0, rfl⟩)
theorem RSt.lookup {t kt et : TypeId} {kk vk : IntKind} (x ix : Operand) (q : Bool) (hop : (opAt ops i).op = .lookup t x ix q) (hrd : ready n ops L i = true) (hu : P.underlying t = some (.map kt et)) (hk : P.underlying kt = some (.int kk)) (hz : (zeroValue et).run P w = .ok (.int vk 0) w)
    (j : Nat) {b : Nat} {m : List (Int × Int)} {k : Int} (hS : Sat w B cs) (hj : cs[j]? = some (omp kk vk b m)) (hx : rho L x = .map (some b)) (hi : rho L ix = .int kk k)
    (hh : M (if q = true then .tuple #[.int vk ((mget m k).getD 0), .bool (mget m k).isSome] else .int vk ((mget m k).getD 0))) : RSt P n ops L i w M := by
  obtain ⟨M0, hM, _, es, clock, hb, hs, he⟩ := Sat.read _ _ (split_at hj ▸ hS)
  have hbw : w.heap[b]? = some (.map es clock) := hM b _ hb
  have hf := findNow_mix kk vk k es.toList m 0 he
  refine ⟨hrd, _, ?_, hh⟩
  simp only [execOp, hop, hx, hi]
  have hck : (Instr.checkKey es.isEmpty 10000 kt (.int kk k)).run P w = .ok () w := run_checkKey hk (show IsKey (.int kk) (.int kk k) from rfl) _ 9999
  have hfk := run_findKey hk hf (w := w)
  have hlk : (Instr.lookup t (.map (some b)) (.int kk k) q).run P w = .ok (if q = true then .tuple #[.int vk ((mget m k).getD 0), .bool (mget m k).isSome] else .int vk ((mget m k).getD 0)) w := by
    unfold mget at *
    cases hm : mix m k with
    | none =>
      rw [hm] at hfk
      cases q <;> simp [Instr.lookup, run_underlying hu, MapKept.run_getObj_map hbw, hck, hfk, hz, Result.andThen]
    | some y =>
      rw [hm] at hfk
      cases q <;> simp [Instr.lookup, run_underlying hu, MapKept.run_getObj_map hbw, hck, hfk, hz, Result.andThen]
  simp [hlk]
theorem Sat.setMap {kk vk : IntKind} {b : Nat} {m m' : List (Int × Int)} {es' : Array MapEntry} {clock' : Nat} (h : Sat w B (omp kk vk b m :: cs)) (hs : Stamped es' clock') (he : ekv es' = kv kk vk m') :
    Sat { w with heap := w.heap.setIfInBounds b (.map es' clock') } B (omp kk vk b m' :: cs) := by
  refine Sat.upd [] cs (cs := [omp kk vk b m]) (cs' := [omp kk vk b m']) h ⟨rfl, rfl, rfl⟩ (fun H1 _ hH1 hc => ?_)
  obtain ⟨J1, J2, _, hJ1, _, ⟨es, clock, hb, _, _⟩, _⟩ := hc
  have hgd : H1 b = some (.map es clock) := hJ1 b _ hb
  have hw : w.heap[b]? = some (.map es clock) := hH1 b _ hgd
  refine ⟨one b (.map es' clock'), SepL.one ⟨es', clock', one_self _ _, hs, he⟩, ?_, ?_, ?_⟩
  · intro x o hx; obtain ⟨rfl, rfl⟩ := one_inv hx; exact (heap_set hw).1
  · intro x o hx; obtain ⟨rfl, rfl⟩ := one_inv hx; left; rw [hgd]; exact fun h => by cases h
  · intro x o hx hn
    have : x ≠ b := by rintro rfl; rw [hgd] at hn; cases hn
    show (w.heap.setIfInBounds b _)[x]? = some o
    rw [(heap_set hw).2 x this]; exact hx
theorem ekv_modify {es : Array MapEntry} {j : Nat} {kk vk : IntKind} {m : List (Int × Int)} {k v : Int} (he : ekv es = kv kk vk m) (hj : j < m.length) : ekv (es.modify j fun e => { e with key := .int kk k, val := .int vk v }) = kv kk vk (m.set j (k, v)) := by
  have hl : es.toList.length = m.length := by have := congrArg List.length he; simpa [ekv, kv] using this
  apply List.ext_getElem?
  intro q
  have hq := congrArg (fun l => l[q]?) he
  simp only [ekv, kv, List.getElem?_map, Array.getElem?_toList, Array.getElem?_modify, List.getElem?_set] at hq ⊢
  by_cases hqj : j = q
  · subst hqj
    have h1 : j < es.size := by have h2 : j < es.toList.length := by omega
                                simpa using h2
    simp [hj, h1]
  · rw [if_neg hqj, if_neg hqj]
    cases h1 : es[q]? <;> simp [h1] at hq ⊢ <;> exact hq
theorem St.mapUpdate {t kt et : TypeId} {kk vk : IntKind} (x ix y : Operand) (hop : (opAt ops i).op = .mapUpdate t x ix y) (hrd : ready n ops L i = true) (hu : P.underlying t = some (.map kt et)) (hk : P.underlying kt = some (.int kk))
    {b : Nat} {m : List (Int × Int)} {k v : Int} (hS : Sat w B (omp kk vk b m :: cs)) (hx : rho L x = .map (some b)) (hi : rho L ix = .int kk k) (hy : rho L y = .int vk v)
    (hh : ∀ w', Sat w' B (omp kk vk b (mset m k v) :: cs) → K undef w') : St P n ops L i w K := by
  obtain ⟨M0, hM, _, es, clock, hb, hs, he⟩ := Sat.read [] cs hS
  have hbw : w.heap[b]? = some (.map es clock) := hM b _ hb
  have hf := findNow_mix kk vk k es.toList m 0 he
  have hck : (Instr.checkKey false 10000 kt (.int kk k)).run P w = .ok () w := run_checkKey hk (show IsKey (.int kk) (.int kk k) from rfl) _ 9999
  have hfk := run_findKey hk hf (w := w)
  have hky : IsKey (.int kk) (.int kk k) := rfl
  cases hm : mix m k with
  | none =>
    rw [hm] at hfk
    have hne : ∀ e ∈ es.toList, e.key ≠ .int kk k := fun e hee hke => by
      have : (e.key, e.val) ∈ kv kk vk m := by rw [← he]; exact List.mem_map.2 ⟨e, hee, rfl⟩
      obtain ⟨p, hp, hpe⟩ := List.mem_map.1 this
      simp only [Prod.mk.injEq] at hpe
      rw [hke] at hpe
      simp only [Value.int.injEq] at hpe
      exact mix_none hm p hp hpe.1.2
    refine St.skp hrd (w' := { w with heap := w.heap.setIfInBounds b (.map (es.push { key := .int kk k, val := .int vk v, born := clock }) (clock + 1)) }) ?_ (hh _ ?_)
    · simp only [execOp, hop, hx, hi, hy]
      simp [Instr.mapUpdate, run_underlying hu, MapKept.run_getObj_map hbw, hck, hfk, MapKept.run_setObj_map _ hbw, Result.andThen]
    · refine Sat.setMap hS (stamped_push hs hne) ?_
      unfold mset
      simp only [hm, ekv, kv, Array.toList_push, List.map_append, List.map_cons, List.map_nil] at he ⊢
      rw [he]
  | some y =>
    rw [hm] at hfk
    have hml := mix_len hm
    have hl : es.toList.length = m.length := by have := congrArg List.length he; simpa [ekv, kv] using this
    have hys : y.1 < es.size := by have h2 : y.1 < es.toList.length := by omega
                                   simpa using h2
    have hkey : (es[y.1]).key = .int kk k := by
      have hq := congrArg (fun l => l[y.1]?) he
      simp only [ekv, kv, List.getElem?_map, Array.getElem?_toList, hml.2, Array.getElem?_eq_getElem hys, Option.map_some, Option.some.injEq, Prod.mk.injEq] at hq
      exact hq.1
    refine St.skp hrd (w' := { w with heap := w.heap.setIfInBounds b (.map (es.modify y.1 fun e => { e with key := .int kk k, val := .int vk v }) clock) }) ?_ (hh _ ?_)
    · simp only [execOp, hop, hx, hi, hy]
      simp [Instr.mapUpdate, run_underlying hu, MapKept.run_getObj_map hbw, hck, hfk, hys, hkey, run_keyThatStays hky, MapKept.run_setObj_map _ hbw, Result.andThen]
    · refine Sat.setMap hS (stamped_modify hs _ _ (fun _ _ => rfl) (fun e' _ he' => ?_)) ?_
      · rw [Array.getElem?_eq_getElem hys] at he'; cases he'; exact hkey.symm
      · unfold mset
        simp only [hm]
        exact ekv_modify he hml.1
end
end Go.Gol
