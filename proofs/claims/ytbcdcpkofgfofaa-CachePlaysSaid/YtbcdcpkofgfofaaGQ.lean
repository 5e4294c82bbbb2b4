/-
  A range over a map that nothing is laid into meanwhile: its entries come in whatever order. My own text.
-/
import Derived.Test.YtbcdcpkofgfofaaGO
import Derived.Maps.RangeRun
set_option linter.unusedVariables false
set_option linter.unusedSimpArgs false
namespace Go.Gol
open Go Go.MapKept
section
variable {P : Program} {n : Nat} {ops : Array Oper} {L : SL} {w : World} {i : Nat} {K : Value → World → Prop} {B : Rf} {cs : List HP}
theorem Sat.setPts {r : Nat} {o o' : Obj} (h : Sat w B (pts r o :: cs)) : Sat (ChangeMaps.setBlock w r o') B (pts r o' :: cs) := by
  refine Sat.upd [] cs (cs := [pts r o]) (cs' := [pts r o']) h ⟨rfl, rfl, rfl⟩ (fun H1 _ hH1 hc => ?_)
  obtain ⟨J1, J2, _, hJ1, _, hb, _⟩ := hc
  have hgd : H1 r = some o := hJ1 r _ hb
  have hw : w.heap[r]? = some o := hH1 r _ hgd
  refine ⟨one r o', SepL.one (one_self _ _), ?_, ?_, ?_⟩
  · intro x y hx; obtain ⟨rfl, rfl⟩ := one_inv hx; exact (heap_set hw).1
  · intro x y hx; obtain ⟨rfl, rfl⟩ := one_inv hx; left; rw [hgd]; exact fun h => by cases h
  · intro x y hx hn
    have : x ≠ r := by rintro rfl; rw [hgd] at hn; cases hn
    show (w.heap.setIfInBounds r _)[x]? = some y
    rw [(heap_set hw).2 x this]; exact hx
theorem omp.op {kk vk : IntKind} {b : Nat} {m : List (Int × Int)} (h : Sat w B (omp kk vk b m :: cs)) : ∃ es clock, Stamped es clock ∧ ekv es = kv kk vk m ∧ Sat w B (pts b (.map es clock) :: cs) := by
  obtain ⟨es, h⟩ := Sat.ex (P := fun es H => ∃ clock, H b = some (.map es clock) ∧ Stamped es clock ∧ ekv es = kv kk vk m) h
  obtain ⟨clock, h⟩ := Sat.ex (P := fun clock H => H b = some (.map es clock) ∧ Stamped es clock ∧ ekv es = kv kk vk m) h
  obtain ⟨M0, _, _, _, hs, he⟩ := Sat.read [] cs h
  exact ⟨es, clock, hs, he, h.mono1 (fun H hh => hh.1)⟩
theorem omp.cl {kk vk : IntKind} {b : Nat} {m : List (Int × Int)} {es : Array MapEntry} {clock : Nat} (hs : Stamped es clock) (he : ekv es = kv kk vk m) (h : Sat w B (pts b (.map es clock) :: cs)) : Sat w B (omp kk vk b m :: cs) := h.mono1 (fun H hh => ⟨es, clock, hh, hs, he⟩)
theorem St.range {t k e : TypeId} (x : Operand) (hop : (opAt ops i).op = .range t x) (hrd : ready n ops L i = true) (ht : P.underlying t = some (.map k e)) {b : Nat} {es : Array MapEntry} {clock : Nat}
    (hS : Sat w B (pts b (.map es clock) :: cs)) (hx : rho L x = .map (some b)) (hh : ∀ r w', Sat w' B (pts r (.mapIter (some b) clock #[] clock) :: pts b (.map es clock) :: cs) → K (.pointer (some ⟨r, 0, none⟩)) w') : St P n ops L i w K := by
  obtain ⟨M0, hM, _, hb⟩ := Sat.read [] cs hS
  have hbw : w.heap[b]? = some (.map es clock) := hM b _ hb
  refine St.val hrd (v := .pointer (some ⟨w.heap.size, 0, none⟩)) (w' := w.alloc (.mapIter (some b) clock #[] clock)) ?_ (hh _ _ (hS.alloc _))
  simp only [execOp, hop, hx]
  have := run_range_map (P := P) w t k e b es clock ht hbw
  simp [this, Result.andThen]
theorem St.next (x : Operand) (hop : (opAt ops i).op = .next x false) (hrd : ready n ops L i = true) {r b : Nat} {es : Array MapEntry} {clock : Nat} {seen : Array Nat} (hs : Stamped es clock)
    (hS : Sat w B (pts r (.mapIter (some b) clock seen clock) :: pts b (.map es clock) :: cs)) (hx : rho L x = .pointer (some ⟨r, 0, none⟩))
    (h0 : (leftOf es seen).size = 0 → K (.tuple #[.bool false]) w)
    (h1 : ∀ e ∈ (leftOf es seen).toList, ∀ w', Sat w' B (pts r (.mapIter (some b) clock (seen.push e.born) clock) :: pts b (.map es clock) :: cs) → K (.tuple #[.bool true, e.key, e.val]) w') : St P n ops L i w K := by
  obtain ⟨M0, hM, _, hb⟩ := Sat.read [] (pts b (.map es clock) :: cs) hS
  have hrw : w.heap[r]? = some (.mapIter (some b) clock seen clock) := hM r _ hb
  obtain ⟨M1, hM1, _, hb1⟩ := Sat.read [pts r (.mapIter (some b) clock seen clock)] cs hS
  have hbw : w.heap[b]? = some (.map es clock) := hM1 b _ hb1
  have hold : ∀ x ∈ es.toList, x.born < clock := ((stamped_iff es clock).1 hs).1
  rcases run_next_at (P := P) w (opAt ops i).type r b clock clock seen es clock hrw hbw hold (Nat.le_refl _) with ⟨hz, hrun⟩ | ⟨e, he, w1, hw1, hrun⟩
  · refine St.val hrd (v := .tuple #[.bool false]) (w' := w) ?_ (h0 hz)
    simp only [execOp, hop, hx]
    simp [hrun, Result.andThen]
  · have hS1 : Sat w1 B (pts r (.mapIter (some b) clock seen clock) :: pts b (.map es clock) :: cs) := by
      rcases hw1 with rfl | rfl
      · exact hS
      · exact hS.heap rfl ⟨rfl, rfl, rfl⟩
    refine St.val hrd (v := .tuple #[.bool true, e.key, e.val]) (w' := ChangeMaps.setBlock w1 r (.mapIter (some b) clock (seen.push e.born) clock)) ?_ (h1 e he _ hS1.setPts)
    simp only [execOp, hop, hx]
    simp [hrun, Result.andThen]
theorem St.entry (x : Operand) (hop : (opAt ops i).op = .entry x) (hrd : ready n ops L i = true) {r b : Nat} {es : Array MapEntry} {clock : Nat} {seen : Array Nat} {e : MapEntry} (hs : Stamped es clock) (he : e ∈ es.toList)
    (hS : Sat w B (pts r (.mapIter (some b) clock (seen.push e.born) clock) :: pts b (.map es clock) :: cs)) (hx : rho L x = .pointer (some ⟨r, 0, none⟩))
    (hh : K (.tuple #[e.key, e.val]) w) : St P n ops L i w K := by
  obtain ⟨M0, hM, _, hb⟩ := Sat.read [] (pts b (.map es clock) :: cs) hS
  have hrw : w.heap[r]? = some (.mapIter (some b) clock (seen.push e.born) clock) := hM r _ hb
  obtain ⟨M1, hM1, _, hb1⟩ := Sat.read [pts r (.mapIter (some b) clock (seen.push e.born) clock)] cs hS
  have hbw : w.heap[b]? = some (.map es clock) := hM1 b _ hb1
  have hrun := run_entry_at (P := P) w r b clock seen es clock e hrw hbw he ((stamped_iff es clock).1 hs).2.1
  refine St.val hrd (v := .tuple #[e.key, e.val]) (w' := w) ?_ hh
  simp only [execOp, hop, hx]
  simp [hrun, Result.andThen]
end
end Go.Gol
