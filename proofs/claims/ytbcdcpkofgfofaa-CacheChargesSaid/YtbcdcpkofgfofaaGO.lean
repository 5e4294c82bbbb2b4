/-
  An entry taken out of a map. My own text.
-/
import Derived.Test.YtbcdcpkofgfofaaGM
set_option linter.unusedVariables false
set_option linter.unusedSimpArgs false
namespace Go.Gol
open Go Go.MapKept
section
variable {P : Program} {n : Nat} {ops : Array Oper} {L : SL} {w : World} {i : Nat} {K : Value → World → Prop} {B : Rf} {cs : List HP}
theorem map_erase {α β : Type} (f : α → β) : ∀ (l : List α) (i : Nat), (l.eraseIdx i).map f = (l.map f).eraseIdx i
  | [], _ => rfl
  | _ :: _, 0 => rfl
  | a :: l, i + 1 => by simp [map_erase f l i]
theorem St.mapDelete {t t2 kt et : TypeId} {kk vk : IntKind} (x ix : Operand) (hop : (opAt ops i).op = .call { callee := .builtin .delete, args := #[x, ix], argTypes := #[t, t2] }) (hrd : ready n ops L i = true) (hu : P.underlying t = some (.map kt et)) (hk : P.underlying kt = some (.int kk))
    {b : Nat} {m : List (Int × Int)} {k : Int} (hS : Sat w B (omp kk vk b m :: cs)) (hx : rho L x = .map (some b)) (hi : rho L ix = .int kk k)
    (hh : ∀ w', Sat w' B (omp kk vk b (mdel m k) :: cs) → K (.tuple #[]) w') : St P n ops L i w K := by
  obtain ⟨M0, hM, _, es, clock, hb, hs, he⟩ := Sat.read [] cs hS
  have hbw : w.heap[b]? = some (.map es clock) := hM b _ hb
  have hf := findNow_mix kk vk k es.toList m 0 he
  have hck : (Instr.checkKey es.isEmpty 10000 kt (.int kk k)).run P w = .ok () w := run_checkKey hk (show IsKey (.int kk) (.int kk k) from rfl) _ 9999
  have hfk := run_findKey hk hf (w := w)
  cases hm : mix m k with
  | none =>
    rw [hm] at hfk
    refine St.val hrd (w' := { w with heap := w.heap.setIfInBounds b (.map es clock) }) ?_ (hh _ ?_)
    · simp only [execOp, hop, resolve, invoke, builtin, Sem.run_bind, Sem.run_pure, Result.andThen_ok, List.map_toArray, List.map_cons, List.map_nil, hx, hi]
      simp [Builtin.delete_, run_underlying hu, MapKept.run_getObj_map hbw, hck, hfk, MapKept.run_setObj_map _ hbw, Result.andThen]
    · refine Sat.setMap hS hs ?_
      unfold mdel
      simp only [hm]; exact he
  | some y =>
    rw [hm] at hfk
    have hml := mix_len hm
    refine St.val hrd (w' := { w with heap := w.heap.setIfInBounds b (.map (es.eraseIdxIfInBounds y.1) clock) }) ?_ (hh _ ?_)
    · simp only [execOp, hop, resolve, invoke, builtin, Sem.run_bind, Sem.run_pure, Result.andThen_ok, List.map_toArray, List.map_cons, List.map_nil, hx, hi]
      simp [Builtin.delete_, run_underlying hu, MapKept.run_getObj_map hbw, hck, hfk, MapKept.run_setObj_map _ hbw, Result.andThen]
    · refine Sat.setMap hS (stamped_erase hs _) ?_
      unfold mdel
      simp only [hm]
      have hl : (es.eraseIdxIfInBounds y.1).toList = es.toList.eraseIdx y.1 := by
        unfold Array.eraseIdxIfInBounds
        split
        · simp
        · rename_i h
          rw [List.eraseIdx_of_length_le (by simpa using h)]
      have he' : es.toList.map (fun e => (e.key, e.val)) = kv kk vk m := he
      show (es.eraseIdxIfInBounds y.1).toList.map _ = (m.eraseIdx y.1).map _
      rw [hl, map_erase, map_erase]
      show List.eraseIdx (es.toList.map fun e => (e.key, e.val)) y.1 = _
      rw [he']
end
end Go.Gol
