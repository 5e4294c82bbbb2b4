/-
  A region that draws, in which two operations may act next: each order is walked.
-/
import Derived.Test.YtbcdcpkofgfofaaGM
set_option linter.unusedVariables false
set_option linter.unusedSimpArgs false
namespace Go.Gol
open Go
section
variable {P : Program} {Q : Kx} {n : Nat} {ops : Array Oper} {L : SL} {w : World} {i j f : Nat} {S : Fl} {done : List Nat}
/-- are these the two that may come next? -/
def twoB (ops : Array Oper) (done : List Nat) (i j : Nat) : Bool := match Region.ready .any ops (lsB ops.size done) with | [a, b] => Nat.beq a i && Nat.beq b j | _ => false
theorem actOne {T : _} (hT : Holds n L T) (h : St P n ops L i w (fun v w' => asked .any ops S i w' ∧ WD P ops Q n S f (done ++ [i]) (upd L (opAt ops i).dst v) w')) :
    wpOp P ops noQ i (fun a' w' => (w' = w ∨ asked .any ops S i w') ∧ wpR P .any ops (Q.post .normal) S f ((lsB ops.size done).setIfInBounds i true) a' w') ⟨T, Q.D⟩ w := by
  obtain ⟨hr, h⟩ := h
  obtain ⟨h1, h2, h3⟩ := ready_spec hr
  simp only [Bool.and_eq_true] at h3
  unfold wpOp
  simp only [h1, wanted_gd hT h2, if_true]
  refine .inl ?_
  unfold Oper.wp
  rw [exec_rho hT h3.2.1 h3.2.2]
  have fin : ∀ v w', (asked .any ops S i w' ∧ WD P ops Q n S f (done ++ [i]) (upd L (opAt ops i).dst v) w') →
      (w' = w ∨ asked .any ops S i w') ∧ wpR P .any ops (Q.post .normal) S f ((lsB ops.size done).setIfInBounds i true) ((⟨T, Q.D⟩ : Act).put (opAt ops i).dst v) w' := fun v w' ⟨ha, hw⟩ => by
    obtain ⟨T', e1, hT'⟩ := hT.put h3.1 v
    refine ⟨.inr ha, ?_⟩
    rw [e1, ← ls_snoc]
    exact hw T' hT'
  rcases h with ⟨v, w', hv, hh⟩ | ⟨w', hv, hh⟩ | ⟨g, args, hv, hh⟩
  · rw [hv]; exact fin v w' hh
  · rw [hv]; exact fin undef w' hh
  · rw [hv]
    refine Calls.mono hh ?_
    rintro e w' ⟨v, rfl, hK⟩
    exact fin v w' hK
theorem WD.two (ht : twoB ops done i j = true)
    (hi : St P n ops L i w (fun v w' => asked .any ops S i w' ∧ WD P ops Q n S f (done ++ [i]) (upd L (opAt ops i).dst v) w'))
    (hj : St P n ops L j w (fun v w' => asked .any ops S j w' ∧ WD P ops Q n S f (done ++ [j]) (upd L (opAt ops j).dst v) w')) : WD P ops Q n S (f + 1) done L w := fun T hT => by
  have htwo : Region.ready .any ops (lsB ops.size done) = [i, j] := by
    unfold twoB at ht
    split at ht
    · rename_i a b hj
      rw [Bool.and_eq_true] at ht
      rw [hj, Nat.eq_of_beq_eq_true ht.1, Nat.eq_of_beq_eq_true ht.2]
    · cases ht
  refine ⟨fun h => (by rw [htwo] at h; cases h), fun k hk => ?_⟩
  rw [htwo] at hk
  simp only [List.mem_cons, List.not_mem_nil, or_false] at hk
  rcases hk with rfl | rfl
  · exact actOne hT hi
  · exact actOne hT hj
def AllP : List Nat → (Nat → Prop) → Prop
  | [], _ => True
  | i :: r, p => p i ∧ AllP r p
theorem AllP.mem {p : Nat → Prop} : ∀ {is : List Nat}, AllP is p → ∀ i ∈ is, p i
  | [], _, _, h => by cases h
  | _ :: _, ⟨h1, h2⟩, i, h => by
    rcases List.mem_cons.1 h with rfl | h
    · exact h1
    · exact AllP.mem h2 i h
def eqB : List Nat → List Nat → Bool
  | [], [] => true
  | a :: as, b :: bs => Nat.beq a b && eqB as bs
  | _, _ => false
theorem eqB_spec : ∀ {a b : List Nat}, eqB a b = true → a = b
  | [], [], _ => rfl
  | [], _ :: _, h => by cases h
  | _ :: _, [], h => by cases h
  | a :: as, b :: bs, h => by
    rw [eqB, Bool.and_eq_true] at h
    rw [Nat.eq_of_beq_eq_true h.1, eqB_spec h.2]
/-- several may come next: each is walked -/
theorem WD.many {is : List Nat} (ht : eqB (Region.ready .any ops (lsB ops.size done)) is = true) (hne : is.isEmpty = false)
    (h : AllP is (fun i => St P n ops L i w (fun v w' => asked .any ops S i w' ∧ WD P ops Q n S f (done ++ [i]) (upd L (opAt ops i).dst v) w'))) : WD P ops Q n S (f + 1) done L w := fun T hT => by
  have he := eqB_spec ht
  refine ⟨fun h => (by rw [h] at he; subst he; cases hne), fun k hk => ?_⟩
  rw [he] at hk
  exact actOne hT (h.mem k hk)
end
end Go.Gol
