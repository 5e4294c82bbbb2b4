/-
  A region that draws its order: one walk serves every order. What floats past an operation that acts is asked for anew behind it.
-/
import Derived.Test.YtoonceaeaigkpaaGD
import Derived.Laws.BytesArg
set_option linter.unusedVariables false
set_option linter.unusedSimpArgs false
namespace Go.Gol
open Go

section
variable {P : Program} {ops : Array Oper} {md : Region.Mode}
def noQ : Exit → Act → World → Prop := fun _ _ _ => False
/-- i must come ahead of j -/
def ancB (md : Region.Mode) (ops : Array Oper) : Nat → Nat → Nat → Bool
  | 0, _, _ => false
  | f + 1, j, i => match ops[j]? with
    | none => false
    | some o => o.after.any fun e => Region.binds md e && (e.on == i || ancB md ops f e.on i)
def Closed (md : Region.Mode) (ops : Array Oper) (listed : Array Bool) : Prop := ∀ j o, ops[j]? = some o → listed.getD j false = true → ∀ e ∈ o.after, Region.binds md e = true → listed.getD e.on false = true
theorem anc_listed {listed : Array Bool} (hc : Closed md ops listed) : ∀ (f j i : Nat), (∀ o, ops[j]? = some o → ∀ e ∈ o.after, Region.binds md e = true → listed.getD e.on false = true) → ancB md ops f j i = true → listed.getD i false = true := by
  intro f
  induction f with
  | zero => intro j i _ h; simp [ancB] at h
  | succ f ih =>
    intro j i hj h
    unfold ancB at h
    cases ho : ops[j]? with
    | none => simp [ho] at h
    | some o =>
      simp only [ho] at h
      obtain ⟨e, he, hb⟩ := Array.any_eq_true'.1 h
      simp only [Bool.and_eq_true, Bool.or_eq_true, beq_iff_eq] at hb
      have hl := hj o ho e he hb.1
      rcases hb.2 with h1 | h1
      · rw [← h1]; exact hl
      · exact ih e.on i (fun o' ho' => hc e.on o' ho' hl) h1
/-- what floats: an operation, and the worlds in which it still yields what it yielded -/
abbrev Fl := List (Nat × (World → Prop))
def asked (md : Region.Mode) (ops : Array Oper) (S : Fl) (j : Nat) (w : World) : Prop := ∀ p ∈ S, ancB md ops ops.size j p.1 = false → p.2 w
def wpR (P : Program) (md : Region.Mode) (ops : Array Oper) (E : Act → World → Prop) (S : Fl) : Nat → Array Bool → Act → World → Prop
  | 0, listed, a, w => Region.ready md ops listed = [] ∧ E a w
  | f + 1, listed, a, w => (Region.ready md ops listed = [] → E a w) ∧
    ∀ j ∈ Region.ready md ops listed, wpOp P ops noQ j (fun a' w' => (w' = w ∨ asked md ops S j w') ∧ wpR P md ops E S f (listed.setIfInBounds j true) a' w') a w
theorem Oper.wp_noQ {o : Oper} {a : Act} {w : World} {K K' : Act → World → Prop} {Q : Exit → Act → World → Prop} (h : ∀ a w, K a w → K' a w) (hh : o.wp P a w K noQ) : o.wp P a w K' Q := by
  unfold Oper.wp at *
  generalize (execOp a.eval o).run P w = r at *
  cases r with
  | ok n w' =>
    cases n <;> simp only [Oper.upon] at hh ⊢ <;>
      first
        | exact h _ _ hh
        | (exact Calls.mono hh (fun e w'' he => by cases e <;> first | exact h _ _ he | exact he.elim | (obtain ⟨_, _, hf⟩ := he; exact hf.elim)))
        | exact Rows.mono hh (fun _ _ he => h _ _ he)
  | halt x w' => cases x <;> simp only [Oper.upon] at hh ⊢ <;> exact hh.elim
theorem wpOp_noQ {i : Nat} {a : Act} {w : World} {K K' : Act → World → Prop} {Q : Exit → Act → World → Prop} (h : ∀ a w, K a w → K' a w) (hh : wpOp P ops noQ i K a w) : wpOp P ops Q i K' a w := by
  unfold wpOp at *
  split
  · exact h _ _ (by simpa [*] using hh)
  · rename_i o ho
    simp only [ho] at hh
    split
    · rename_i hw; simp only [hw, if_true] at hh
      rcases hh with hh | ⟨_, _, _, hf⟩
      · exact .inl (Oper.wp_noQ h hh)
      · exact hf.elim
    · rename_i hw; simp only [hw] at hh; exact h _ _ hh
theorem wpAny_of_wpR {E : Act → World → Prop} {Q : Exit → Act → World → Prop} (hE : ∀ a w, E a w → Q .normal a w) {S : Fl} : ∀ (f : Nat) (listed : Array Bool) (a : Act) (w : World), wpR P md ops E S f listed a w → wpAny P md ops Q f listed a w
  | 0, _, _, _, h => ⟨h.1, hE _ _ h.2⟩
  | f + 1, _, _, _, h => ⟨fun h0 => hE _ _ (h.1 h0), fun j hj => wpOp_noQ (fun a' w' h' => wpAny_of_wpR hE f _ a' w' h'.2) (h.2 j hj)⟩
/-- in the worlds S, operation 'o' yields v and leaves the world -/
def YS (P : Program) (ops : Array Oper) (S : World → Prop) (o : Oper) (v : Value) (a : Act) : Prop :=
  (Region.wanted o (yielded ops a.tmps) = true ∧ ∀ w, S w → (execOp a.eval o).run P w = .ok (.value v) w) ∨ (Region.wanted o (yielded ops a.tmps) = false ∧ v = undef)
theorem YS.of_same {S : World → Prop} {o : Oper} {v : Value} {a a' : Act} (hy : YS P ops S o v a) (he : execOp a'.eval o = execOp a.eval o)
    (hw : Region.wanted o (yielded ops a'.tmps) = Region.wanted o (yielded ops a.tmps)) : YS P ops S o v a' := by unfold YS at *; rw [he, hw]; exact hy
theorem YS.wpOp {S : World → Prop} {i : Nat} {o : Oper} {v : Value} {a : Act} {w : World} {K : Act → World → Prop} (hi : ops[i]? = some o) (hy : YS P ops S o v a) (hs : S w) (h : K (a.put o.dst v) w) : wpOp P ops noQ i K a w := by
  unfold Go.wpOp
  simp only [hi]
  rcases hy with ⟨hw, hv⟩ | ⟨hw, rfl⟩
  · simp only [hw, if_true, Oper.wp, hv w hs, Oper.upon]; exact .inl h
  · simp only [hw, Bool.false_eq_true, if_false]; exact h
theorem wpOp_putS {S : World → Prop} {j : Nat} {oi oj : Oper} {v : Value} (hj : ops[j]? = some oj) (hap : oi.apart ops oj = true)
    (hsi : ∀ cs b, oi.op ≠ .select cs b) (hsj : ∀ cs b, oj.op ≠ .select cs b) {K : Act → World → Prop} {a : Act} {w : World}
    (hy : YS P ops S oi v a) (h : wpOp P ops noQ j K (a.put oi.dst v) w) :
    wpOp P ops noQ j (fun a' w' => YS P ops S oi v a' ∧ K (a'.put oi.dst v) w') a w := by
  obtain ⟨h1, h2, h3⟩ := Oper.apart_spec hap
  have keep : ∀ (a : Act), YS P ops S oi v a → ∀ u, YS P ops S oi v (a.put oj.dst u) := fun a hy u =>
    hy.of_same (execOp_put oi hsi a oj.dst u h3) (wanted_put oi a oj.dst u h3)
  have keepD : ∀ d, YS P ops S oi v { a with defers := d :: a.defers } := fun d => hy.of_same rfl rfl
  unfold wpOp at *
  simp only [hj] at *
  rw [wanted_put oj a oi.dst v h1] at h
  split
  · rename_i hw
    simp only [hw, if_true] at h
    rcases h with h | ⟨_, _, _, hf⟩
    case inr => exact hf.elim
    refine .inl ?_
    unfold Oper.wp at *
    rw [execOp_put oj hsj a oi.dst v h1] at h
    generalize (execOp a.eval oj).run P w = r at *
    cases r with
    | ok n w' =>
      cases n <;> simp only [Oper.upon] at h ⊢
      case value u => exact ⟨keep a hy u, by rw [← Act.put_comm a v u h2]; exact h⟩
      case skip => exact ⟨keep a hy _, by rw [← Act.put_comm a v undef h2]; exact h⟩
      case defer d =>
        refine ⟨keep _ (keepD d) _, ?_⟩
        rw [← Act.put_comm _ v undef h2, ← Act.put_defers]
        exact h
      case enter f args =>
        refine Calls.mono h fun e w'' he => ?_
        cases e with
        | returned u => exact ⟨keep a hy u, by rw [← Act.put_comm a v u h2]; exact he⟩
        | panicked c => exact he.elim
        | outgrown => obtain ⟨_, _, hf⟩ := he; exact hf.elim
      case row row args => exact Rows.mono h fun u w'' he => ⟨keep a hy u, by rw [← Act.put_comm a v u h2]; exact he⟩
    | halt x w' =>
      cases x <;> simp only [Oper.upon] at h ⊢
      case panic u => exact h.elim
  · rename_i hw
    simp only [hw] at h
    exact ⟨keep a hy _, by rw [← Act.put_comm a v undef h2]; exact h⟩

/-- an operation that only yields a value may be taken first -/
theorem wpR_first {E : Act → World → Prop} {S : Fl} {Si : World → Prop} {i : Nat} {oi : Oper} {v : Value} (hi : ops[i]? = some oi) (hsel : ∀ (j : Nat) (o : Oper) cs b, ops[j]? = some o → o.op ≠ .select cs b) :
    ∀ (fuel : Nat) (listed : Array Bool) (a : Act) (w : World), listed.size = ops.size → Closed md ops listed →
      (∀ j oj, ops[j]? = some oj → j ≠ i → listed.getD j true = false → (∀ e ∈ oj.after, Region.binds md e = true → e.on ≠ i) → oi.apart ops oj = true) →
      i ∈ Region.ready md ops listed → YS P ops Si oi v a → Si w →
      wpR P md ops E ((i, Si) :: S) fuel (listed.setIfInBounds i true) (a.put oi.dst v) w → wpR P md ops E S (fuel + 1) listed a w := by
  intro fuel
  induction fuel with
  | zero =>
    intro listed a w hsz hcl _ hr hy hs H
    refine ⟨fun h => (by rw [h] at hr; cases hr), fun j hj => ?_⟩
    by_cases hji : j = i
    · subst hji; exact hy.wpOp hi hs ⟨.inl rfl, H.1, H.2⟩
    · have := ready_mono hj hji
      rw [H.1] at this
      cases this
  | succ fuel ih =>
    intro listed a w hsz hcl hfree hr hy hs H
    refine ⟨fun h => (by rw [h] at hr; cases hr), fun j hj => ?_⟩
    by_cases hji : j = i
    · subst hji
      refine hy.wpOp hi hs ⟨.inl rfl, ?_⟩
      exact mono (fuel + 1) _ _ _ H
    · have h1 := H.2 j (ready_mono hj hji)
      obtain ⟨hjun, oj, hoj, hall⟩ := mem_ready.1 hj
      have h0 := (mem_ready.1 hr).1
      have hiF : listed.getD i false = false := by
        rcases Nat.lt_or_ge i listed.size with h' | h'
        · simp [h'] at h0 ⊢; exact h0
        · simp [Array.getElem?_eq_none h']
      have hnot : ∀ e ∈ oj.after, Region.binds md e = true → e.on ≠ i := fun e he hb heq => by
        have h1 := hall e he hb
        rw [heq, hiF] at h1; cases h1
      have hanc : ancB md ops ops.size j i = false := by
        cases hb : ancB md ops ops.size j i with
        | false => rfl
        | true =>
          have := anc_listed hcl ops.size j i (fun o ho e he hb => by
            have : oj = o := Option.some.inj (hoj.symm.trans ho)
            subst this; exact hall e he hb) hb
          rw [hiF] at this; cases this
      have h2 := wpOp_putS hoj (hfree j oj hoj hji hjun hnot) (fun cs b => hsel i oi cs b hi) (fun cs b => hsel j oj cs b hoj) hy h1
      have hfree' : ∀ k ok, ops[k]? = some ok → k ≠ i → (listed.setIfInBounds j true).getD k true = false →
          (∀ e ∈ ok.after, Region.binds md e = true → e.on ≠ i) → oi.apart ops ok = true := fun k ok hk hki hun hno => by
        refine hfree k ok hk hki ?_ hno
        by_cases hjk : j = k
        · subst hjk; exact hjun
        · rw [getD_set_ne true hjk] at hun; exact hun
      refine wpOp_mono (fun a' w' h3 => ?_) h2
      obtain ⟨hy', hask, hrest⟩ := h3
      have hs' : Si w' := by
        rcases hask with rfl | hask
        · exact hs
        · exact hask (i, Si) (List.mem_cons_self) hanc
      refine ⟨hask.imp id (fun h p hp => h p (List.mem_cons_of_mem _ hp)), ih (listed.setIfInBounds j true) a' w' (by simpa using hsz) ?_ hfree' (ready_mono hr (Ne.symm hji)) hy' hs' ?_⟩
      · intro k ok hk hl e he hb
        by_cases hjk : j = k
        · subst hjk
          have : oj = ok := Option.some.inj (hoj.symm.trans hk)
          subst this; exact getD_set_true (hall e he hb)
        · rw [getD_set_ne false hjk] at hl; exact getD_set_true (hcl k ok hk hl e he hb)
      · rw [Array.setIfInBounds_comm _ _ hji]
        exact hrest
  where
  mono {E : Act → World → Prop} {S : Fl} {Si : World → Prop} {i : Nat} : ∀ (f : Nat) (listed : Array Bool) (a : Act) (w : World), wpR P md ops E ((i, Si) :: S) f listed a w → wpR P md ops E S f listed a w
    | 0, _, _, _, h => h
    | f + 1, _, _, _, h => ⟨h.1, fun j hj => wpOp_mono (fun a' w' h' => ⟨h'.1.imp id (fun q p hp => q p (List.mem_cons_of_mem _ hp)), mono f _ a' w' h'.2⟩) (h.2 j hj)⟩
end

/-! ### over slots -/
def lsB (n : Nat) (done : List Nat) : Array Bool := done.foldl (fun l i => l.setIfInBounds i true) (Array.replicate n false)
def closedB (md : Region.Mode) (ops : Array Oper) (listed : Array Bool) : Bool :=
  (List.range ops.size).all fun j => !listed.getD j false || (match ops[j]? with | some o => o.after.all (fun e => !Region.binds md e || listed.getD e.on false) | none => true)
theorem closedB_spec {md : Region.Mode} {ops : Array Oper} {listed : Array Bool} (h : closedB md ops listed = true) : Closed md ops listed := by
  intro j o ho hl e he hb
  simp only [closedB, List.all_eq_true, List.mem_range] at h
  have h1 := h j (Array.getElem?_eq_some_iff.1 ho).1
  simp only [hl, ho, Bool.not_true, Bool.false_or, Array.all_eq_true_iff_forall_mem] at h1
  have h2 := h1 e he
  simpa [hb] using h2
/-- the region, when the operations 'done' have come up -/
def WD (P : Program) (ops : Array Oper) (Q : Exit → Act → World → Prop) (n : Nat) (S : Fl) (f : Nat) (done : List Nat) (L : SL) (w : World) : Prop :=
  ∀ T, Holds n L T → wpR P .any ops (Q .normal) S f (lsB ops.size done) ⟨T, []⟩ w
/-- may operation i be taken first? -/
def takeB (ops : Array Oper) (done : List Nat) (i : Nat) : Bool :=
  Region.noSelect ops && (closedB .any ops (lsB ops.size done) && ((Region.ready .any ops (lsB ops.size done)).contains i && Region.free .any ops (lsB ops.size done) i))
/-- must it? -/
def onlyB (ops : Array Oper) (done : List Nat) (i : Nat) : Bool := match Region.ready .any ops (lsB ops.size done) with | [j] => Nat.beq j i | _ => false

section
variable {P : Program} {Q : Exit → Act → World → Prop} {n : Nat} {ops : Array Oper} {L : SL} {w : World} {i f : Nat} {S : Fl} {done : List Nat} {c : Code}
theorem ls_size (n : Nat) (done : List Nat) : (lsB n done).size = n := by
  unfold lsB
  have : ∀ (l : Array Bool), (done.foldl (fun l i => l.setIfInBounds i true) l).size = l.size := by
    induction done with
    | nil => intro l; rfl
    | cons d ds ih => intro l; simp only [List.foldl_cons]; rw [ih]; simp
  rw [this]; simp
theorem ls_snoc (n : Nat) (done : List Nat) (i : Nat) : lsB n (done ++ [i]) = (lsB n done).setIfInBounds i true := by simp [lsB]
theorem WC.draw (h : isDraw c = true) (hm : P.follows .mixedOrders = true) (hh : WD P (cops c) Q n [] (cops c).size [] L { w with drawn := w.drawn + 1 }) : WC P c Q n L w := fun T hT => by
  cases c with
  | region id ops d =>
    cases d <;> simp [isDraw] at h
    refine wp_region_any hm ?_
    have h1 : wpR P .any ops (Q .normal) [] ops.size (lsB ops.size []) ⟨T, []⟩ { w with drawn := w.drawn + 1 } := hh T hT
    have := wpAny_of_wpR (P := P) (md := .any) (ops := ops) (E := Q .normal) (Q := Q) (fun a w h => h) ops.size _ _ _ h1
    simpa [lsB] using this
  | _ => simp [isDraw] at h
theorem WD.nil (h : (Region.ready .any ops (lsB ops.size done)).isEmpty = true) (hh : At Q .normal n L w) : WD P ops Q n S 0 done L w := fun T hT => ⟨by simpa using h, hh T hT⟩
/-- what yields a value in all worlds -/
theorem WD.pure {v : Value} (ht : takeB ops done i = true) (h : ready n ops L i = true) (hr : ∀ w, (execOp (rho L) (opAt ops i)).run P w = .ok (.value v) w)
    (hh : WD P ops Q n S f (done ++ [i]) (upd L (opAt ops i).dst v) w) : WD P ops Q n S (f + 1) done L w := fun T hT => by
  obtain ⟨h1, h2, h3⟩ := ready_spec h
  simp only [takeB, Bool.and_eq_true] at ht
  obtain ⟨hsel, hcl, hrd, hfr⟩ := ht
  simp only [Bool.and_eq_true] at h3
  obtain ⟨T', e1, hT'⟩ := hT.put h3.1 v
  refine wpR_first (Si := fun _ => True) (v := v) h1 (Region.noSelect_spec hsel) f _ _ _ (ls_size _ _) (closedB_spec hcl) (Region.free_spec h1 hfr) (by simpa using hrd) ?_ trivial ?_
  · exact .inl ⟨wanted_gd hT h2, fun w _ => by rw [exec_rho hT h3.2.1 h3.2.2]; exact hr w⟩
  · rw [e1, ← ls_snoc]
    exact grow (hh T' hT')
  where
  grow {E : Act → World → Prop} {S : Fl} {i : Nat} : ∀ {f : Nat} {listed : Array Bool} {a : Act} {w : World}, wpR P .any ops E S f listed a w → wpR P .any ops E ((i, fun _ => True) :: S) f listed a w
    | 0, _, _, _, h => h
    | f + 1, _, _, _, h => ⟨h.1, fun j hj => wpOp_mono (fun a' w' h' => ⟨h'.1.imp id (fun q p hp => by
        rcases List.mem_cons.1 hp with rfl | hp
        · exact fun _ => trivial
        · exact q p hp), grow h'.2⟩) (h.2 j hj)⟩
/-- what is not wanted -/
theorem WD.skip (ht : takeB ops done i = true) (h : (match ops[i]? with | some o => (match gd L ops o with | some false => true | _ => false) && dstOk n o | none => false) = true)
    (hh : WD P ops Q n S f (done ++ [i]) (upd L (opAt ops i).dst undef) w) : WD P ops Q n S (f + 1) done L w := fun T hT => by
  cases ho : ops[i]? with
  | none => simp [ho] at h
  | some o =>
    simp only [ho, Bool.and_eq_true] at h
    have e : opAt ops i = o := by simp [opAt, ho]
    rw [e] at hh
    have hg : gd L ops o = some false := by
      have := h.1
      split at this
      · assumption
      · cases this
    simp only [takeB, Bool.and_eq_true] at ht
    obtain ⟨hsel, hcl, hrd, hfr⟩ := ht
    obtain ⟨T', e1, hT'⟩ := hT.put h.2 undef
    refine wpR_first (Si := fun _ => True) (v := undef) ho (Region.noSelect_spec hsel) f _ _ _ (ls_size _ _) (closedB_spec hcl) (Region.free_spec ho hfr) (by simpa using hrd) (.inr ⟨wanted_gd hT hg, rfl⟩) trivial ?_
    rw [e1, ← ls_snoc]
    exact WD.pure.grow (hh T' hT')
/-- what reads -/
theorem WD.read {v : Value} (ht : takeB ops done i = true) (h : ready n ops L i = true) (hr : (execOp (rho L) (opAt ops i)).run P w = .ok (.value v) w)
    (hh : WD P ops Q n ((i, fun w => (execOp (rho L) (opAt ops i)).run P w = .ok (.value v) w) :: S) f (done ++ [i]) (upd L (opAt ops i).dst v) w) : WD P ops Q n S (f + 1) done L w := fun T hT => by
  obtain ⟨h1, h2, h3⟩ := ready_spec h
  simp only [takeB, Bool.and_eq_true] at ht
  obtain ⟨hsel, hcl, hrd, hfr⟩ := ht
  simp only [Bool.and_eq_true] at h3
  obtain ⟨T', e1, hT'⟩ := hT.put h3.1 v
  refine wpR_first (Si := fun w => (execOp (rho L) (opAt ops i)).run P w = .ok (.value v) w) (v := v) h1 (Region.noSelect_spec hsel) f _ _ _ (ls_size _ _) (closedB_spec hcl) (Region.free_spec h1 hfr) (by simpa using hrd) ?_ hr ?_
  · exact .inl ⟨wanted_gd hT h2, fun w hw => by rw [exec_rho hT h3.2.1 h3.2.2]; exact hw⟩
  · rw [e1, ← ls_snoc]
    exact hh T' hT'
/-- what acts: nothing else can come up -/
theorem WD.act (ht : onlyB ops done i = true) (h : St P n ops L i w (fun v w' => asked .any ops S i w' ∧ WD P ops Q n S f (done ++ [i]) (upd L (opAt ops i).dst v) w')) : WD P ops Q n S (f + 1) done L w := fun T hT => by
  have hone : Region.ready .any ops (lsB ops.size done) = [i] := by
    unfold onlyB at ht
    split at ht
    · rename_i j hj; rw [hj, beq_of ht]
    · cases ht
  refine ⟨fun h => (by rw [hone] at h; cases h), fun j hj => ?_⟩
  rw [hone] at hj
  simp only [List.mem_singleton] at hj
  subst hj
  obtain ⟨hr, h⟩ := h
  obtain ⟨h1, h2, h3⟩ := ready_spec hr
  simp only [Bool.and_eq_true] at h3
  unfold wpOp
  simp only [h1, wanted_gd hT h2, if_true]
  refine .inl ?_
  unfold Oper.wp
  rw [exec_rho hT h3.2.1 h3.2.2]
  have fin : ∀ v w', (asked .any ops S j w' ∧ WD P ops Q n S f (done ++ [j]) (upd L (opAt ops j).dst v) w') →
      (w' = w ∨ asked .any ops S j w') ∧ wpR P .any ops (Q .normal) S f ((lsB ops.size done).setIfInBounds j true) ((⟨T, []⟩ : Act).put (opAt ops j).dst v) w' := fun v w' ⟨ha, hw⟩ => by
    obtain ⟨T', e1, hT'⟩ := hT.put h3.1 v
    refine ⟨.inr ha, ?_⟩
    rw [e1, ← ls_snoc]
    exact hw T' hT'
  rcases h with ⟨v, w', hv, hh⟩ | ⟨w', hv, hh⟩ | ⟨g, args, hv, hh⟩
  · rw [hv]; exact fin v w' hh
  · rw [hv]; exact fin undef w' hh
  · rw [hv]
    refine Calls.mono hh ?_
    rintro e w' ⟨v, rfl, hK⟩
    exact fin v w' hK
/-- what floats no more is let go -/
theorem WD.settle {S' : Fl} (hs : ∀ p ∈ S, p ∈ S') (h : WD P ops Q n S' f done L w) : WD P ops Q n S f done L w := fun T hT => go f _ _ _ (h T hT)
  where
  go : ∀ (f : Nat) (listed : Array Bool) (a : Act) (w : World), wpR P .any ops (Q .normal) S' f listed a w → wpR P .any ops (Q .normal) S f listed a w
    | 0, _, _, _, h => h
    | f + 1, _, _, _, h => ⟨h.1, fun j hj => wpOp_mono (fun a' w' h' => ⟨h'.1.imp id (fun q p hp => q p (hs p hp)), go f _ a' w' h'.2⟩) (h.2 j hj)⟩
end
end Go.Gol
