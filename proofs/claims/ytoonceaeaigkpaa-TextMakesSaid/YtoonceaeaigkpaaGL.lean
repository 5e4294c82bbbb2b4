/-
  Objects that are only looked at; parts whose memory has a name; rows of which each element is one's own. My own text.
-/
import Derived.Test.YtoonceaeaigkpaaGK
set_option linter.unusedVariables false
set_option linter.unusedSimpArgs false
namespace Go.Gol
open Go
theorem opt_cases {α : Type} (o : Option α) : o = none ∨ ∃ y, o = some y := by cases o with | none => exact .inl rfl | some y => exact .inr ⟨y, rfl⟩
theorem rd_ptr_none {H : Heap} {t : TypeId} {κ : Ki} {v : Value} {o : Option κ.T} (h : rd H (.ptr t κ) [v] o) (e : o = none) : v = .pointer none := by
  subst e
  have h' : [v] = [Value.pointer none] := h
  simpa using h'
theorem rd_ptr_some {H : Heap} {t : TypeId} {κ : Ki} {v : Value} {o : Option κ.T} {y : κ.T} (h : rd H (.ptr t κ) [v] o) (e : o = some y) :
    ∃ (b : Nat) (cells : Array Value) (fr : Nat × Nat), v = .pointer (some ⟨b, 0, none⟩) ∧ H b = some (.cells cells t fr) ∧ rd H κ cells.toList y := by
  subst e
  obtain ⟨b, cells, fr, e, hb, hr⟩ := h
  exact ⟨b, cells, fr, by simpa using e, hb, hr⟩
section
variable {P : Program} {n : Nat} {ops : Array Oper} {L : SL} {w : World} {i : Nat} {K : Value → World → Prop} {M : Value → Prop} {B : Rf} {cs : List HP}
/-- a field of an object that is only looked at -/
theorem RSt.loadRo {t : TypeId} (x : Operand) (hop : (opAt ops i).op = .load t x) (hrd : ready n ops L i = true) (hagg : (isAgg t).run P w = .ok false w) {H : Heap} (hH : Sub H (hp w)) {b k : Nat} {cur : Array Value} {e : TypeId} {fr : Nat × Nat} {v : Value}
    (hb : H b = some (.cells cur e fr)) (hx : rho L x = .pointer (some ⟨b, k, none⟩)) (hv : cur[k]? = some v) (hh : M v) : RSt P n ops L i w M :=
  RSt.load x _ hop hrd hagg hx (by rw [cell_of_hp (hH _ _ hb), hv]) hh
/-- a part as it reads now -/
theorem Sat.rdAny (j : Nat) {κ : Ki} {vs : List Value} {x : κ.T} {c : HP} (h : Sat w B cs) (hj : cs[j]? = some c) (hc : ∀ H, c H → rd H κ vs x) : rd (hp w) κ vs x := by
  obtain ⟨M0, hM, _, hm⟩ := Sat.read _ _ (split_at hj ▸ h)
  exact rd.mono hM _ _ _ (hc _ hm)
theorem Sat.rdAnyS (j : Nat) {κ : Ki} {sz : Nat} {A : Option Addr} {k : Nat} {xs : List κ.T} {c : HP} (h : Sat w B cs) (hj : cs[j]? = some c) (hc : ∀ H, c H → Gol.rdS (Gol.rd H κ) sz H A k xs) : Gol.rdS (rd (hp w) κ) sz (hp w) A k xs := by
  obtain ⟨M0, hM, _, hm⟩ := Sat.read _ _ (split_at hj ▸ h)
  exact (hc _ hm).upd hM
theorem SepL.rdAny (j : Nat) {H : Heap} {κ : Ki} {vs : List Value} {x : κ.T} {c : HP} (h : SepL cs H) (hj : cs[j]? = some c) (hc : ∀ H, c H → rd H κ vs x) : rd H κ vs x := by
  obtain ⟨M0, hM, hm⟩ := SepL.readAt _ _ (split_at hj ▸ h)
  exact rd.mono hM _ _ _ (hc _ hm)
theorem SepL.rdAnyS (j : Nat) {H : Heap} {κ : Ki} {sz : Nat} {A : Option Addr} {k : Nat} {xs : List κ.T} {c : HP} (h : SepL cs H) (hj : cs[j]? = some c) (hc : ∀ H, c H → Gol.rdS (Gol.rd H κ) sz H A k xs) : Gol.rdS (Gol.rd H κ) sz H A k xs := by
  obtain ⟨M0, hM, hm⟩ := SepL.readAt _ _ (split_at hj ▸ h)
  exact (hc _ hm).upd hM
theorem Sat.blockAt (j : Nat) {b : Nat} {o : Obj} (h : Sat w B cs) (hj : cs[j]? = some (pts b o)) : hp w b = some o := by
  obtain ⟨M0, hM, _, hm⟩ := Sat.read _ _ (split_at hj ▸ h)
  exact hM _ _ hm
theorem SepL.blockAt (j : Nat) {H : Heap} {b : Nat} {o : Obj} (h : SepL cs H) (hj : cs[j]? = some (pts b o)) : H b = some o := by
  obtain ⟨M0, hM, hm⟩ := SepL.readAt _ _ (split_at hj ▸ h)
  exact hM _ _ hm
theorem optP.rdd {t : TypeId} {κ : Ki} {O : Nat → κ.T → HP} (hO : ∀ b x H, O b x H → Gol.rd H (.ptr t κ) [.pointer (.some ⟨b, 0, .none⟩)] (Option.some x)) {v : Value} {x : Option κ.T} {H : Heap} (h : optP O v x H) : Gol.rd H (.ptr t κ) [v] x := by
  cases x with
  | none => have h' : v = .pointer .none := h; subst h'; rfl
  | some y => obtain ⟨b, rfl, h⟩ := h; exact hO b y H h
theorem rd_ptr_one {H : Heap} {t : TypeId} {κ : Ki} {c : List Value} {o : Option κ.T} (h : Gol.rd H (.ptr t κ) c o) : ∃ v, c = [v] := by
  cases o with
  | none => exact ⟨_, h⟩
  | some y => obtain ⟨b, cells, fr, e, _⟩ := h; exact ⟨_, e⟩

/-! ### a part whose memory has a name -/
def gh (K : Heap) : HP := fun H => H = K
theorem Sat.gho {c : HP} (h : Sat w B (c :: cs)) : ∃ K, c K ∧ Sat w B (gh K :: cs) := by
  obtain ⟨hs, H1, hd, h0, h1, A, C, d, hA, hC, ha, hr⟩ := h
  exact ⟨A, ha, hs, H1, hd, h0, h1, A, C, d, hA, hC, rfl, hr⟩
theorem Sat.ungh {c : HP} {K : Heap} (hc : c K) (h : Sat w B (gh K :: cs)) : Sat w B (c :: cs) := h.mono1 (fun H e => by have e' : H = K := e; subst e'; exact hc)
theorem Sat.ghAt (j : Nat) {K : Heap} (h : Sat w B cs) (hj : cs[j]? = some (gh K)) : Sub K (hp w) := by
  obtain ⟨M0, hM, _, hm⟩ := Sat.read _ _ (split_at hj ▸ h)
  have e : M0 = K := hm
  exact e ▸ hM
theorem SepL.ghAt (j : Nat) {H K : Heap} (h : SepL cs H) (hj : cs[j]? = some (gh K)) : Sub K H := by
  obtain ⟨M0, hM, hm⟩ := SepL.readAt _ _ (split_at hj ▸ h)
  have e : M0 = K := hm
  exact e ▸ hM

/-! ### rows of which each element is one's own -/
def rid (c x : List Value) : Prop := c = x ∧ ∀ v ∈ c, v.oneCell' = true
def orw {α : Type} (e : TypeId) (E : List Value → α → HP) (sz : Nat) (A : Option Addr) (c : Nat) (xs : List α) : HP := fun H =>
  ∃ css : List (List Value), css.length = xs.length ∧ SepL (osl e rid sz A c css :: List.zipWith E css xs) H
theorem orw.nil {α : Type} (e : TypeId) (E : List Value → α → HP) (sz : Nat) (H : Heap) : orw e E sz none 0 ([] : List α) H := ⟨[], rfl, Em, H, fun _ => .inl rfl, Sub.em _, Sub.refl _, osl.nil _ _ _ _, trivial⟩
theorem Sat.addNilR {α : Type} (h : Sat w B cs) (e : TypeId) (E : List Value → α → HP) (sz : Nat) : Sat w B (orw e E sz none 0 ([] : List α) :: cs) := by
  obtain ⟨hsame, H1, hd, h0, h1, hs⟩ := h
  exact ⟨hsame, H1, hd, h0, h1, Em, H1, fun _ => .inl rfl, Sub.em _, Sub.refl _, orw.nil e E sz _, hs⟩
theorem orw.rdS {κ : Ki} {e : TypeId} {E : List Value → κ.T → HP} (hE : ∀ cs x H, E cs x H → rd H κ cs x) {sz : Nat} {A : Option Addr} {c : Nat} {xs : List κ.T} {H : Heap} (h : orw e E sz A c xs H) : Gol.rdS (rd H κ) sz H A c xs := by
  obtain ⟨css, hl, H1, H2, hd, h1, h2, ho, hz⟩ := h
  have hr := (osl.read ho).mono h1 (fun _ _ h => h)
  have hx : ∀ (j : Nat) (cc : List Value) (x : κ.T), css[j]? = some cc → xs[j]? = some x → rd H κ cc x := fun j cc x hc hx => by
    have : (List.zipWith E css xs)[j]? = some (E cc x) := by simp [List.getElem?_zipWith, hc, hx]
    obtain ⟨M0, hM, hm⟩ := SepL.readAt _ _ (split_at this ▸ hz)
    exact rd.mono (hM.trans h2) _ _ _ (hE _ _ _ hm)
  obtain ⟨r1, r2, r3⟩ := hr
  refine ⟨by omega, r2, ?_⟩
  cases A with
  | none => subst r3; exact List.eq_nil_of_length_eq_zero (by simpa using hl.symm)
  | some a =>
    rcases r3 with r3 | ⟨q1, cells, E', fr, hb, ho', q⟩
    · exact .inl r3
    · refine .inr ⟨q1, cells, E', fr, hb, ho', ?_⟩
      rw [← hl]
      obtain ⟨dss, e1, e2, e3, e4⟩ := q
      refine ⟨dss, e1, by omega, e3, fun j cc x hc hxx => ?_⟩
      have hj : j < css.length := by
        rw [← e2]; rcases Nat.lt_or_ge j dss.length with h | h
        · exact h
        · rw [List.getElem?_eq_none h] at hc; cases hc
      have := (e4 j cc css[j] hc (List.getElem?_eq_getElem hj)).1
      subst this
      exact hx j _ x (List.getElem?_eq_getElem hj) hxx
/-- an element that is a slice of one's own -/
def Esl (e : TypeId) (κ : Ki) (cs : List Value) (x : List κ.T) : HP := fun H => ∃ A c, cs = [.slice A (List.length x) c] ∧ osl e (r0 κ) κ.sz A c x H
theorem Esl.rd {e : TypeId} {κ : Ki} (cs : List Value) (x : List κ.T) (H : Heap) (h : Esl e κ cs x H) : Gol.rd H (.slice e κ) cs x := by
  obtain ⟨A, c, rfl, h⟩ := h
  exact ⟨A, c, rfl, (osl.read h).mono (Sub.refl _) (fun _ _ h => r0_up H h)⟩
theorem Esl.mk {e : TypeId} {κ : Ki} {A : Option Addr} {c : Nat} {x : List κ.T} (H : Heap) (h : osl e (r0 κ) κ.sz A c x H) : Esl e κ [.slice A (List.length x) c] x H := ⟨A, c, rfl, h⟩
/-- an element that is a pointer to an object of one's own -/
def Ept {α : Type} (O : Nat → α → HP) (cs : List Value) (x : Option α) : HP := fun H => ∃ v, cs = [v] ∧ optP O v x H
theorem SepL.zip_append {α : Type} {E : List Value → α → HP} {css : List (List Value)} {xs : List α} (hl : css.length = xs.length) (c : List Value) (x : α) : List.zipWith E (css ++ [c]) (xs ++ [x]) = List.zipWith E css xs ++ [E c x] := by
  rw [List.zipWith_append hl]; rfl
/-- one element is laid behind rows of one's own -/
theorem St.appendOwn {α : Type} {t e : TypeId} {sz bytes : Nat} (s x : Operand) (hop : (opAt ops i).op = .call { callee := .builtin .append, args := #[s, x], argTypes := #[t, t] }) (hrd : ready n ops L i = true) (hE : ElemInfo P t e sz bytes)
    {E : List Value → α → HP} {A : Option Addr} {c : Nat} {xs zs : List α} {y : α} {b2 : Nat} {e2 : TypeId} {fr : Nat × Nat} {cells : List Value} {own : HP} (hown : ∀ H, own H → E cells y H)
    (hS : Sat w B (orw e E sz A c xs :: own :: cs)) (j : Nat) (hj : cs[j]? = some (pts b2 (.cells cells.toArray e2 fr))) (hone : (cells.all (·.oneCell')) = true) (hcl : Nat.beq cells.length sz = true)
    (hs : rho L s = .slice A xs.length c) (hx : rho L x = .slice (some ⟨b2, 0, none⟩) 1 1)
    (lim : Nat) (hlim : Nat.ble (lim * bytes) 140737488355328 = true) (hlim2 : Nat.ble lim 140737488355328 = true) (hv : app? lim xs [y] = some zs)
    (hh : ∀ A' c' w' Kn, Sat w' B (gh Kn :: cs) → orw e E sz A' c' zs Kn → (∃ M, Sub M Kn ∧ own M) → K (.slice A' zs.length c') w') : St P n ops L i w K := by
  obtain ⟨css, h1⟩ := Sat.ex hS
  have hcss : css.length = xs.length := Sat.pure1 (fun _ h => h.1) h1
  have h2 : Sat w B (SepL (osl e rid sz A c css :: List.zipWith E css xs) :: own :: cs) := h1.mono1 (fun _ h => h.2)
  have h3 := Sat.op h2
  have hcl' := beq_of hcl
  have hone' : ∀ v ∈ cells, v.oneCell' = true := fun v hv => (List.all_eq_true.1 hone) v hv
  have hcell : hp w b2 = some (.cells cells.toArray e2 fr) := by
    have hj' : (orw e E sz A c xs :: own :: cs)[j + 2]? = some (pts b2 (.cells cells.toArray e2 fr)) := by simpa using hj
    exact Sat.blockAt (j + 2) hS hj'
  have hrd2 : rdS rid sz (hp w) (some ⟨b2, 0, none⟩) 1 [cells] := by
    refine ⟨Nat.le_refl _, by decide, .inr ⟨rfl, cells.toArray, e2, fr, hcell, by simp [hcl'], ?_⟩⟩
    have e1 : (List.take ([cells].length * sz) (List.drop (0 : Nat) cells.toArray.toList)) = cells := by simp [← hcl']
    show rdL rid sz (List.take ([cells].length * sz) (List.drop (0 : Nat) cells.toArray.toList)) [cells]
    rw [e1]; exact rdL.single hcl' ⟨rfl, hone'⟩
  obtain ⟨hle, rfl⟩ := app?_some hv
  have hv' : app? lim css [cells] = some (css ++ [cells]) := by
    unfold app?; rw [if_pos (by simpa [hcss] using hle)]
  have hs' : rho L s = .slice A css.length c := by rw [hcss]; exact hs
  refine St.append' (R := rid) s x hop hrd hE (fun c x h => h.2) (bs := List.zipWith E css xs ++ own :: cs) (xs := css) (ys := [cells]) (zs := css ++ [cells]) (by simpa using h3) hs' hx hrd2 lim hlim hlim2 hv' (fun A' c' w' h4 => ?_)
  have h5 : Sat w' B ((osl e rid sz A' c' (css ++ [cells]) :: (List.zipWith E css xs ++ [own])) ++ cs) := by simpa using h4
  obtain ⟨Kn, hK, h6⟩ := Sat.gho (Sat.cl _ h5)
  have hlen : (xs ++ [y]).length = (css ++ [cells]).length := by simp [hcss]
  rw [show (.slice A' (css ++ [cells]).length c' : Value) = .slice A' (xs ++ [y]).length c' by rw [hlen]]
  refine hh A' c' w' Kn h6 ⟨css ++ [cells], by simp [hcss], ?_⟩ ?_
  · obtain ⟨H1, H2, d, s1, s2, o1, o2⟩ := hK
    refine ⟨H1, H2, d, s1, s2, o1, ?_⟩
    rw [SepL.zip_append hcss]
    obtain ⟨J1, J2, dj, t1, t2, p1, p2⟩ := o2.split
    obtain ⟨N1, N2, dn, u1, u2, q1, q2⟩ := p2
    exact SepL.append dj t1 t2 p1 ⟨N1, N2, dn, u1, u2, hown _ q1, trivial⟩
  · have : SepL ((osl e rid sz A' c' (css ++ [cells]) :: List.zipWith E css xs) ++ [own] ++ []) Kn := by simpa using hK
    exact SepL.readAt _ _ this
/-- an element of rows that read -/
theorem RSt.loadPtr {t e : TypeId} {κ : Ki} {H : Heap} (x : Operand) (hop : (opAt ops i).op = .load t x) (hrd : ready n ops L i = true) (hagg : (isAgg t).run P w = .ok false w)
    {A : Option Addr} {c : Nat} {xs : List (Option κ.T)} {j : Int} {v : Option κ.T} (hx : rho L x = .pointer (some (adr A j.toNat 1))) (hr : rdS (rd H (.ptr e κ)) 1 H A c xs) (hv : at? xs j = some v) (hs : Sub H (hp w))
    (hh : ∀ u, rd H (.ptr e κ) [u] v → M u) : RSt P n ops L i w M := by
  obtain ⟨_, u, hR, hc⟩ := (hr.up hs).cell1 (at?_some hv).2.2.1
  exact RSt.load x _ hop hrd hagg hx hc (hh u hR)
/-- a function's end inside a call that is walked in its place -/
theorem At.bodyK {Pr : Program} {fn : Func} {m : Nat} {L' : SL} (vs : List Value) (v : Value) (h : resV L' fn.results.toList = some vs) (hv : ofRes vs = v) (hK : K v w) :
    At (bodyPost Pr fn (fun e w' => ∃ v, e = .returned v ∧ K v w')) .ret m L' w := At.body vs h ⟨v, by rw [hv], hK⟩
theorem At.bodyEndK {Pr : Program} {fn : Func} {m : Nat} {L' : SL} (vs : List Value) (v : Value) (h : resV L' fn.results.toList = some vs) (hv : ofRes vs = v) (hK : K v w) :
    At (bodyPost Pr fn (fun e w' => ∃ v, e = .returned v ∧ K v w')) .normal m L' w := At.bodyEnd vs h ⟨v, by rw [hv], hK⟩
end
/-! ### arguments that are arrays -/
theorem rd_arr_nil {H : Heap} {κ : Ki} {cs : List Value} {l : List κ.T} (h : rd H (.arr 0 κ) cs l) : cs = [] ∧ l = [] := by
  obtain ⟨h1, css, rfl, h2, _⟩ := h
  have hl : l = [] := List.eq_nil_of_length_eq_zero h1
  subst hl
  have : css = [] := List.eq_nil_of_length_eq_zero (by simpa using h2)
  subst this; exact ⟨rfl, rfl⟩
theorem rd_arr_cons {H : Heap} {κ : Ki} {m : Nat} {cs : List Value} {l : List κ.T} (h : rd H (.arr (m + 1) κ) cs l) : ∃ c cs' x l', cs = c ++ cs' ∧ l = x :: l' ∧ rd H κ c x ∧ rd H (.arr m κ) cs' l' := by
  obtain ⟨h1, css, rfl, h2, h3, h4⟩ := h
  cases l with
  | nil => simp at h1
  | cons x l' =>
    cases css with
    | nil => simp at h2
    | cons c css' => exact ⟨c, css'.flatten, x, l', by simp, rfl, h4 0 c x rfl rfl, by simpa using h1, css', rfl, by simpa using h2, fun c hc => h3 c (List.mem_cons_of_mem _ hc), fun i c x hc hx => h4 (i + 1) c x (by simpa using hc) (by simpa using hx)⟩
theorem okWide_array {P : Program} {w : World} {r : Reach} {base : Nat} {t e : TypeId} {n : Nat} {v : Value} (ht : P.underlying t = some (.array n e)) (h : Value.okWide P w r base t v) : ∃ cs, v = .agg cs := by
  unfold Value.okWide at h
  simp only [ht] at h
  obtain ⟨cs, rfl, _⟩ := h
  exact ⟨cs, rfl⟩
end Go.Gol
