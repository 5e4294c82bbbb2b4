/-
  Rows of structs of which a field is a slice of one's own; results in a cell; structs compared; arrays as values. My own text.
-/
import Derived.Test.YtbcdcpkofgfofaaGW
import Derived.Laws.StructEq
set_option linter.unusedVariables false
set_option linter.unusedSimpArgs false
namespace Go.Gol
open Go
section
variable {P : Program} {n : Nat} {ops : Array Oper} {L : SL} {w : World} {i : Nat} {K : Value → World → Prop} {M : Value → Prop} {B : Rf} {cs : List HP}
theorem at?_set {α : Type} {xs : List α} {j : Int} {v u : α} (h : at? xs j = some v) : at? (xs.set j.toNat u) j = some u := by
  obtain ⟨h0, h1, _, _⟩ := at?_some h
  unfold at?
  rw [if_pos h0, List.getElem?_set, if_pos rfl, if_pos h1]
/-- a whole element of rows that read -/
theorem RSt.loadAggR {t : TypeId} {κ : Ki} {H : Heap} (x : Operand) (hop : (opAt ops i).op = .load t x) (hrd : ready n ops L i = true) (hagg : (isAgg t).run P w = .ok true w) (hsz : (sizeOf t).run P w = .ok κ.sz w)
    {A : Option Addr} {c : Nat} {xs : List κ.T} {j : Int} {v : κ.T} (hx : rho L x = .pointer (some (adr A j.toNat κ.sz))) (hr : rdS (rd H κ) κ.sz H A c xs) (hv : at? xs j = some v) (hs : Sub H (hp w))
    (hh : ∀ cv, rd H κ cv v → M (.agg cv.toArray)) : RSt P n ops L i w M := by
  obtain ⟨_, cs, hl, hR, hc⟩ := (hr.up hs).cells (at?_some hv).2.2.1
  refine ⟨hrd, _, ?_, hh cs hR⟩
  simp only [execOp, hop, hx]
  simp [Instr.loadAt, Instr.sureAddr, run_loadAgg hagg (hl ▸ hsz) hc]
/-- one cell of an element of rows that read -/
theorem RSt.loadPartR {t : TypeId} {κ : Ki} {H : Heap} (x : Operand) (q : Nat) (hop : (opAt ops i).op = .load t x) (hrd : ready n ops L i = true) (hagg : (isAgg t).run P w = .ok false w)
    {A : Option Addr} {c : Nat} {xs : List κ.T} {j : Int} {v : κ.T} (hx : rho L x = .pointer (some ((adr A j.toNat κ.sz).add q))) (hr : rdS (rd H κ) κ.sz H A c xs) (hv : at? xs j = some v) (hs : Sub H (hp w))
    (hh : ∀ cv, rd H κ cv v → ∃ u, cv[q]? = some u ∧ M u) : RSt P n ops L i w M := by
  obtain ⟨_, cs, hl, hR, hc⟩ := (hr.up hs).cells (at?_some hv).2.2.1
  obtain ⟨u, hu, hm⟩ := hh cs hR
  exact RSt.load x _ hop hrd hagg hx (hc q u hu) hm
theorem RSt.loadPartV {t : TypeId} {κ : Ki} {H : Heap} (x : Operand) (q : Nat) (hop : (opAt ops i).op = .load t x) (hrd : ready n ops L i = true) (hagg : (isAgg t).run P w = .ok false w)
    {A : Option Addr} {c : Nat} {xs : List κ.T} {j : Int} {v : κ.T} {u : Value} (hx : rho L x = .pointer (some ((adr A j.toNat κ.sz).add q))) (hr : rdS (rd H κ) κ.sz H A c xs) (hv : at? xs j = some v) (hs : Sub H (hp w))
    (hu : ∀ cv, rd H κ cv v → cv[q]? = some u) (hh : M u) : RSt P n ops L i w M := RSt.loadPartR x q hop hrd hagg hx hr hv hs (fun cv h => ⟨u, hu cv h, hh⟩)
/-- one cell is written in a row of cells -/
theorem St.storeRid {t : TypeId} (a x : Operand) (q : Nat) (hop : (opAt ops i).op = .store t a x) (hrd : ready n ops L i = true) (hsz : (sizeOf t).run P w = .ok 1 w) {sz : Nat} {e : TypeId} {A : Option Addr} {c : Nat} {xs : List (List Value)} {j : Int} {v : List Value} {u : Value}
    (hS : Sat w B (osl e rid sz A c xs :: cs)) (ha : rho L a = .pointer (some ((adr A j.toNat sz).add q))) (hx : rho L x = u) (h1 : u.oneCell' = true) (hqs : q < sz) (hv : at? xs j = some v)
    (hh : ∀ w', Sat w' B (osl e rid sz A c (xs.set j.toNat (v.set q u)) :: cs) → K undef w') : St P n ops L i w K := by
  have hx3 := (at?_some hv).2.2.1
  have hj : j.toNat < xs.length := (at?_some hv).2.1
  obtain ⟨M0, hM, _, hm⟩ := Sat.read [] cs hS
  obtain ⟨m1, m2, m3⟩ := hm
  obtain ⟨_, cv, hcl, hcR, hcc⟩ := (Sat.rdS [] cs hS).cells hx3
  obtain ⟨rfl, hone⟩ := hcR
  cases A with
  | none => obtain ⟨rfl, _⟩ := m3; simp at hj
  | some a0 =>
    obtain ⟨g, off, cur, rfl, hg, ho, hr⟩ := m3
    have e1 : (adr (some ⟨g, off, none⟩) j.toNat sz).add q = ⟨g, off + j.toNat * sz + q, none⟩ := by simp [adr, addr_add]
    rw [e1] at ha
    have hb : hp w g = some (.cells cur e (0, 0)) := hM g _ hg
    have hp1 : w.cell? ⟨g, off + j.toNat * sz + q, none⟩ = some (cv[q]'(by rw [hcl]; exact hqs)) := by
      rw [← e1]; exact hcc q _ (List.getElem?_eq_getElem (by rw [hcl]; exact hqs))
    refine St.skp hrd (w' := w.setCell ⟨g, off + j.toNat * sz + q, none⟩ u) ?_ (hh _ ?_)
    · simp only [execOp, hop, ha, hx]
      simp [Instr.storeAt, Instr.sureAddr, run_storeVar1 hsz h1 hp1 (frozen_of_hp hb)]
    · refine Sat.upd [] cs (cs := [osl e rid sz (some ⟨g, off, none⟩) c xs]) (cs' := [osl e rid sz (some ⟨g, off, none⟩) c (xs.set j.toNat (cv.set q u))]) hS ⟨rfl, rfl, rfl⟩ (fun H1 _ hH1 hc' => ?_)
      obtain ⟨J1, J2, _, hJ1, _, hc1, _⟩ := hc'
      obtain ⟨_, _, g', off', cur', ee, hg', _, _⟩ := hc1
      simp only [Option.some.injEq, Addr.mk.injEq] at ee
      obtain ⟨rfl, rfl, _⟩ := ee
      have hgd : H1 g = some (.cells cur' e (0, 0)) := hJ1 g _ hg'
      have hgc : hp w g = some (.cells cur' e (0, 0)) := hH1 _ _ hgd
      have : cur' = cur := by
        have h2 := hb
        rw [hgc] at h2
        simpa using h2
      subst this
      refine ⟨one g (.cells (cur'.setIfInBounds (off + j.toNat * sz + q) u) e (0, 0)), SepL.one ?_, ?_, ?_, ?_⟩
      · refine ⟨by simpa using m1, m2, g, off, _, rfl, one_self _ _, by simpa using ho, ?_⟩
        have hlen' : (cv.set q u).length = sz := by rw [List.length_set, hcl]
        have hone' : ∀ y ∈ cv.set q u, y.oneCell' = true := fun y hy => by
          rcases List.mem_or_eq_of_mem_set hy with h | h
          · exact hone y h
          · rw [h]; exact h1
        have hs := hr.set j.toNat hj (c := cv.set q u) hlen' ⟨rfl, hone'⟩
        have hin : j.toNat * sz + sz ≤ xs.length * sz := by have := Nat.mul_le_mul_right sz (show j.toNat + 1 ≤ xs.length from hj); rw [Nat.add_mul, Nat.one_mul] at this; exact this
        have hcx : xs.length * sz ≤ c * sz := Nat.mul_le_mul_right _ m1
        have h5 : cur'.toList.length = cur'.size := by simp
        have e5 := seg_set cur'.toList (cv.set q u) off xs.length j.toNat sz hlen' hj (by omega)
        rw [← e5] at hs
        have e6 : cur'.toList.take (off + j.toNat * sz) ++ cv.set q u ++ cur'.toList.drop (off + j.toNat * sz + (cv.set q u).length) = (cur'.setIfInBounds (off + j.toNat * sz + q) u).toList := by
          obtain ⟨cv0, e7, e8, e9⟩ := hr.at hx3
          obtain ⟨rfl, _⟩ := e9
          have e11 : ∀ q' u', cv0[q']? = some u' → cur'.toList[off + j.toNat * sz + q']? = some u' := fun q' u' h => by
            have hq' : q' < sz := by
              rw [← hcl]; rcases Nat.lt_or_ge q' cv0.length with h' | h'
              · exact h'
              · rw [List.getElem?_eq_none h'] at h; cases h
            rw [← e7, List.getElem?_take, if_pos hq', List.getElem?_drop, List.getElem?_take, if_pos (by omega), List.getElem?_drop] at h
            rw [← h]; congr 1; omega
          apply List.ext_getElem?
          intro z
          rw [Array.toList_setIfInBounds, List.getElem?_set]
          simp only [List.getElem?_append, List.length_append, List.length_take, hlen', List.getElem?_take, List.getElem?_drop]
          have hmin : min (off + j.toNat * sz) cur'.toList.length = off + j.toNat * sz := by omega
          rw [hmin]
          by_cases z1 : z < off + j.toNat * sz
          · rw [if_pos (by omega), if_pos z1, if_pos z1, if_neg (by omega)]
          · by_cases z2 : z < off + j.toNat * sz + sz
            · rw [if_pos z2, if_neg z1]
              obtain ⟨z', rfl⟩ : ∃ z', z = off + j.toNat * sz + z' := ⟨z - (off + j.toNat * sz), by omega⟩
              have e12 : off + j.toNat * sz + z' - (off + j.toNat * sz) = z' := by omega
              rw [e12, List.getElem?_set]
              by_cases z3 : q = z'
              · subst z3
                rw [if_pos rfl, if_pos rfl, if_pos (by omega), if_pos (by omega)]
              · rw [if_neg z3, if_neg (by omega)]
                have hz' : z' < cv0.length := by rw [hcl]; omega
                rw [List.getElem?_eq_getElem hz', e11 z' _ (List.getElem?_eq_getElem hz')]
            · rw [if_neg z2, if_neg (by omega)]
              congr 1; omega
        rw [e6] at hs
        simpa using hs
      · intro y o hy; obtain ⟨rfl, rfl⟩ := one_inv hy; exact hp_setCell u hgc
      · intro y o hy; obtain ⟨rfl, rfl⟩ := one_inv hy; left; rw [hgd]; exact fun h => by cases h
      · intro y o hy hn
        rw [hp_setCell_ne]
        · exact hy
        · rintro rfl; rw [hgd] at hn; cases hn
theorem zip_set2 {α : Type} {E : List Value → α → HP} {css : List (List Value)} {xs : List α} {k : Nat} {cc : List Value} {y : α} (hl : css.length = xs.length) (hk : k < xs.length) :
    List.zipWith E (css.set k cc) (xs.set k y) = (List.zipWith E css xs).take k ++ E cc y :: (List.zipWith E css xs).drop (k + 1) := by
  have hc : (css.set k cc)[k]? = some cc := by simp [hl, hk]
  rw [zip_set hc hk, List.take_zipWith, List.take_zipWith, List.take_set_of_le (Nat.le_refl k), List.drop_zipWith, List.drop_zipWith, List.drop_set_of_lt (Nat.lt_succ_self k)]
/-- one cell of an element of rows of one's own is written -/
theorem St.storePartRow {α : Type} {t : TypeId} (a x : Operand) (q : Nat) (hop : (opAt ops i).op = .store t a x) (hrd : ready n ops L i = true) (hsz : (sizeOf t).run P w = .ok 1 w) {E : List Value → α → HP} {sz : Nat} {e : TypeId} {A : Option Addr} {c : Nat} {xs : List α} {j : Int} {v v' : α} {u : Value}
    (hS : Sat w B (orw e E sz A c xs :: cs)) (ha : rho L a = .pointer (some ((adr A j.toNat sz).add q))) (hx : rho L x = u) (h1 : u.oneCell' = true) (hq : Nat.blt q sz = true) (hv : at? xs j = some v) (hE : ∀ cv H, E cv v H → E (cv.set q u) v' H)
    (hh : ∀ w', Sat w' B (orw e E sz A c (xs.set j.toNat v') :: cs) → K undef w') : St P n ops L i w K := by
  obtain ⟨css, h1'⟩ := Sat.ex hS
  have hcss : css.length = xs.length := Sat.pure1 (fun _ h => h.1) h1'
  have h2 : Sat w B (SepL (osl e rid sz A c css :: List.zipWith E css xs) :: cs) := h1'.mono1 (fun _ h => h.2)
  have h3 := Sat.op h2
  obtain ⟨a0, a1, a2, a3⟩ := at?_some hv
  have hjc : j.toNat < css.length := by omega
  have hvc : at? css j = some css[j.toNat] := by unfold at?; rw [if_pos a0, List.getElem?_eq_getElem hjc]
  refine St.storeRid a x q hop hrd hsz (cs := List.zipWith E css xs ++ cs) (by simpa using h3) ha hx h1 (by simpa [Nat.blt_eq] using hq) hvc (fun w' h4 => hh w' ?_)
  have h5 : Sat w' B ((osl e rid sz A c (css.set j.toNat (css[j.toNat].set q u)) :: List.zipWith E css xs) ++ cs) := by simpa using h4
  refine (Sat.cl _ h5).mono1 (fun H hH => ⟨css.set j.toNat (css[j.toNat].set q u), by simp [hcss], ?_⟩)
  rw [zip_set2 hcss a1]
  rw [zip_at (List.getElem?_eq_getElem hjc) a2] at hH
  refine SepL.unperm (as := osl e rid sz A c _ :: (List.zipWith E css xs).take j.toNat) ?_
  have h6 := SepL.perm (as := osl e rid sz A c _ :: (List.zipWith E css xs).take j.toNat) hH
  obtain ⟨H1, H2, hd, s1, s2, b1, b2⟩ := h6
  exact ⟨H1, H2, hd, s1, s2, hE _ _ b1, b2⟩
/-- a whole element of rows of one's own is written anew -/
theorem St.storeRowElem {α : Type} {t : TypeId} (a x : Operand) (hop : (opAt ops i).op = .store t a x) (hrd : ready n ops L i = true) {vs : List Value} (hsz : (sizeOf t).run P w = .ok vs.length w) {E : List Value → α → HP} {sz : Nat} {e : TypeId} {A : Option Addr} {c : Nat} {xs : List α} {j : Int} {v y : α} {own : HP} (hown : ∀ H, own H → E vs y H)
    (hS : Sat w B (orw e E sz A c xs :: own :: cs)) (ha : rho L a = .pointer (some (adr A j.toNat sz))) (hx : rho L x = .agg vs.toArray) (h1 : (vs.all (·.oneCell')) = true) (hl : vs.length = sz) (hv : at? xs j = some v)
    (hh : ∀ w' Kn, Sat w' B (gh Kn :: cs) → orw e E sz A c (xs.set j.toNat y) Kn → (∃ M, Sub M Kn ∧ own M) → K undef w') : St P n ops L i w K := by
  obtain ⟨css, h1'⟩ := Sat.ex hS
  have hcss : css.length = xs.length := Sat.pure1 (fun _ h => h.1) h1'
  have h2 : Sat w B (SepL (osl e rid sz A c css :: List.zipWith E css xs) :: own :: cs) := h1'.mono1 (fun _ h => h.2)
  have h3 := Sat.op h2
  obtain ⟨a0, a1, a2, a3⟩ := at?_some hv
  have hjc : j.toNat < css.length := by omega
  have hone' : ∀ v ∈ vs, v.oneCell' = true := fun v hv => (List.all_eq_true.1 h1) v hv
  have hst : set? css j vs = some (css.set j.toNat vs) := by unfold set?; rw [if_pos ⟨a0, by omega⟩]
  refine St.storeFlat a x hop hrd hsz (R := rid) (cs := List.zipWith E css xs ++ own :: cs) (by simpa using h3) ha hx h1 hl hst ⟨rfl, hone'⟩ (fun w' h4 => ?_)
  have h5 : Sat w' B ((osl e rid sz A c (css.set j.toNat vs) :: (List.zipWith E css xs ++ [own])) ++ cs) := by simpa using h4
  have h6 : Sat w' B (SepL (osl e rid sz A c (css.set j.toNat vs) :: (List.zipWith E css (xs) |>.take j.toNat) ++ own :: (List.zipWith E css xs).drop (j.toNat + 1)) :: cs) := by
    refine (Sat.cl _ h5).mono1 (fun H hH => ?_)
    obtain ⟨hs, hsub, hdis, hall⟩ := hH.fam
    have hzl : (List.zipWith E css xs).length = xs.length := by simp [hcss]
    -- the parts: 0 the cells; 1 .. the elements; the last is the new one
    have hlst : ∀ p : Nat, (osl e rid sz A c (css.set j.toNat vs) :: (List.zipWith E css xs ++ [own]))[p]? = (osl e rid sz A c (css.set j.toNat vs) :: ((List.zipWith E css xs).take j.toNat ++ own :: (List.zipWith E css xs).drop (j.toNat + 1)))[p]? ∨ p = j.toNat + 1 ∨ p = xs.length + 1 := fun p => by
      by_cases hp1 : p = j.toNat + 1
      · exact .inr (.inl hp1)
      by_cases hp2 : p = xs.length + 1
      · exact .inr (.inr hp2)
      left
      cases p with
      | zero => rfl
      | succ p =>
        simp only [List.getElem?_cons_succ, List.getElem?_append, List.length_take, hzl, List.getElem?_take]
        have hmin : min j.toNat xs.length = j.toNat := by omega
        rw [hmin]
        by_cases q1 : p < j.toNat
        · rw [if_pos (by omega), if_pos q1, if_pos q1]
        · rw [if_neg q1]
          obtain ⟨r, hr⟩ : ∃ r, p - j.toNat = r + 1 := ⟨p - j.toNat - 1, by omega⟩
          rw [hr, List.getElem?_cons_succ, List.getElem?_drop, show j.toNat + 1 + r = p by omega]
          by_cases q2 : p < xs.length
          · rw [if_pos q2]
          · rw [if_neg q2, List.getElem?_eq_none (by simp; omega), List.getElem?_eq_none (by omega)]
    have hn : (osl e rid sz A c (css.set j.toNat vs) :: ((List.zipWith E css xs).take j.toNat ++ own :: (List.zipWith E css xs).drop (j.toNat + 1))).length = xs.length + 1 := by
      simp [hcss]; omega
    refine SepL.ofFam _ _ (fun p => if p = j.toNat + 1 then hs (xs.length + 1) else hs p) (fun p _ => ?_) (fun p p' hp hp' hne => ?_) (fun p cc hcc => ?_)
    · split
      · exact hsub _
      · exact hsub _
    · rw [show (osl e rid sz A c (css.set j.toNat vs) :: (List.zipWith E css (xs) |>.take j.toNat) ++ own :: (List.zipWith E css xs).drop (j.toNat + 1)) = (osl e rid sz A c (css.set j.toNat vs) :: ((List.zipWith E css xs).take j.toNat ++ own :: (List.zipWith E css xs).drop (j.toNat + 1))) from rfl, hn] at hp hp'
      by_cases q1 : p = j.toNat + 1
      · rw [if_pos q1, if_neg (by omega)]; exact hdis _ _ (by omega)
      · rw [if_neg q1]
        by_cases q2 : p' = j.toNat + 1
        · rw [if_pos q2]; exact hdis _ _ (by omega)
        · rw [if_neg q2]; exact hdis _ _ hne
    · have hcc' : (osl e rid sz A c (css.set j.toNat vs) :: ((List.zipWith E css xs).take j.toNat ++ own :: (List.zipWith E css xs).drop (j.toNat + 1)))[p]? = some cc := hcc
      have hp : p < xs.length + 1 := by
        rcases Nat.lt_or_ge p (xs.length + 1) with h | h
        · exact h
        · rw [List.getElem?_eq_none (by rw [hn]; exact h)] at hcc'; cases hcc'
      by_cases q1 : p = j.toNat + 1
      · simp only [if_pos q1]
        refine hall (xs.length + 1) cc ?_
        subst q1
        rw [List.getElem?_cons_succ, List.getElem?_append_right (by simp [hcss]; omega)] at hcc'
        have e0 : j.toNat - ((List.zipWith E css xs).take j.toNat).length = 0 := by simp [hcss]; omega
        rw [e0] at hcc'
        rw [List.getElem?_cons_succ, List.getElem?_append_right (by omega), hzl, Nat.sub_self]
        exact hcc'
      · simp only [if_neg q1]
        refine hall p cc ?_
        rcases hlst p with h | h | h
        · rw [h]; exact hcc'
        · exact absurd h q1
        · omega
  obtain ⟨Kn, hK, h7⟩ := Sat.gho h6
  refine hh w' Kn h7 ⟨css.set j.toNat vs, by simp [hcss], ?_⟩ ?_
  · rw [zip_set2 hcss a1]
    have h8 := SepL.perm (as := osl e rid sz A c _ :: (List.zipWith E css xs).take j.toNat) hK
    refine SepL.unperm (as := osl e rid sz A c _ :: (List.zipWith E css xs).take j.toNat) ?_
    obtain ⟨H1, H2, hd, s1, s2, b1, b2⟩ := h8
    exact ⟨H1, H2, hd, s1, s2, hown _ b1, b2⟩
  · have h8 := SepL.perm (as := osl e rid sz A c _ :: (List.zipWith E css xs).take j.toNat) hK
    obtain ⟨H1, H2, hd, s1, s2, b1, b2⟩ := h8
    exact ⟨H1, s1, b1⟩
/-! ### results in a cell -/
theorem results_cell1 {fn : Func} {T : Array Value} (hT : Holds n L T) {a b : Nat} {t : TypeId} {vs : List Value} (h : fn.results.toList = [.cell a t]) (ha : lk L a = some (.pointer (some ⟨b, 0, none⟩)))
    (hagg : (isAgg t).run P w = .ok true w) (hsz : (sizeOf t).run P w = .ok vs.length w) (j : Nat) {e : TypeId} {fr : Nat × Nat} (hS : Sat w B cs) (hj : cs[j]? = some (pts b (.cells vs.toArray e fr))) : (results fn T).run P w = .ok (.agg vs.toArray) w := by
  have h1 : T[a]? = some (.pointer (some ⟨b, 0, none⟩)) := hT.2 a _ ha
  have hc : ∀ k v, vs[k]? = some v → w.cell? ((⟨b, 0, none⟩ : Addr).add k) = some v := fun k v hv => by
    rw [addr_add, Nat.zero_add]
    exact Sat.cellAt j k hS hj (by simpa using hv)
  unfold results
  rw [← Array.toArray_toList (xs := fn.results), List.mapM_toArray, h]
  simp [h1, asAddr, run_loadAgg hagg hsz hc, Sem.run_bind]
theorem At.bodyC {fn : Func} {R : Ending → World → Prop} {v : Value} (h : ∀ T, Holds n L T → (results fn T).run P w = .ok v w) (hR : R (.returned v) w) : At (Kbody P fn R) .ret n L w := fun T hT => ⟨rfl, _, h T hT, hR⟩
/-! ### structs of numbers, compared -/
def intFs (P : Program) : Nat → List Field → Bool
  | _, [] => true
  | k, f :: fs => f.name != "_" && (Nat.beq f.offset k && ((match P.underlying f.type with | some (.int .i64) => true | _ => false) && intFs P (k + 1) fs))
theorem run_eqInts (d : Nat) (xs ys : Array Value) (w : World) : ∀ (fs : List Field) (k : Nat) (X Y : List Int), intFs P k fs = true → X.length = fs.length → Y.length = fs.length → xs.toList.drop k = X.map (Value.int .i64) → ys.toList.drop k = Y.map (Value.int .i64) →
    (Op.eqFields (d + 1) xs ys fs).run P w = .ok (X == Y) w
  | [], k, X, Y, _, hX, hY, _, _ => by
    have e1 : X = [] := List.eq_nil_of_length_eq_zero hX
    have e2 : Y = [] := List.eq_nil_of_length_eq_zero hY
    subst e1; subst e2
    simp [Op.eqFields]
  | f :: fs, k, [], _, _, hX, _, _, _ => by simp at hX
  | f :: fs, k, _ :: _, [], _, _, hY, _, _ => by simp at hY
  | f :: fs, k, x :: X, y :: Y, h, hX, hY, ex, ey => by
    simp only [intFs, Bool.and_eq_true, bne_iff_ne, ne_eq] at h
    obtain ⟨h1, h2, h3, h4⟩ := h
    have ho := beq_of h2
    have hu : P.underlying f.type = some (.int .i64) := by
      split at h3
      · assumption
      · cases h3
    have gx : xs[k]? = some (.int .i64 x) := by
      have := congrArg (fun l => l[0]?) ex
      simpa using this
    have gy : ys[k]? = some (.int .i64 y) := by
      have := congrArg (fun l => l[0]?) ey
      simpa using this
    have ih := run_eqInts d xs ys w fs (k + 1) X Y h4 (by simpa using hX) (by simpa using hY) (by
      have := congrArg (List.drop 1) ex
      simpa using this) (by
      have := congrArg (List.drop 1) ey
      simpa using this)
    have px : (part f.type xs f.offset).run P w = .ok (.int .i64 x) w := by rw [ho]; simp [part, isAgg, run_underlying hu, gx]
    have py : (part f.type ys f.offset).run P w = .ok (.int .i64 y) w := by rw [ho]; simp [part, isAgg, run_underlying hu, gy]
    have pe : (Op.equalIn (d + 1) f.type (.int .i64 x) (.int .i64 y)).run P w = .ok (x == y) w := by simp [Op.equalIn, run_underlying hu]
    unfold Op.eqFields
    rw [if_pos h1]
    simp only [Sem.run_bind, px, py, pe, Result.andThen_ok]
    by_cases hxy : x = y
    · simp [hxy, ih]
    · simp [hxy]
theorem PSt.eqInts {t t2 : TypeId} (q : BinOp) (hq : q = .eql ∨ q = .neq) (x y : Operand) (hop : (opAt ops i).op = .binOp q t x y t2) (hrd : ready n ops L i = true) (hu : P.underlying t = some (.struct (P.fieldsOf t))) (hsi : P.stoodInHeld t = false) (hg : P.eqGuardType P.depth t = false) (hf : intFs P 0 (P.fieldsOf t).toList = true)
    {X Y : List Int} (hX : Nat.beq X.length (P.fieldsOf t).toList.length = true) (hY : Nat.beq Y.length (P.fieldsOf t).toList.length = true) (hx : rho L x = .agg (X.map (Value.int .i64)).toArray) (hy : rho L y = .agg (Y.map (Value.int .i64)).toArray)
    (hh : M (.bool (if q = .eql then X == Y else !(X == Y)))) : PSt P n ops L i M := by
  refine ⟨hrd, _, fun w' => ?_, hh⟩
  have he : (Op.equalIn 10000 t (.agg (X.map (Value.int .i64)).toArray) (.agg (Y.map (Value.int .i64)).toArray)).run P w' = .ok (X == Y) w' := by
    rw [run_equalIn_struct w' 9999 t _ _ hu hsi]
    exact run_eqInts 9998 _ _ w' _ 0 X Y hf (beq_of hX) (beq_of hY) (by simp) (by simp)
  rcases hq with rfl | rfl
  · simp only [execOp, hop, hx, hy]
    simp [run_eqGuard_agg w' _ t _ _ _ _ hg, run_eql_struct, he]
  · simp only [execOp, hop, hx, hy]
    simp [run_eqGuard_agg w' _ t _ _ _ _ hg, run_neq_struct, he]
/-! ### arrays of numbers as values -/
abbrev aInts (kk : IntKind) (xs : List Int) : Value := .agg (xs.map (Value.int kk)).toArray
theorem RSt.loadArr {t e : TypeId} {kk : IntKind} (x : Operand) (hop : (opAt ops i).op = .load t x) (hrd : ready n ops L i = true) (hagg : (isAgg t).run P w = .ok true w) {m : Nat} (hsz : (sizeOf t).run P w = .ok m w) (j : Nat) {b : Nat} {xs : List Int}
    (hS : Sat w B cs) (hj : cs[j]? = some (oar e (r0 (.int kk)) 1 m b xs)) (hx : rho L x = .pointer (some ⟨b, 0, none⟩)) (hh : M (aInts kk xs)) : RSt P n ops L i w M := by
  obtain ⟨hr, hl⟩ := Sat.oarAt j hS hj
  refine ⟨hrd, _, ?_, hh⟩
  have hc : ∀ k v, (xs.map (Value.int kk))[k]? = some v → w.cell? ((⟨b, 0, none⟩ : Addr).add k) = some v := fun k v hv => by
    rw [List.getElem?_map, Option.map_eq_some_iff] at hv
    obtain ⟨x0, h0, rfl⟩ := hv
    obtain ⟨_, u, hR, hcu⟩ := hr.cell1 h0
    have e0 : [u] = [Value.int kk x0] := hR
    simp only [List.cons.injEq, and_true] at e0
    subst e0
    have e1 : adr (some ⟨b, 0, none⟩) k 1 = (⟨b, 0, none⟩ : Addr).add k := by simp [adr]
    rw [← e1]; exact hcu
  simp only [execOp, hop, hx]
  simp [Instr.loadAt, Instr.sureAddr, run_loadAgg hagg (show (sizeOf t).run P w = .ok (xs.map (Value.int kk)).length w by rw [List.length_map, hl]; exact hsz) hc]
theorem PSt.idxAgg {t e : TypeId} {kk k : IntKind} {m : Nat} (x ix : Operand) (hop : (opAt ops i).op = .index t x ix) (hrd : ready n ops L i = true) (hu : P.underlying t = some (.array m e)) (hue : P.underlying e = some (.int kk)) (hsz : (P.info? e).map (·.size) = some 1)
    {xs : List Int} {j v : Int} (hl : xs.length = m) (hx : rho L x = aInts kk xs) (hi : rho L ix = .int k j) (hv : at? xs j = some v) (hh : M (.int kk v)) : PSt P n ops L i M := by
  obtain ⟨h0, h1, h2, h3⟩ := at?_some hv
  refine ⟨hrd, _, fun w' => ?_, hh⟩
  obtain ⟨inf, hinf, hs1⟩ : ∃ inf, P.info? e = some inf ∧ inf.size = 1 := by
    cases hi : P.info? e with
    | none => simp [hi] at hsz
    | some inf => exact ⟨inf, rfl, by simpa [hi] using hsz⟩
  have hszr : (sizeOf e).run P w' = .ok 1 w' := by simp [sizeOf, typeInfo, hinf, hs1]
  have hlt : j < (m : Int) := by omega
  have hg : ((xs.map (Value.int kk)).toArray)[j.toNat]? = some (.int kk v) := by simp [h2]
  have hp : (part e (xs.map (Value.int kk)).toArray j.toNat).run P w' = .ok (.int kk v) w' := by simp [part, isAgg, run_underlying hue, hg]
  simp only [execOp, hop, hx, hi]
  simp [Instr.index, asIntOf, run_underlying hu, h0, hlt, hszr, hp]
end
end Go.Gol
