/-
  Rows of one's own of which one element is taken out, changed, and put back; one cell of an element is written. My own text.
-/
import Derived.Test.YtoonceaeaigkpaaGS
set_option linter.unusedVariables false
set_option linter.unusedSimpArgs false
namespace Go.Gol
open Go
/-- rows of one's own, their cells named -/
def orc {α : Type} (e : TypeId) (E : List Value → α → HP) (sz : Nat) (A : Option Addr) (c : Nat) (css : List (List Value)) (xs : List α) : HP := fun H =>
  css.length = xs.length ∧ SepL (osl e rid sz A c css :: List.zipWith E css xs) H
theorem orw.named {α : Type} {e : TypeId} {E : List Value → α → HP} {sz : Nat} {A : Option Addr} {c : Nat} {xs : List α} {H : Heap} (h : orw e E sz A c xs H) : ∃ css, orc e E sz A c css xs H := h
theorem orc.orw {α : Type} {e : TypeId} {E : List Value → α → HP} {sz : Nat} {A : Option Addr} {c : Nat} {css : List (List Value)} {xs : List α} {H : Heap} (h : orc e E sz A c css xs H) : orw e E sz A c xs H := ⟨css, h⟩
/-- .. of which number k is taken out -/
def orh {α : Type} (e : TypeId) (E : List Value → α → HP) (sz : Nat) (A : Option Addr) (c : Nat) (css : List (List Value)) (k : Nat) (xs : List α) : HP := fun H =>
  css.length = xs.length ∧ SepL (osl e rid sz A c css :: ((List.zipWith E css xs).take k ++ (List.zipWith E css xs).drop (k + 1))) H
theorem Ept.rd {t : TypeId} {κ : Ki} {O : Nat → κ.T → HP} (hO : ∀ b x H, O b x H → Gol.rd H (.ptr t κ) [.pointer (.some ⟨b, 0, .none⟩)] (Option.some x)) (cs : List Value) (x : Option κ.T) (H : Heap) (h : Ept O cs x H) : Gol.rd H (.ptr t κ) cs x := by
  obtain ⟨v, rfl, h⟩ := h
  exact optP.rdd hO h
theorem Ept.mk {α : Type} {O : Nat → α → HP} {v : Value} {x : Option α} (H : Heap) (h : optP O v x H) : Ept O [v] x H := ⟨v, rfl, h⟩
section
variable {P : Program} {n : Nat} {ops : Array Oper} {L : SL} {w : World} {i : Nat} {K : Value → World → Prop} {M : Value → Prop} {B : Rf} {cs : List HP}
theorem SepL.perm {as bs : List HP} {c : HP} {H : Heap} (h : SepL (as ++ c :: bs) H) : SepL (c :: (as ++ bs)) H := by
  obtain ⟨HA, H2, hd, ha, h2, sa, s2⟩ := h.split
  have s3 : SepL ([c] ++ bs) H2 := s2
  obtain ⟨HC, HB, hd2, hc, hb, sc, sb⟩ := s3.split
  have d1 : Dis HC HA := (hd.mono (Sub.refl _) hc).symm
  have d2 : Dis HA HB := hd.mono (Sub.refl _) hb
  have s4 : SepL (as ++ bs) (Un HA HB) := SepL.append d2 (Sub.unL _ _) (Sub.unR d2) sa sb
  have d3 : Dis HC (Un HA HB) := (Dis.un d1.symm hd2.symm).symm
  exact SepL.append (as := [c]) d3 (hc.trans h2) (ha.un (hb.trans h2)) sc s4
theorem SepL.unperm {as bs : List HP} {c : HP} {H : Heap} (h : SepL (c :: (as ++ bs)) H) : SepL (as ++ c :: bs) H := by
  have h1 : SepL ([c] ++ (as ++ bs)) H := h
  obtain ⟨HC, H2, hd, hc, h2, sc, s2⟩ := h1.split
  obtain ⟨HA, HB, hd2, ha, hb, sa, sb⟩ := s2.split
  have d1 : Dis HC HB := hd.mono (Sub.refl _) hb
  have s4 : SepL ([c] ++ bs) (Un HC HB) := SepL.append d1 (Sub.unL _ _) (Sub.unR d1) sc sb
  have d3 : Dis HA (Un HC HB) := (Dis.un (hd.mono (Sub.refl _) ha) hd2.symm).symm
  exact SepL.append (bs := c :: bs) d3 (ha.trans h2) (hc.un (hb.trans h2)) sa s4
theorem zip_at {α : Type} {E : List Value → α → HP} {css : List (List Value)} {xs : List α} {k : Nat} {cc : List Value} {x : α} (hc : css[k]? = some cc) (hx : xs[k]? = some x) :
    List.zipWith E css xs = (List.zipWith E css xs).take k ++ E cc x :: (List.zipWith E css xs).drop (k + 1) := by
  have h : (List.zipWith E css xs)[k]? = some (E cc x) := by simp [List.getElem?_zipWith, hc, hx]
  have := split_at h
  simpa using this
theorem zip_set {α : Type} {E : List Value → α → HP} {css : List (List Value)} {xs : List α} {k : Nat} {cc : List Value} {y : α} (hc : css[k]? = some cc) (hk : k < xs.length) :
    List.zipWith E css (xs.set k y) = (List.zipWith E css xs).take k ++ E cc y :: (List.zipWith E css xs).drop (k + 1) := by
  have hy : (xs.set k y)[k]? = some y := by simp [hk]
  rw [zip_at hc hy]
  congr 1
  · rw [List.take_zipWith, List.take_zipWith, List.take_set_of_le (Nat.le_refl k)]
  · rw [List.drop_zipWith, List.drop_zipWith, List.drop_set_of_lt (Nat.lt_succ_self k)]
theorem Sat.focus {α : Type} {e : TypeId} {E : List Value → α → HP} {sz : Nat} {A : Option Addr} {c : Nat} {css : List (List Value)} {xs : List α} {Kn : Heap} (hC : orc e E sz A c css xs Kn) (h : Sat w B (gh Kn :: cs))
    {k : Nat} {cc : List Value} {x : α} (hc : css[k]? = some cc) (hx : xs[k]? = some x) : Sat w B (orh e E sz A c css k xs :: E cc x :: cs) := by
  have h1 : Sat w B (SepL (osl e rid sz A c css :: List.zipWith E css xs) :: cs) := h.mono1 (fun H e => by have e' : H = Kn := e; subst e'; exact hC.2)
  have h2 : Sat w B (SepL [orh e E sz A c css k xs, E cc x] :: cs) := by
    refine h1.mono1 (fun H hh => ?_)
    rw [zip_at hc hx] at hh
    have h3 : SepL ((osl e rid sz A c css :: (List.zipWith E css xs).take k) ++ E cc x :: (List.zipWith E css xs).drop (k + 1)) H := hh
    have h4 := SepL.perm h3
    have h5 : SepL ([E cc x] ++ (osl e rid sz A c css :: ((List.zipWith E css xs).take k ++ (List.zipWith E css xs).drop (k + 1)))) H := h4
    obtain ⟨H1, H2, hd, s1, s2, a1, a2⟩ := h5.split
    exact ⟨H2, H1, hd.symm, s2, s1, ⟨hC.1, a2⟩, a1⟩
  exact Sat.op h2
theorem Sat.fill {α : Type} {e : TypeId} {E : List Value → α → HP} {sz : Nat} {A : Option Addr} {c : Nat} {css : List (List Value)} {xs : List α} {k : Nat} {cc : List Value} {y : α}
    (h : Sat w B (orh e E sz A c css k xs :: E cc y :: cs)) (hc : css[k]? = some cc) : Sat w B (orw e E sz A c (xs.set k y) :: cs) := by
  have h1 : Sat w B (SepL [orh e E sz A c css k xs, E cc y] :: cs) := Sat.cl [orh e E sz A c css k xs, E cc y] h
  refine h1.mono1 (fun H hh => ?_)
  obtain ⟨H1, H2, hd, s1, s2, ⟨hl, a1⟩, a2⟩ := hh
  have hk : k < xs.length := by
    rw [← hl]; rcases Nat.lt_or_ge k css.length with h | h
    · exact h
    · rw [List.getElem?_eq_none h] at hc; cases hc
  refine ⟨css, by simp [hl], ?_⟩
  rw [zip_set hc hk]
  refine SepL.unperm (as := osl e rid sz A c css :: (List.zipWith E css xs).take k) ?_
  have a3 := SepL.readAt [] [] (H := H2) (c := E cc y) a2
  exact SepL.append (as := [E cc y]) hd.symm s2 s1 a2 a1
/-- an element of rows of one's own is read, and what stands in its cell is known -/
theorem RSt.loadRow {t e : TypeId} {κ : Ki} {E : List Value → κ.T → HP} (hE : ∀ cs x H, E cs x H → rd H κ cs x) {Kn : Heap} (x : Operand) (hop : (opAt ops i).op = .load t x) (hrd : ready n ops L i = true) (hagg : (isAgg t).run P w = .ok false w)
    {A : Option Addr} {c : Nat} {css : List (List Value)} {xs : List κ.T} {j : Int} {v : κ.T} (hx : rho L x = .pointer (some (adr A j.toNat 1))) (hC : orc e E 1 A c css xs Kn) (hv : at? xs j = some v) (hs : Sub Kn (hp w))
    (hh : ∀ u, css[j.toNat]? = some [u] → rd Kn κ [u] v → M u) : RSt P n ops L i w M := by
  obtain ⟨hl, H1, H2, hd, s1, s2, ho, hz⟩ := hC
  have hr : Gol.rdS rid 1 (hp w) A c css := (osl.read ho).mono (s1.trans hs) (fun _ _ h => h)
  have hx3 := (at?_some hv).2.2.1
  have hj : j.toNat < css.length := by
    rw [hl]; rcases Nat.lt_or_ge j.toNat xs.length with h | h
    · exact h
    · rw [List.getElem?_eq_none h] at hx3; cases hx3
  obtain ⟨_, u, hR, hc⟩ := hr.cell1 (List.getElem?_eq_getElem hj)
  have hcu : css[j.toNat]? = some [u] := by rw [List.getElem?_eq_getElem hj, ← hR.1]
  have hq : (List.zipWith E css xs)[j.toNat]? = some (E [u] v) := by simp [List.getElem?_zipWith, hcu, hx3]
  obtain ⟨M0, hM, hm⟩ := SepL.readAt _ _ (split_at hq ▸ hz)
  exact RSt.load x _ hop hrd hagg hx hc (hh u hcu (rd.mono (hM.trans s2) _ _ _ (hE _ _ _ hm)))
theorem orc.elem {κ : Ki} {e : TypeId} {E : List Value → κ.T → HP} (hE : ∀ cs x H, E cs x H → rd H κ cs x) {sz : Nat} {A : Option Addr} {c : Nat} {css : List (List Value)} {xs : List κ.T} {Kn : Heap} (hC : orc e E sz A c css xs Kn) {k : Nat} {cc : List Value} {v : κ.T} (hc : css[k]? = some cc) (hv : xs[k]? = some v) : rd Kn κ cc v := by
  obtain ⟨hl, H1, H2, hd, s1, s2, ho, hz⟩ := hC
  have hq : (List.zipWith E css xs)[k]? = some (E cc v) := by simp [List.getElem?_zipWith, hc, hv]
  obtain ⟨M0, hM, hm⟩ := SepL.readAt _ _ (split_at hq ▸ hz)
  exact rd.mono (hM.trans s2) _ _ _ (hE _ _ _ hm)
theorem at?_idx {α : Type} {xs : List α} {j : Int} {v : α} (h : at? xs j = some v) : xs[j.toNat]? = some v := (at?_some h).2.2.1
/-- one cell of an element of several cells is written -/
theorem St.storePart {t : TypeId} {κ : Ki} (a x : Operand) (q : Nat) (hop : (opAt ops i).op = .store t a x) (hrd : ready n ops L i = true) (hsz : (sizeOf t).run P w = .ok 1 w) (hf : flatK κ = true) {e : TypeId} {A : Option Addr} {c : Nat} {xs : List κ.T} {j : Int} {v v' : κ.T} {u : Value}
    (hS : Sat w B (osl e (r0 κ) κ.sz A c xs :: cs)) (ha : rho L a = .pointer (some ((adr A j.toNat κ.sz).add q))) (hx : rho L x = u) (h1 : u.oneCell' = true) (hq : Nat.blt q κ.sz = true) (hv : at? xs j = some v) (hu : (cellsOf κ v).set q u = cellsOf κ v')
    (hh : ∀ w', Sat w' B (osl e (r0 κ) κ.sz A c (xs.set j.toNat v') :: cs) → K undef w') : St P n ops L i w K := by
  have hx3 := (at?_some hv).2.2.1
  have hj : j.toNat < xs.length := by
    rcases Nat.lt_or_ge j.toNat xs.length with h | h
    · exact h
    · rw [List.getElem?_eq_none h] at hx3; cases hx3
  have hqs : q < κ.sz := by simpa [Nat.blt_eq] using hq
  obtain ⟨M0, hM, _, hm⟩ := Sat.read [] cs hS
  obtain ⟨m1, m2, m3⟩ := hm
  obtain ⟨_, cv, hcl, hcR, hcc⟩ := (Sat.rdS [] cs hS).cells hx3
  have hcv := r0_cells hf hcR
  subst hcv
  cases A with
  | none => obtain ⟨rfl, _⟩ := m3; simp at hj
  | some a0 =>
    obtain ⟨g, off, cur, rfl, hg, ho, hr⟩ := m3
    have e1 : (adr (some ⟨g, off, none⟩) j.toNat κ.sz).add q = ⟨g, off + j.toNat * κ.sz + q, none⟩ := by simp [adr, addr_add]
    rw [e1] at ha
    have hb : hp w g = some (.cells cur e (0, 0)) := hM g _ hg
    have hp1 : w.cell? ⟨g, off + j.toNat * κ.sz + q, none⟩ = some ((cellsOf κ v)[q]'(by rw [hcl]; exact hqs)) := by
      rw [← e1]; exact hcc q _ (List.getElem?_eq_getElem (by rw [hcl]; exact hqs))
    refine St.skp hrd (w' := w.setCell ⟨g, off + j.toNat * κ.sz + q, none⟩ u) ?_ (hh _ ?_)
    · simp only [execOp, hop, ha, hx]
      simp [Instr.storeAt, Instr.sureAddr, run_storeVar1 hsz h1 hp1 (frozen_of_hp hb)]
    · refine Sat.upd [] cs (cs := [osl e (r0 κ) κ.sz (some ⟨g, off, none⟩) c xs]) (cs' := [osl e (r0 κ) κ.sz (some ⟨g, off, none⟩) c (xs.set j.toNat v')]) hS ⟨rfl, rfl, rfl⟩ (fun H1 _ hH1 hc' => ?_)
      obtain ⟨J1, J2, _, hJ1, _, hc1, _⟩ := hc'
      obtain ⟨_, _, g', off', cur', ee, hg', _, _⟩ := hc1
      simp only [Option.some.injEq, Addr.mk.injEq] at ee
      obtain ⟨rfl, rfl, _⟩ := ee
      have hgd : H1 g = some (.cells cur' e (0, 0)) := hJ1 g _ hg'
      have hgc : hp w g = some (.cells cur' e (0, 0)) := hH1 _ _ hgd
      have : cur' = cur := by
        have h2 := hb
        rw [hgc] at h2
        simpa using h2
      subst this
      refine ⟨one g (.cells (cur'.setIfInBounds (off + j.toNat * κ.sz + q) u) e (0, 0)), SepL.one ?_, ?_, ?_, ?_⟩
      · refine ⟨by simpa using m1, m2, g, off, _, rfl, one_self _ _, by simpa using ho, ?_⟩
        have hlen' : (cellsOf κ v').length = κ.sz := by rw [← hu, List.length_set, hcl]
        have hs := hr.set j.toNat hj (c := cellsOf κ v') hlen' (cells_rd v' hf)
        have hin : j.toNat * κ.sz + κ.sz ≤ xs.length * κ.sz := by have := Nat.mul_le_mul_right κ.sz (show j.toNat + 1 ≤ xs.length from hj); rw [Nat.add_mul, Nat.one_mul] at this; exact this
        have hcx : xs.length * κ.sz ≤ c * κ.sz := Nat.mul_le_mul_right _ m1
        have h5 : cur'.toList.length = cur'.size := by simp
        have e5 := seg_set cur'.toList (cellsOf κ v') off xs.length j.toNat κ.sz hlen' hj (by omega)
        rw [← e5] at hs
        have e6 : cur'.toList.take (off + j.toNat * κ.sz) ++ cellsOf κ v' ++ cur'.toList.drop (off + j.toNat * κ.sz + (cellsOf κ v').length) = (cur'.setIfInBounds (off + j.toNat * κ.sz + q) u).toList := by
          obtain ⟨cv0, e7, e8, e9⟩ := hr.at hx3
          have e10 := r0_cells hf e9
          subst e10
          have e11 : ∀ q' u', (cellsOf κ v)[q']? = some u' → cur'.toList[off + j.toNat * κ.sz + q']? = some u' := fun q' u' h => by
            have hq' : q' < κ.sz := by
              rw [← hcl]; rcases Nat.lt_or_ge q' (cellsOf κ v).length with h' | h'
              · exact h'
              · rw [List.getElem?_eq_none h'] at h; cases h
            rw [← e7, List.getElem?_take, if_pos hq', List.getElem?_drop, List.getElem?_take, if_pos (by omega), List.getElem?_drop] at h
            rw [← h]; congr 1; omega
          apply List.ext_getElem?
          intro z
          rw [Array.toList_setIfInBounds, List.getElem?_set]
          simp only [List.getElem?_append, List.length_append, List.length_take, hlen', List.getElem?_take, List.getElem?_drop]
          have hmin : min (off + j.toNat * κ.sz) cur'.toList.length = off + j.toNat * κ.sz := by omega
          rw [hmin]
          by_cases z1 : z < off + j.toNat * κ.sz
          · rw [if_pos (by omega), if_pos z1, if_pos z1, if_neg (by omega)]
          · by_cases z2 : z < off + j.toNat * κ.sz + κ.sz
            · rw [if_pos z2, if_neg z1]
              obtain ⟨z', rfl⟩ : ∃ z', z = off + j.toNat * κ.sz + z' := ⟨z - (off + j.toNat * κ.sz), by omega⟩
              have e12 : off + j.toNat * κ.sz + z' - (off + j.toNat * κ.sz) = z' := by omega
              rw [e12, ← hu, List.getElem?_set]
              by_cases z3 : q = z'
              · subst z3
                rw [if_pos rfl, if_pos rfl, if_pos (by omega), if_pos (by omega)]
              · rw [if_neg z3, if_neg (by omega)]
                have hz' : z' < (cellsOf κ v).length := by rw [hcl]; omega
                rw [List.getElem?_eq_getElem hz', e11 z' _ (List.getElem?_eq_getElem hz')]
            · rw [if_neg z2, if_neg (by omega)]
              congr 1; omega
        rw [e6] at hs
        simpa using hs
      · intro y o hy; obtain ⟨rfl, rfl⟩ := one_inv hy; exact hp_setCell u hgc
      · intro y o hy; obtain ⟨rfl, rfl⟩ := one_inv hy; left; rw [hgd]; exact fun h => by cases h
      · intro y o hy hn
        rw [hp_setCell_ne]
        · exact hy
        · rintro rfl; rw [hgd] at hn; cases hn
end
end Go.Gol
