/-
  Rows of which some are one's own and some only looked at; one cell of a row of one's own is written. My own text.
-/
import Derived.Test.YtoonceaeaigkpaaGR
set_option linter.unusedVariables false
set_option linter.unusedSimpArgs false
namespace Go.Gol
open Go
/-- an element that is one's own if it is short and if G; else it may be only looked at -/
def Emx (HR : Heap) (G : Prop) (m : Nat) (e : TypeId) (κ : Ki) (cs : List Value) (x : List κ.T) : HP := fun H => ∃ A c, cs = [.slice A (List.length x) c] ∧ (G ∧ List.length x ≤ m → osl e (r0 κ) κ.sz A c x H) ∧ (osl e (r0 κ) κ.sz A c x H ∨ rdS (r0 κ) κ.sz HR A c x)
theorem orw.rdSK {κ : Ki} {K : Heap} {e : TypeId} {E : List Value → κ.T → HP} (hE : ∀ cs x H, Sub H K → E cs x H → rd K κ cs x) {sz : Nat} {A : Option Addr} {c : Nat} {xs : List κ.T} {H : Heap} (hs : Sub H K) (h : orw e E sz A c xs H) : Gol.rdS (rd K κ) sz K A c xs := by
  obtain ⟨css, hl, H1, H2, hd, h1, h2, ho, hz⟩ := h
  have hr := (osl.read ho).mono (h1.trans hs) (fun _ _ h => h)
  have hx : ∀ (j : Nat) (cc : List Value) (x : κ.T), css[j]? = some cc → xs[j]? = some x → rd K κ cc x := fun j cc x hc hx => by
    have : (List.zipWith E css xs)[j]? = some (E cc x) := by simp [List.getElem?_zipWith, hc, hx]
    obtain ⟨M0, hM, hm⟩ := SepL.readAt _ _ (split_at this ▸ hz)
    exact hE _ _ _ (hM.trans (h2.trans hs)) hm
  obtain ⟨r1, r2, r3⟩ := hr
  refine ⟨by omega, r2, ?_⟩
  cases A with
  | none => subst r3; exact List.eq_nil_of_length_eq_zero (by simpa using hl.symm)
  | some a =>
    rcases r3 with r3 | ⟨q1, cells, E', fr, hb, ho', q⟩
    · exact .inl r3
    · refine .inr ⟨q1, cells, E', fr, hb, ho', ?_⟩
      rw [← hl]
      obtain ⟨dss, e1, e2, e3, e4⟩ := q
      refine ⟨dss, e1, by omega, e3, fun j cc x hc hxx => ?_⟩
      have hj : j < css.length := by
        rw [← e2]; rcases Nat.lt_or_ge j dss.length with h | h
        · exact h
        · rw [List.getElem?_eq_none h] at hc; cases hc
      have := (e4 j cc css[j] hc (List.getElem?_eq_getElem hj)).1
      subst this
      exact hx j _ x (List.getElem?_eq_getElem hj) hxx
section
variable {P : Program} {n : Nat} {ops : Array Oper} {L : SL} {w : World} {i : Nat} {K : Value → World → Prop} {M : Value → Prop} {B : Rf} {cs : List HP}
theorem Sat.addTrue {c : HP} (h : Sat w B (c :: cs)) : Sat w B (c :: (fun _ => True) :: cs) := by
  obtain ⟨hs, H1, hd, h0, h1, A, C, d, hA, hC, ha, hr⟩ := h
  exact ⟨hs, H1, hd, h0, h1, A, C, d, hA, hC, ha, Em, C, fun b => .inl rfl, Sub.em _, Sub.refl _, trivial, hr⟩
theorem Sat.rdMix (j : Nat) {κ : Ki} {G : Prop} {m : Nat} {e e2 : TypeId} {A : Option Addr} {c : Nat} {xs : List (List κ.T)} (h : Sat w B cs) (hj : cs[j]? = some (orw e (Emx B.heap G m e2 κ) 1 A c xs)) : Gol.rdS (rd (hp w) (.slice e2 κ)) 1 (hp w) A c xs := by
  obtain ⟨M0, hM, _, hm⟩ := Sat.read _ _ (split_at hj ▸ h)
  refine orw.rdSK (κ := .slice e2 κ) (fun cc x H hs hx => ?_) hM hm
  obtain ⟨A', c', rfl, _, h2⟩ := hx
  rcases h2 with h2 | h2
  · exact ⟨A', c', rfl, (osl.read h2).mono hs (fun _ _ h => r0_up _ h)⟩
  · exact ⟨A', c', rfl, h2.mono h.sub0 (fun _ _ h => r0_up _ h)⟩
theorem SepL.zmono {α : Type} {E E' : List Value → α → HP} : ∀ {css : List (List Value)} {xs : List α} {H : Heap}, (∀ cs x H, x ∈ xs → E cs x H → E' cs x H) → SepL (List.zipWith E css xs) H → SepL (List.zipWith E' css xs) H
  | [], xs, H, _, h => by simpa using h
  | cc :: css, [], H, _, h => by simpa using h
  | cc :: css, x :: xs, H, hE, h => by
    obtain ⟨H1, H2, hd, h1, h2, a, b⟩ := h
    exact ⟨H1, H2, hd, h1, h2, hE _ _ _ List.mem_cons_self a, SepL.zmono (fun cs y H hy => hE cs y H (List.mem_cons_of_mem _ hy)) b⟩
/-- where all are one's own -/
theorem Sat.toOrw {κ : Ki} {HR : Heap} {G : Bool} {m : Nat} {e e2 : TypeId} {A : Option Addr} {c : Nat} {xs : List (List κ.T)} (hx : (G && xs.all fun x => decide (x.length ≤ m)) = true) (h : Sat w B (orw e (Emx HR (G = true) m e2 κ) 1 A c xs :: cs)) : Sat w B (orw e (Esl e2 κ) 1 A c xs :: cs) := by
  simp only [Bool.and_eq_true, List.all_eq_true, decide_eq_true_eq] at hx
  refine h.mono1 (fun H hh => ?_)
  obtain ⟨css, hl, H1, H2, hd, s1, s2, o, z⟩ := hh
  refine ⟨css, hl, H1, H2, hd, s1, s2, o, SepL.zmono (fun cc x H hxs hE => ?_) z⟩
  obtain ⟨A', c', e1, h1, _⟩ := hE
  exact ⟨A', c', e1, h1 ⟨hx.1, hx.2 x hxs⟩⟩
/-- a row of one's own is read, and where it lies is known -/
theorem RSt.loadRowS {t e e2 : TypeId} {κ : Ki} {Kn : Heap} (x : Operand) (hop : (opAt ops i).op = .load t x) (hrd : ready n ops L i = true) (hagg : (isAgg t).run P w = .ok false w)
    {A : Option Addr} {c : Nat} {css : List (List Value)} {xs : List (List κ.T)} {j : Int} {v : List κ.T} (hx : rho L x = .pointer (some (adr A j.toNat 1))) (hC : orc e (Esl e2 κ) 1 A c css xs Kn) (hv : at? xs j = some v) (hs : Sub Kn (hp w))
    (hh : ∀ A' c', css[j.toNat]? = some [.slice A' v.length c'] → rdS (r0 κ) κ.sz Kn A' c' v → M (.slice A' v.length c')) : RSt P n ops L i w M := by
  obtain ⟨hl, H1, H2, hd, s1, s2, ho, hz⟩ := hC
  have hr : Gol.rdS rid 1 (hp w) A c css := (osl.read ho).mono (s1.trans hs) (fun _ _ h => h)
  obtain ⟨_, hj, hx3, _⟩ := at?_some hv
  have hjc : j.toNat < css.length := by omega
  obtain ⟨_, u, hR, hc⟩ := hr.cell1 (List.getElem?_eq_getElem hjc)
  have hcu : css[j.toNat]? = some [u] := by rw [List.getElem?_eq_getElem hjc, ← hR.1]
  have hq : (List.zipWith (Esl e2 κ) css xs)[j.toNat]? = some (Esl e2 κ [u] v) := by simp [List.getElem?_zipWith, hcu, hx3]
  obtain ⟨M0, hM, A', c', e1, hm⟩ := SepL.readAt _ _ (split_at hq ▸ hz)
  simp only [List.cons.injEq, and_true] at e1
  subst e1
  exact RSt.load x _ hop hrd hagg hx hc (hh A' c' hcu ((osl.read hm).mono (hM.trans s2) (fun _ _ h => h)))
theorem cell_of_hp_sp {w : World} {a : Addr} {cells : Array Value} {E : TypeId} {fr : Nat × Nat} (h : a.spot = none) (hb : hp w a.block = some (.cells cells E fr)) (k : Nat) : w.cell? (a.add k) = cells[a.off + k]? := add_cell h hb k
/-- a slice out of rows that stay: what stands in its cell is known in all worlds that have them -/
theorem RSt.loadSlF {t e : TypeId} {κ : Ki} {H : Heap} (x : Operand) (hop : (opAt ops i).op = .load t x) (hrd : ready n ops L i = true) (hagg : (isAgg t).run P w = .ok false w)
    {A : Option Addr} {c : Nat} {xs : List (List κ.T)} {j : Int} {v : List κ.T} (hx : rho L x = .pointer (some (adr A j.toNat 1))) (hr : rdS (rd H (.slice e κ)) 1 H A c xs) (hv : at? xs j = some v) (hs : Sub H (hp w))
    (hh : ∀ A' c', rdS (rd H κ) κ.sz H A' c' v → (∀ w' : World, Sub H (hp w') → w'.cell? (adr A j.toNat 1) = some (.slice A' v.length c')) → M (.slice A' v.length c')) : RSt P n ops L i w M := by
  have hx3 := (at?_some hv).2.2.1
  have hcell : ∀ w' : World, Sub H (hp w') → ∃ u, rd H (.slice e κ) [u] v ∧ w'.cell? (adr A j.toNat 1) = some u := fun w' h => by
    obtain ⟨_, u, hR, hc⟩ := (hr.up h).cell1 hx3
    exact ⟨u, hR, hc⟩
  obtain ⟨u, hR, hc⟩ := hcell w hs
  obtain ⟨A', c', e1, h1⟩ := hR
  simp only [List.cons.injEq, and_true] at e1
  subst e1
  refine RSt.load x _ hop hrd hagg hx hc (hh A' c' h1 (fun w' h => ?_))
  have hb : ∀ b o, H b = some o → hp w b = some o ∧ hp w' b = some o := fun b o q => ⟨hs b o q, h b o q⟩
  obtain ⟨r1, r2, r3⟩ := hr
  cases A with
  | none => subst r3; simp at hx3
  | some a =>
    rcases r3 with r3 | ⟨q1, cells, E, fr, hbk, ho, q⟩
    · have := (at?_some hv).2.1; omega
    · have e2 := cell_of_hp_sp q1 (hb _ _ hbk).1 (j.toNat * 1)
      have e3 := cell_of_hp_sp q1 (hb _ _ hbk).2 (j.toNat * 1)
      have ea : adr (some a) j.toNat 1 = a.add (j.toNat * 1) := rfl
      rw [ea, e2] at hc
      rw [ea, e3]; exact hc
theorem Sat.swap2 {a b : HP} (h : Sat w B (a :: b :: cs)) : Sat w B (b :: a :: cs) := by
  have := Sat.front [a] cs (c := b) (by simpa using h)
  simpa using this
/-- one cell of a row of one's own is written -/
theorem St.storeInRow {t : TypeId} (a x : Operand) (hop : (opAt ops i).op = .store t a x) (hrd : ready n ops L i = true) (hsz : (sizeOf t).run P w = .ok 1 w) {e e2 : TypeId} {kk : IntKind} {A : Option Addr} {c : Nat} {css : List (List Value)} {xs : List (List Int)} {Kn : Heap} (hC : orc e (Esl e2 (.int kk)) 1 A c css xs Kn) (hS : Sat w B (gh Kn :: cs))
    {j : Int} {row ys : List Int} {A' : Option Addr} {c' : Nat} (hcs : css[j.toNat]? = some [.slice A' row.length c']) (hv : at? xs j = some row) {k v : Int} (ha : rho L a = .pointer (some (adr A' k.toNat 1))) (hx : rho L x = .int kk v) (hset : set? row k v = some ys)
    (hh : ∀ w', Sat w' B (orw e (Esl e2 (.int kk)) 1 A c (xs.set j.toNat ys) :: cs) → K undef w') : St P n ops L i w K := by
  have h1 := (Sat.focus hC hS hcs (at?_idx hv)).swap2
  have h2 : Sat w B (osl e2 (r0 (.int kk)) 1 A' c' row :: orh e (Esl e2 (.int kk)) 1 A c css j.toNat xs :: cs) := h1.mono1 (fun H hh => by
    obtain ⟨A2, c2, e1, h3⟩ := hh
    simp only [List.cons.injEq, and_true, Value.slice.injEq, true_and] at e1
    obtain ⟨rfl, rfl⟩ := e1
    exact h3)
  refine St.storeElem' a x hop hrd hsz h2 ha hx rfl hset rfl (fun w' h3 => hh w' ?_)
  have h4 : Sat w' B (Esl e2 (.int kk) [.slice A' row.length c'] ys :: orh e (Esl e2 (.int kk)) 1 A c css j.toNat xs :: cs) := h3.mono1 (fun H hh => ⟨A', c', by rw [set?_len hset], hh⟩)
  exact Sat.fill h4.swap2 hcs
end
end Go.Gol
