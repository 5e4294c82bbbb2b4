/-
  Memory: blocks that are held apart, blocks that stay as they are, and how values read.
-/
import Derived.Test.YtoonceaeaigkpaaGA
import Derived.Laws.AppendOwn
import Derived.Laws.MakeOwn
import Derived.Laws.CopyOwn
import Derived.Deep.Draws
set_option linter.unusedVariables false
set_option linter.unusedSimpArgs false
namespace Go.Gol
open Go

abbrev Heap := Nat → Option Obj
def hp (w : World) : Heap := fun b => w.heap[b]?
def Sub (H K : Heap) : Prop := ∀ b o, H b = some o → K b = some o
def Dis (H K : Heap) : Prop := ∀ b, H b = none ∨ K b = none
def Un (H K : Heap) : Heap := fun b => match H b with | some o => some o | none => K b
theorem Sub.refl (H : Heap) : Sub H H := fun _ _ h => h
theorem Sub.trans {H K M : Heap} (h : Sub H K) (h' : Sub K M) : Sub H M := fun b o e => h' b o (h b o e)
theorem Sub.unL (H K : Heap) : Sub H (Un H K) := fun b o h => by simp [Un, h]
theorem Sub.unR {H K : Heap} (hd : Dis H K) : Sub K (Un H K) := fun b o h => by
  rcases hd b with h' | h'
  · simp [Un, h', h]
  · rw [h'] at h; cases h
theorem Sub.un {H K M : Heap} (h : Sub H M) (h' : Sub K M) : Sub (Un H K) M := fun b o e => by
  unfold Un at e
  cases hb : H b with
  | some x => simp only [hb, Option.some.injEq] at e; subst e; exact h b _ hb
  | none => simp only [hb] at e; exact h' b _ e
theorem Dis.symm {H K : Heap} (h : Dis H K) : Dis K H := fun b => (h b).symm
theorem Dis.mono {H K H' K' : Heap} (h : Dis H K) (h1 : Sub H' H) (h2 : Sub K' K) : Dis H' K' := fun b => by
  rcases h b with e | e
  · left; cases hb : H' b with | none => rfl | some o => rw [h1 b o hb] at e; cases e
  · right; cases hb : K' b with | none => rfl | some o => rw [h2 b o hb] at e; cases e
theorem Dis.un {H K M : Heap} (h : Dis H M) (h' : Dis K M) : Dis (Un H K) M := fun b => by
  rcases h b with e | e
  · rcases h' b with e' | e'
    · left; simp [Un, e, e']
    · exact .inr e'
  · exact .inr e

abbrev HP := Heap → Prop
/-- what is held, each part apart from the others; more may be there -/
def SepL : List HP → HP
  | [], _ => True
  | c :: cs, H => ∃ H1 H2, Dis H1 H2 ∧ Sub H1 H ∧ Sub H2 H ∧ c H1 ∧ SepL cs H2
theorem SepL.mono {cs : List HP} {H K : Heap} (hs : Sub H K) (h : SepL cs H) : SepL cs K := by
  cases cs with
  | nil => trivial
  | cons c cs => obtain ⟨H1, H2, hd, h1, h2, hc, hr⟩ := h; exact ⟨H1, H2, hd, h1.trans hs, h2.trans hs, hc, hr⟩
theorem SepL.append {as bs : List HP} : ∀ {H1 H2 H : Heap}, Dis H1 H2 → Sub H1 H → Sub H2 H → SepL as H1 → SepL bs H2 → SepL (as ++ bs) H := by
  induction as with
  | nil => intro H1 H2 H _ _ h2 _ hb; exact hb.mono h2
  | cons a as ih =>
    intro H1 H2 H hd h1 h2 ha hb
    obtain ⟨A1, A2, had, ha1, ha2, hc, hr⟩ := ha
    have hd2 : Dis A2 H2 := hd.mono ha2 (Sub.refl _)
    refine ⟨A1, Un A2 H2, ?_, ha1.trans h1, (ha2.trans h1).un h2, hc, ?_⟩
    · exact (Dis.un had.symm (hd.mono ha1 (Sub.refl _)).symm).symm
    · exact ih hd2 (Sub.unL _ _) (Sub.unR hd2) hr hb
theorem SepL.split {as bs : List HP} : ∀ {H : Heap}, SepL (as ++ bs) H → ∃ H1 H2, Dis H1 H2 ∧ Sub H1 H ∧ Sub H2 H ∧ SepL as H1 ∧ SepL bs H2 := by
  induction as with
  | nil => intro H h; exact ⟨fun _ => none, H, fun _ => .inl rfl, (fun _ _ e => by cases e), Sub.refl _, trivial, h⟩
  | cons a as ih =>
    intro H h
    obtain ⟨A1, A2, had, ha1, ha2, hc, hr⟩ := h
    obtain ⟨B1, B2, hbd, hb1, hb2, hra, hrb⟩ := ih hr
    refine ⟨Un A1 B1, B2, ?_, ha1.un (hb1.trans ha2), hb2.trans ha2, ⟨A1, B1, had.mono (Sub.refl _) hb1, Sub.unL _ _, Sub.unR (had.mono (Sub.refl _) hb1), hc, hra⟩, hrb⟩
    exact Dis.un (had.mono (Sub.refl _) hb2) hbd
theorem SepL.swap {as bs : List HP} {H : Heap} (h : SepL (as ++ bs) H) : SepL (bs ++ as) H := by
  obtain ⟨H1, H2, hd, h1, h2, ha, hb⟩ := h.split
  exact SepL.append hd.symm h2 h1 hb ha
theorem SepL.one {c : HP} {H : Heap} (h : c H) : SepL [c] H := ⟨H, fun _ => none, fun _ => .inr rfl, Sub.refl _, (fun _ _ e => by cases e), h, trivial⟩

/-- what a walk begins with: its blocks stay as they are -/
structure Rf where
  heap : Heap
  os : Os
  tape : Nat → Question → Nat
  output : Array (Nat × ByteArray)
def rf (w : World) : Rf := ⟨fun b => w.heap[b]?, w.os, w.tape, w.output⟩
def Same (w : World) (B : Rf) : Prop := w.os = B.os ∧ w.tape = B.tape ∧ w.output = B.output
def Alike' (w w' : World) : Prop := w'.os = w.os ∧ w'.tape = w.tape ∧ w'.output = w.output
theorem Same.step {w w' : World} {B : Rf} (h : Same w B) (h' : Alike' w w') : Same w' B := ⟨h'.1.trans h.1, h'.2.1.trans h.2.1, h'.2.2.trans h.2.2⟩
theorem Alike'.refl (w : World) : Alike' w w := ⟨rfl, rfl, rfl⟩
/-- in the world 'w': the blocks of B stay as they are; the parts 'cs' are held -/
def Sat (w : World) (B : Rf) (cs : List HP) : Prop := Same w B ∧ ∃ H1, Dis B.heap H1 ∧ Sub B.heap (hp w) ∧ Sub H1 (hp w) ∧ SepL cs H1
theorem Sat.sub0 {w : World} {B : Rf} {cs : List HP} (h : Sat w B cs) : Sub B.heap (hp w) := let ⟨_, _, _, h0, _⟩ := h; h0
theorem Sat.heap {w w' : World} {B : Rf} {cs : List HP} (h : Sat w B cs) (e : w'.heap = w.heap) (ha : Alike' w w') : Sat w' B cs := by
  have : hp w' = hp w := by funext b; simp [hp, e]
  refine ⟨h.1.step ha, ?_⟩
  rw [this]; exact h.2
theorem Sat.start (w : World) : Sat w (rf w) [] := ⟨⟨rfl, rfl, rfl⟩, fun _ => none, fun _ => .inr rfl, Sub.refl _, (fun _ _ e => by cases e), trivial⟩
/-- the parts are told anew: a row of them in the place of a row of them -/
theorem Sat.upd (as bs : List HP) {cs cs' : List HP} {w w' : World} {B : Rf} (h : Sat w B (as ++ cs ++ bs)) (ha : Alike' w w')
    (hh : ∀ H1, Dis B.heap H1 → Sub H1 (hp w) → SepL cs H1 → ∃ H1', SepL cs' H1' ∧ Sub H1' (hp w') ∧ (∀ b o, H1' b = some o → H1 b ≠ none ∨ hp w b = none) ∧
      (∀ b o, hp w b = some o → H1 b = none → hp w' b = some o)) : Sat w' B (as ++ cs' ++ bs) := by
  obtain ⟨hsame, H1, hd, h0, h1, hs⟩ := h
  refine ⟨hsame.step ha, ?_⟩
  obtain ⟨HL, HB, hdb, hlb, hbb, hl, hb⟩ := hs.split
  obtain ⟨HA, HC, hdc, hla, hlc, ha, hc⟩ := hl.split
  obtain ⟨H1', hc', hsub, hnew, hold⟩ := hh HC (hd.mono (Sub.refl _) (hlc.trans hlb)) ((hlc.trans hlb).trans h1) hc
  have ap : ∀ {K : Heap}, Sub K (hp w) → Dis K HC → Sub K (hp w') ∧ Dis K H1' := fun {K} hk hdk => by
    refine ⟨fun b o e => hold b o (hk b o e) ?_, fun b => ?_⟩
    · rcases hdk b with e' | e'
      · rw [e] at e'; cases e'
      · exact e'
    · cases hb1 : K b with
      | none => exact .inl rfl
      | some o =>
        right
        cases hb2 : H1' b with
        | none => rfl
        | some o' =>
          rcases hnew b o' hb2 with e | e
          · rcases hdk b with e' | e'
            · rw [hb1] at e'; cases e'
            · exact absurd e' e
          · rw [hk b o hb1] at e; cases e
  have a0 := ap h0 (hd.mono (Sub.refl _) (hlc.trans hlb))
  have aA := ap ((hla.trans hlb).trans h1) hdc
  have aB := ap (hbb.trans h1) (hdb.mono hlc (Sub.refl _)).symm
  have dAB : Dis HA HB := hdb.mono hla (Sub.refl _)
  refine ⟨Un (Un HA H1') HB, ?_, a0.1, (aA.1.un hsub).un aB.1, ?_⟩
  · exact (Dis.un (Dis.un (hd.mono (Sub.refl _) (hla.trans hlb)).symm a0.2.symm) (hd.mono (Sub.refl _) hbb).symm).symm
  · have d1 : Dis (Un HA H1') HB := Dis.un dAB aB.2.symm
    exact SepL.append d1 (Sub.unL _ _) (Sub.unR d1) (SepL.append aA.2 (Sub.unL _ _) (Sub.unR aA.2) ha hc') hb
/-- a part is read -/
theorem Sat.read (as bs : List HP) {c : HP} {w : World} {B : Rf} (h : Sat w B (as ++ [c] ++ bs)) : ∃ H1, Sub H1 (hp w) ∧ Dis B.heap H1 ∧ c H1 := by
  obtain ⟨_, H1, hd, h0, h1, hs⟩ := h
  obtain ⟨HL, HB, hdb, hlb, hbb, hl, hb⟩ := hs.split
  obtain ⟨HA, HC, hdc, hla, hlc, ha, hc⟩ := hl.split
  obtain ⟨H2, H3, _, h2, _, hcc, _⟩ := hc
  exact ⟨H2, ((h2.trans hlc).trans hlb).trans h1, hd.mono (Sub.refl _) ((h2.trans hlc).trans hlb), hcc⟩
theorem Sat.front (as bs : List HP) {c : HP} {w : World} {B : Rf} (h : Sat w B (as ++ [c] ++ bs)) : Sat w B (c :: (as ++ bs)) := by
  obtain ⟨hsame, H1, hd, h0, h1, hs⟩ := h
  obtain ⟨HL, HB, hdb, hlb, hbb, hl, hb⟩ := hs.split
  have := SepL.append hdb hlb hbb hl.swap hb
  exact ⟨hsame, H1, hd, h0, h1, by simpa using this⟩
/-- a new block -/
def pts (b : Nat) (o : Obj) : HP := fun H => H b = some o
theorem hp_alloc (w : World) (o : Obj) (b : Nat) (x : Obj) (h : hp w b = some x) : hp (w.alloc o) b = some x := by
  have hlt : b < w.heap.size := by
    rcases Nat.lt_or_ge b w.heap.size with h' | h'
    · exact h'
    · simp [hp, Array.getElem?_eq_none h'] at h
  simp only [hp, World.alloc] at *
  rw [Array.getElem?_push_lt hlt, ← h, Array.getElem?_eq_getElem hlt]
theorem hp_new (w : World) (o : Obj) : hp (w.alloc o) w.heap.size = some o := by show (w.heap.push o)[w.heap.size]? = some o; simp
theorem hp_fresh (w : World) : hp w w.heap.size = none := by simp [hp]
def one (b : Nat) (o : Obj) : Heap := fun i => if i = b then some o else none
theorem one_self (b : Nat) (o : Obj) : one b o b = some o := by simp [one]
theorem one_inv {b i : Nat} {o x : Obj} (h : one b o i = some x) : i = b ∧ x = o := by
  unfold one at h; split at h
  · exact ⟨‹_›, by simpa using h.symm⟩
  · cases h
theorem Sat.alloc {w : World} {B : Rf} {cs : List HP} (h : Sat w B cs) (o : Obj) : Sat (w.alloc o) B (pts w.heap.size o :: cs) := by
  have := Sat.upd [] cs (cs := []) (cs' := [pts w.heap.size o]) (w := w) (w' := w.alloc o) (by simpa using h) ⟨rfl, rfl, rfl⟩ (fun H1 _ _ _ =>
    ⟨one w.heap.size o, SepL.one (one_self _ _), fun b x e => by obtain ⟨rfl, rfl⟩ := one_inv e; exact hp_new w x, fun b x e => by obtain ⟨rfl, rfl⟩ := one_inv e; exact .inr (hp_fresh w),
      fun b x e _ => hp_alloc w o b x e⟩)
  simpa using this
/-- what is held is let go into what stays -/
theorem Sat.freeze (as bs : List HP) {c : HP} {w : World} {B : Rf} (h : Sat w B (as ++ [c] ++ bs)) : ∃ B' : Rf, Sub B.heap B'.heap ∧ B'.os = B.os ∧ B'.tape = B.tape ∧ B'.output = B.output ∧ (∃ K, Sub K B'.heap ∧ c K) ∧ Sat w B' (as ++ bs) := by
  obtain ⟨hsame, H1, hd, h0, h1, hs⟩ := Sat.front as bs h
  obtain ⟨A, C, hdab, ha, hb, hc, hr⟩ := hs
  have d0A : Dis B.heap A := hd.mono (Sub.refl _) ha
  refine ⟨⟨Un B.heap A, B.os, B.tape, B.output⟩, Sub.unL _ _, rfl, rfl, rfl, ⟨A, Sub.unR d0A, hc⟩, hsame, C, Dis.un (hd.mono (Sub.refl _) hb) hdab, h0.un (ha.trans h1), hb.trans h1, hr⟩
theorem SepL.readAt (as bs : List HP) {c : HP} {H : Heap} (h : SepL (as ++ [c] ++ bs) H) : ∃ K, Sub K H ∧ c K := by
  obtain ⟨HL, HB, hdb, hlb, hbb, hl, hb⟩ := h.split
  obtain ⟨HA, HC, hdc, hla, hlc, ha, hc⟩ := hl.split
  obtain ⟨H2, H3, _, h2, _, hcc, _⟩ := hc
  exact ⟨H2, (h2.trans hlc).trans hlb, hcc⟩

/-! ### how values read -/
inductive Ki where
  | int (k : IntKind) | bool | str | unit
  | pair (a b : Ki)
  | slice (e : TypeId) (κ : Ki)
  | ptr (t : TypeId) (κ : Ki)
  | arr (m : Nat) (κ : Ki)
abbrev Ki.T : Ki → Type
  | .int _ => Int
  | .bool => Bool
  | .str => ByteArray
  | .unit => Unit
  | .pair a b => a.T × b.T
  | .slice _ κ => List κ.T
  | .ptr _ κ => Option κ.T
  | .arr _ κ => List κ.T
def Ki.sz : Ki → Nat
  | .unit => 0
  | .pair a b => a.sz + b.sz
  | .arr m κ => m * κ.sz
  | _ => 1
/-- a row of values, so many cells each, reads as a list -/
def rdL {α : Type} (R : List Value → α → Prop) (sz : Nat) (vals : List Value) (xs : List α) : Prop :=
  ∃ css : List (List Value), vals = css.flatten ∧ css.length = xs.length ∧ (∀ c ∈ css, c.length = sz) ∧ ∀ (i : Nat) (c : List Value) (x : α), css[i]? = some c → xs[i]? = some x → R c x
def rdS {α : Type} (R : List Value → α → Prop) (sz : Nat) (H : Heap) (A : Option Addr) (c : Nat) (xs : List α) : Prop :=
  xs.length ≤ c ∧ c ≤ maxLen ∧ match A with
  | none => xs = []
  | some a => c = 0 ∨ (a.spot = none ∧ ∃ cells E fr, H a.block = some (.cells cells E fr) ∧ a.off + c * sz ≤ cells.size ∧ rdL R sz ((cells.toList.drop a.off).take (xs.length * sz)) xs)
def rd (H : Heap) : (κ : Ki) → List Value → κ.T → Prop
  | .int k, cs, n => cs = [.int k n]
  | .bool, cs, b => cs = [.bool b]
  | .str, cs, s => cs = [.string s]
  | .unit, cs, _ => cs = []
  | .pair a b, cs, x => ∃ c1 c2, cs = c1 ++ c2 ∧ c1.length = a.sz ∧ rd H a c1 x.1 ∧ rd H b c2 x.2
  | .slice _ κ, cs, xs => ∃ A c, cs = [.slice A (List.length xs) c] ∧ rdS (rd H κ) κ.sz H A c xs
  | .ptr t κ, cs, x => match x with
    | none => cs = [.pointer none]
    | some y => ∃ b cells fr, cs = [.pointer (some ⟨b, 0, none⟩)] ∧ H b = some (.cells cells t fr) ∧ rd H κ cells.toList y
  | .arr m κ, cs, xs => List.length xs = m ∧ rdL (rd H κ) κ.sz cs xs

theorem rdL.mono {α : Type} {R R' : List Value → α → Prop} {sz : Nat} {vals : List Value} {xs : List α} (h : rdL R sz vals xs) (hR : ∀ c x, R c x → R' c x) : rdL R' sz vals xs :=
  let ⟨css, e, hl, hs, hr⟩ := h; ⟨css, e, hl, hs, fun i c x hc hx => hR c x (hr i c x hc hx)⟩
theorem rdS.mono {α : Type} {R R' : List Value → α → Prop} {sz : Nat} {H K : Heap} {A : Option Addr} {c : Nat} {xs : List α} (hs : Sub H K) (hR : ∀ c x, R c x → R' c x) (h : rdS R sz H A c xs) : rdS R' sz K A c xs := by
  obtain ⟨h1, h2, h3⟩ := h
  refine ⟨h1, h2, ?_⟩
  cases A with
  | none => exact h3
  | some a =>
    rcases h3 with h3 | ⟨h4, cells, E, fr, hb, ho, hr⟩
    · exact .inl h3
    · exact .inr ⟨h4, cells, E, fr, hs _ _ hb, ho, hr.mono hR⟩
theorem rd.mono {H K : Heap} (hs : Sub H K) : ∀ (κ : Ki) (cs : List Value) (x : κ.T), rd H κ cs x → rd K κ cs x
  | .int _, _, _, h => h
  | .bool, _, _, h => h
  | .str, _, _, h => h
  | .unit, _, _, h => h
  | .pair a b, _, _, ⟨c1, c2, e, hl, h1, h2⟩ => ⟨c1, c2, e, hl, rd.mono hs a _ _ h1, rd.mono hs b _ _ h2⟩
  | .slice _ κ, _, _, ⟨A, c, e, h⟩ => ⟨A, c, e, h.mono hs (fun c x => rd.mono hs κ c x)⟩
  | .ptr t κ, _, x, h => by
    cases x with
    | none => exact h
    | some y => obtain ⟨b, cells, fr, e, hb, hr⟩ := h; exact ⟨b, cells, fr, e, hs _ _ hb, rd.mono hs κ _ _ hr⟩
  | .arr m κ, _, _, ⟨e, h⟩ => ⟨e, h.mono (fun c x => rd.mono hs κ c x)⟩

theorem rdL.nil {α : Type} (R : List Value → α → Prop) (sz : Nat) : rdL R sz [] [] := ⟨[], rfl, rfl, (fun c h => by cases h), fun i c x h => by simp at h⟩
theorem rdL.append {α : Type} {R : List Value → α → Prop} {sz : Nat} {v1 v2 : List Value} {x1 x2 : List α} (h1 : rdL R sz v1 x1) (h2 : rdL R sz v2 x2) : rdL R sz (v1 ++ v2) (x1 ++ x2) := by
  obtain ⟨c1, e1, l1, s1, r1⟩ := h1
  obtain ⟨c2, e2, l2, s2, r2⟩ := h2
  refine ⟨c1 ++ c2, by simp [e1, e2], by simp [l1, l2], fun c hc => (List.mem_append.1 hc).elim (s1 c) (s2 c), fun i c x hc hx => ?_⟩
  rcases Nat.lt_or_ge i c1.length with h | h
  · rw [List.getElem?_append_left h] at hc; rw [List.getElem?_append_left (l1 ▸ h)] at hx; exact r1 i c x hc hx
  · rw [List.getElem?_append_right h] at hc; rw [List.getElem?_append_right (l1 ▸ h), ← l1] at hx; exact r2 _ c x hc hx
theorem rdL.single {α : Type} {R : List Value → α → Prop} {sz : Nat} {v : List Value} {x : α} (hl : v.length = sz) (h : R v x) : rdL R sz v [x] :=
  ⟨[v], by simp, rfl, fun c hc => by simp at hc; rw [hc, hl], fun i c y hc hy => by
    cases i with
    | zero => simp at hc hy; subst hc; subst hy; exact h
    | succ i => simp at hc⟩
theorem flatten_len {css : List (List Value)} {sz : Nat} (hs : ∀ c ∈ css, c.length = sz) : css.flatten.length = css.length * sz := by
  induction css with
  | nil => simp
  | cons c css ih => simp only [List.flatten_cons, List.length_append, List.length_cons]; rw [ih (fun c hc => hs c (List.mem_cons_of_mem _ hc)), hs c (List.mem_cons_self), Nat.add_mul]; omega
theorem rdL.len {α : Type} {R : List Value → α → Prop} {sz : Nat} {vals : List Value} {xs : List α} (h : rdL R sz vals xs) : vals.length = xs.length * sz := by
  obtain ⟨css, rfl, hl, hs, _⟩ := h; rw [flatten_len hs, hl]
theorem flatten_drop {css : List (List Value)} {sz : Nat} (hs : ∀ c ∈ css, c.length = sz) (i : Nat) : css.flatten.drop (i * sz) = (css.drop i).flatten := by
  induction i generalizing css with
  | zero => simp
  | succ i ih =>
    cases css with
    | nil => simp
    | cons c css =>
      have hc := hs c (List.mem_cons_self)
      simp only [List.flatten_cons, List.drop_succ_cons]
      rw [← ih (fun c hc => hs c (List.mem_cons_of_mem _ hc)), Nat.add_mul, Nat.one_mul, Nat.add_comm, ← List.drop_drop, ← hc, List.drop_left]
theorem flatten_take {css : List (List Value)} {sz : Nat} (hs : ∀ c ∈ css, c.length = sz) (i : Nat) : css.flatten.take (i * sz) = (css.take i).flatten := by
  induction i generalizing css with
  | zero => simp
  | succ i ih =>
    cases css with
    | nil => simp
    | cons c css =>
      have hc := hs c (List.mem_cons_self)
      simp only [List.flatten_cons, List.take_succ_cons]
      rw [← ih (fun c hc => hs c (List.mem_cons_of_mem _ hc)), Nat.add_mul, Nat.one_mul, Nat.add_comm, ← hc, List.take_length_add_append]
theorem rdL.drop {α : Type} {R : List Value → α → Prop} {sz : Nat} {vals : List Value} {xs : List α} (h : rdL R sz vals xs) (i : Nat) : rdL R sz (vals.drop (i * sz)) (xs.drop i) := by
  obtain ⟨css, rfl, hl, hs, hr⟩ := h
  exact ⟨css.drop i, flatten_drop hs i, by simp [hl], fun c hc => hs c (List.mem_of_mem_drop hc), fun j c x hc hx => by
    rw [List.getElem?_drop] at hc hx; exact hr _ c x hc hx⟩
theorem rdL.take {α : Type} {R : List Value → α → Prop} {sz : Nat} {vals : List Value} {xs : List α} (h : rdL R sz vals xs) (i : Nat) : rdL R sz (vals.take (i * sz)) (xs.take i) := by
  obtain ⟨css, rfl, hl, hs, hr⟩ := h
  refine ⟨css.take i, flatten_take hs i, by simp [hl], fun c hc => hs c (List.mem_of_mem_take hc), fun j c x hc hx => ?_⟩
  rw [List.getElem?_take] at hc hx
  split at hc
  · rename_i hlt; rw [if_pos hlt] at hx; exact hr _ c x hc hx
  · cases hc
theorem rdL.at {α : Type} {R : List Value → α → Prop} {sz : Nat} {vals : List Value} {xs : List α} (h : rdL R sz vals xs) {i : Nat} {x : α} (hx : xs[i]? = some x) :
    ∃ c, (vals.drop (i * sz)).take sz = c ∧ c.length = sz ∧ R c x := by
  obtain ⟨css, rfl, hl, hs, hr⟩ := h
  have hi : i < css.length := by
    rw [hl]; rcases Nat.lt_or_ge i xs.length with h | h
    · exact h
    · simp [List.getElem?_eq_none h] at hx
  refine ⟨css[i], ?_, hs _ (List.getElem_mem hi), hr i _ x (List.getElem?_eq_getElem hi) hx⟩
  rw [flatten_drop hs i, List.drop_eq_getElem_cons hi, List.flatten_cons]
  have := hs _ (List.getElem_mem hi)
  rw [← this, List.take_left]
theorem rdL.set {α : Type} {R : List Value → α → Prop} {sz : Nat} {vals : List Value} {xs : List α} (h : rdL R sz vals xs) (i : Nat) (hi : i < xs.length) {c : List Value} {x : α} (hc : c.length = sz) (hx : R c x) :
    rdL R sz (vals.take (i * sz) ++ c ++ vals.drop ((i + 1) * sz)) (xs.set i x) := by
  have h1 := (h.take i).append ((rdL.single hc hx).append (h.drop (i + 1)))
  rw [List.append_assoc]
  rwa [List.set_eq_take_append_cons_drop, if_pos hi]
end Go.Gol
