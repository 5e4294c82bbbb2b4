/-
  The steps in the form in which a program prints them.
-/
import Derived.Test.YtoonceaeaigkpaaGF
set_option linter.unusedVariables false
set_option linter.unusedSimpArgs false
namespace Go.Gol
open Go

/-! ### parts in another order, or fewer -/
theorem SepL.fam : ∀ {cs : List HP} {H : Heap}, SepL cs H → ∃ hs : Nat → Heap, (∀ i, Sub (hs i) H) ∧ (∀ i j, i ≠ j → Dis (hs i) (hs j)) ∧ ∀ (i : Nat) (c : HP), cs[i]? = some c → c (hs i)
  | [], H, _ => ⟨fun _ => Em, fun _ => Sub.em _, fun _ _ _ => fun _ => .inl rfl, fun i c h => by simp at h⟩
  | c :: cs, H, ⟨H1, H2, hd, h1, h2, hc, hr⟩ => by
    obtain ⟨hs, hsub, hdis, hall⟩ := SepL.fam hr
    refine ⟨fun i => match i with | 0 => H1 | j + 1 => hs j, fun i => ?_, fun i j hij => ?_, fun i x hx => ?_⟩
    · cases i with
      | zero => exact h1
      | succ j => exact (hsub j).trans h2
    · cases i with
      | zero => cases j with
        | zero => exact absurd rfl hij
        | succ j => exact hd.mono (Sub.refl _) (hsub j)
      | succ i => cases j with
        | zero => exact (hd.mono (Sub.refl _) (hsub i)).symm
        | succ j => exact hdis i j (by omega)
    · cases i with
      | zero => simp at hx; subst hx; exact hc
      | succ j => simp at hx; exact hall j x hx
theorem SepL.ofFam : ∀ (cs : List HP) (H : Heap) (hs : Nat → Heap), (∀ i, i < cs.length → Sub (hs i) H) → (∀ i j, i < cs.length → j < cs.length → i ≠ j → Dis (hs i) (hs j)) → (∀ (i : Nat) (c : HP), cs[i]? = some c → c (hs i)) → SepL cs H
  | [], _, _, _, _, _ => trivial
  | c :: cs, H, hs, hsub, hdis, hall => by
    refine ⟨hs 0, fun b => match hs 0 b with | some _ => none | none => H b, ?_, hsub 0 (by simp), ?_, hall 0 c rfl, ?_⟩
    · intro b
      cases hb : hs 0 b with
      | none => exact .inl rfl
      | some o => right; simp [hb]
    · intro b o h
      simp only at h
      split at h
      · cases h
      · exact h
    · refine SepL.ofFam cs _ (fun i => hs (i + 1)) (fun i hi b o h => ?_) (fun i j hi hj hij => hdis _ _ (by simp; omega) (by simp; omega) (by omega)) (fun i x hx => hall (i + 1) x (by simpa using hx))
      have := hdis 0 (i + 1) (by simp) (by simp; omega) (by omega) b
      have h0 : hs 0 b = none := by
        rcases this with h' | h'
        · exact h'
        · rw [h'] at h; cases h
      simp only [h0]
      exact hsub (i + 1) (by simp; omega) b o h
def nodupB : List Nat → Bool
  | [] => true
  | i :: is => !(is.any (Nat.beq i)) && nodupB is
theorem nodupB_spec : ∀ {is : List Nat}, nodupB is = true → ∀ (a b x : Nat), is[a]? = some x → is[b]? = some x → a = b
  | [], _, a, b, x, h, _ => by simp at h
  | i :: is, hn, a, b, x, ha, hb => by
    simp only [nodupB, Bool.and_eq_true, Bool.not_eq_true', List.any_eq_false] at hn
    have mem : ∀ c, is[c]? = some i → False := fun c hc => by
      have := hn.1 i (List.mem_of_getElem? hc)
      simp at this
    cases a with
    | zero =>
      cases b with
      | zero => rfl
      | succ b => simp at ha hb; subst ha; exact (mem b hb).elim
    | succ a =>
      cases b with
      | zero => simp at ha hb; subst hb; exact (mem a ha).elim
      | succ b => simp at ha hb; rw [nodupB_spec hn.2 a b x ha hb]
def selL (is : List Nat) (cs : List HP) : List HP := is.map fun i => cs.getD i (fun _ => True)
theorem Sat.sel {w : World} {H0 : Rf} {cs : List HP} (h : Sat w H0 cs) (is : List Nat) (hn : nodupB is = true) : Sat w H0 (selL is cs) := by
  obtain ⟨hsame, H1, hd, h0, h1, hs⟩ := h
  obtain ⟨fs, hsub, hdis, hall⟩ := hs.fam
  refine ⟨hsame, H1, hd, h0, h1, SepL.ofFam _ _ (fun k => fs (is.getD k 0)) (fun k _ => hsub _) (fun a b ha hb hab => ?_) (fun k c hk => ?_)⟩
  · simp only [selL, List.length_map] at ha hb
    refine hdis _ _ (fun e => hab ?_)
    have ea : is[a]? = some (is.getD a 0) := by simp [List.getD, ha]
    have eb : is[b]? = some (is.getD a 0) := by rw [e]; simp [List.getD, hb]
    exact nodupB_spec hn a b _ ea eb
  · simp only [selL, List.getElem?_map] at hk
    cases hi : is[k]? with
    | none => simp [hi] at hk
    | some i =>
      simp only [hi, Option.map_some, Option.some.injEq] at hk
      have e : is.getD k 0 = i := by simp [List.getD, hi]
      rw [e]
      cases hc : cs[i]? with
      | none => simp [List.getD, hc] at hk; subst hk; trivial
      | some x => simp [List.getD, hc] at hk; subst hk; exact hall i x hc
theorem Sat.addNil {w : World} {H0 : Rf} {cs : List HP} (h : Sat w H0 cs) {α : Type} (e : TypeId) (R : List Value → α → Prop) (sz : Nat) : Sat w H0 (osl e R sz none 0 [] :: cs) := by
  obtain ⟨hsame, H1, hd, h0, h1, hs⟩ := h
  exact ⟨hsame, H1, hd, h0, h1, Em, H1, fun _ => .inl rfl, Sub.em _, Sub.refl _, osl.nil e R sz _, hs⟩

section
variable {P : Program} {Q : Exit → Act → World → Prop} {n : Nat} {ops : Array Oper} {is : List Nat} {L : SL} {w : World} {i : Nat} {c : Code} {K : Value → World → Prop}

def runK (P : Program) (n : Nat) (ops : Array Oper) (is ks : List Nat) (L : SL) (w : World) : Option (SL × World) := (runP P n ops is L w).map fun p => (keep ks p.1, p.2)
theorem WR.runk (is rest ks : List Nat) {L' : SL} {w' : World} (h : runK P n ops is ks L w = some (L', w')) (hh : WR P ops Q n rest L' w') : WR P ops Q n (is ++ rest) L w := by
  unfold runK at h
  cases hr : runP P n ops is L w with
  | none => simp [hr] at h
  | some p =>
    simp only [hr, Option.map_some, Option.some.injEq, Prod.mk.injEq] at h
    obtain ⟨h1, h2⟩ := h
    exact WR.run is (L' := p.1) (w' := p.2) hr (h2 ▸ WR.weaken ks h1 hh)
theorem WC.reg (is : List Nat) (h : isReg c = true) (he : List.range (cops c).size = is) (hh : WR P (cops c) Q n is L w) : WC P c Q n L w := WC.region h (he ▸ hh)
theorem WR.split (t : Nat) {b : Bool} (h : lk L t = some (.bool b)) (ht : b = true → WR P ops Q n is ((t, .bool true) :: L) w) (hf : b = false → WR P ops Q n is ((t, .bool false) :: L) w) : WR P ops Q n is L w := by
  cases b with
  | true => exact fun T hT => ht rfl T (hT.know h rfl)
  | false => exact fun T hT => hf rfl T (hT.know h rfl)
theorem WC.condT (h : isCond c = true) (hb : coversX L (ctest c) = true) (hv : rho L (ctest c) = .bool true) (hh : WC P (cthen c) Q n L w) : WC P c Q n L w :=
  WC.cond h true (by simp [hb]) hv (fun _ => hh) (fun e => by cases e)
theorem WC.condF (h : isCond c = true) (hb : coversX L (ctest c) = true) (hv : rho L (ctest c) = .bool false) (hh : WC P (celse c) Q n L w) : WC P c Q n L w :=
  WC.cond h false (by simp [hb]) hv (fun e => by cases e) (fun _ => hh)
/-- a new block -/
theorem St.box {H0 : Rf} {cs : List HP} (hS : Sat w H0 cs) (hrd : ready n ops L i = true) (o : Obj) (f : Nat → Value) (hr : ∀ w, (execOp (rho L) (opAt ops i)).run P w = .ok (.value (f w.heap.size)) (w.alloc o))
    (hh : ∀ b w', Sat w' H0 (pts b o :: cs) → K (f b) w') : St P n ops L i w K := St.val hrd (hr w) (hh _ _ (hS.alloc o))
theorem hp_freeze {g k m : Nat} {cur : Array Value} {e : TypeId} (h : hp w g = some (.cells cur e (0, 0))) (hm : m ≠ 0) : hp (w.freeze ⟨g, k, none⟩ m) g = some (.cells cur e (k, k + m)) := by
  have h' : w.heap[g]? = some (.cells cur e (0, 0)) := h
  show (w.freeze ⟨g, k, none⟩ m).heap[g]? = _
  simp only [World.freeze, hm, if_false, Array.getElem?_modify, if_true, h', Option.map_some]
  simp
theorem hp_freeze_ne {g k m b : Nat} (h : b ≠ g) : hp (w.freeze ⟨g, k, none⟩ m) b = hp w b := by
  show (w.freeze ⟨g, k, none⟩ m).heap[b]? = w.heap[b]?
  unfold World.freeze
  split
  · rfl
  · simp only [Array.getElem?_modify]; rw [if_neg (Ne.symm h)]
/-- []byte("..") of a constant: the block is marked behind its end -/
theorem St.mark {H0 : Rf} {bs : List HP} {t e : TypeId} (x : Operand) (hop : (opAt ops i).op = .convert t t x) (hrd : ready n ops L i = true) (hu : P.underlying t = some (.slice e)) (he : P.underlying e = some (.int .u8)) {b m cp : Nat} {cur : Array Value}
    (hS : Sat w H0 (pts b (.cells cur e (0, 0)) :: bs)) (hx : rho L x = .slice (some ⟨b, 0, none⟩) m cp)
    (hh : ∀ w', Sat w' H0 (pts b (.cells cur e (cur.size, cur.size + 1)) :: bs) → K (.slice (some ⟨b, 0, none⟩) m cp) w') : St P n ops L i w K := by
  obtain ⟨M, hM, _, hm⟩ := Sat.read [] bs hS
  have hb : hp w b = some (.cells cur e (0, 0)) := hM b _ hm
  have hb' : w.heap[b]? = some (.cells cur e (0, 0)) := hb
  refine St.val hrd (w' := w.freeze ⟨b, cur.size, none⟩ 1) ?_ (hh _ ?_)
  · simp only [execOp, hop, hx]
    have : (convert t t (.slice (some ⟨b, 0, none⟩) m cp)).run P w = .ok (.slice (some ⟨b, 0, none⟩) m cp) (w.freeze ⟨b, cur.size, none⟩ 1) := by
      simp [convert, run_underlying hu, run_underlying he, markStringish, shape, freeze, Sem.run, World.shape?, hb']
    simp [this]
  · refine Sat.upd [] bs (cs := [pts b (.cells cur e (0, 0))]) (cs' := [pts b (.cells cur e (cur.size, cur.size + 1))]) hS ⟨rfl, rfl, rfl⟩ (fun H1 _ hH1 hc => ?_)
    obtain ⟨J1, J2, _, hJ1, _, hc1, _⟩ := hc
    have hg : H1 b = some (.cells cur e (0, 0)) := hJ1 b _ hc1
    refine ⟨one b (.cells cur e (cur.size, cur.size + 1)), SepL.one (one_self _ _), ?_, ?_, ?_⟩
    · intro y o hy; obtain ⟨rfl, rfl⟩ := one_inv hy; exact hp_freeze hb (by decide)
    · intro y o hy; obtain ⟨rfl, rfl⟩ := one_inv hy; left; rw [hg]; exact fun h => by cases h
    · intro y o hy hn; rw [hp_freeze_ne]; · exact hy
      · rintro rfl; rw [hg] at hn; cases hn
theorem rdS_of_pts {α : Type} {H0 : Rf} (as bs : List HP) {e : TypeId} {fr : Nat × Nat} (R : List Value → α → Prop) (sz : Nat) {b : Nat} {cur : Array Value} (xs : List α) (h : Sat w H0 (as ++ [pts b (.cells cur e fr)] ++ bs)) (hl : xs.length ≤ maxLen) (hr : rdL R sz cur.toList xs) : rdS R sz (hp w) (some ⟨b, 0, none⟩) xs.length xs := by
  obtain ⟨M, hM, _, hm⟩ := Sat.read as bs h
  have h2 := hr.len
  refine ⟨Nat.le_refl _, hl, .inr ⟨rfl, cur, e, fr, hM b _ hm, ?_, ?_⟩⟩
  · simp at h2 ⊢; omega
  · simp only [List.drop_zero]; rw [← h2, List.take_length]; exact hr
theorem run_sub {α : Type} (x : Operand) (lo hi mx : Option Operand) {c : Nat} {xs ys : List α} {jl jh : Int} (hxc : xs.length ≤ c) (hv : sub? xs jl jh = some ys)
    (hlo : match lo.map (rho L) with | none => jl = 0 | some v => ∃ k, v = .int k jl) (hhi : match hi.map (rho L) with | none => jh = (xs.length : Int) ∧ mx = none | some v => ∃ k, v = .int k jh)
    (hmx : match mx.map (rho L) with | none => True | some v => ∃ k, v = .int k jh) :
    ∃ m, jh.toNat ≤ m ∧ m ≤ c ∧ ∀ w, (Instr.sliceBounds true xs.length c (lo.map (rho L)) (hi.map (rho L)) (mx.map (rho L))).run P w = .ok (jl.toNat, jh.toNat, m) w := by
  obtain ⟨h0, h1, h2, h3, h4⟩ := sub?_some hv
  have hjh : jh ≤ (c : Int) := by omega
  have hh0 : 0 ≤ jh := by omega
  cases mx with
  | none =>
    refine ⟨c, by omega, Nat.le_refl _, fun w => ?_⟩
    cases lo with
    | none =>
      simp only [Option.map_none] at hlo
      subst hlo
      cases hi with
      | none =>
        simp only [Option.map_none] at hhi
        obtain ⟨rfl, _⟩ := hhi
        simp [Instr.sliceBounds]
      | some hi =>
        simp only [Option.map_some] at hhi
        obtain ⟨k, e⟩ := hhi
        simp [Instr.sliceBounds, e, run_sliceBound hh0 hjh]
    | some lo =>
      simp only [Option.map_some] at hlo
      obtain ⟨k2, e2⟩ := hlo
      cases hi with
      | none =>
        simp only [Option.map_none] at hhi
        obtain ⟨rfl, _⟩ := hhi
        simp [Instr.sliceBounds, e2, run_sliceBound h0 h1]
      | some hi =>
        simp only [Option.map_some] at hhi
        obtain ⟨k, e⟩ := hhi
        simp [Instr.sliceBounds, e, e2, run_sliceBound hh0 hjh, run_sliceBound (w := w) (P := P) (y := jh.toNat) h0 (by omega)]
  | some mx =>
    refine ⟨jh.toNat, Nat.le_refl _, by omega, fun w => ?_⟩
    simp only [Option.map_some] at hmx
    obtain ⟨k3, e3⟩ := hmx
    cases hi with
    | none => simp only [Option.map_none] at hhi; exact absurd hhi.2 (by simp)
    | some hi =>
      simp only [Option.map_some] at hhi
      obtain ⟨k, e⟩ := hhi
      cases lo with
      | none =>
        simp only [Option.map_none] at hlo
        subst hlo
        simp [Instr.sliceBounds, e, e3, run_sliceBound hh0 hjh, run_sliceBound (w := w) (P := P) (y := jh.toNat) hh0 (by omega)]
      | some lo =>
        simp only [Option.map_some] at hlo
        obtain ⟨k2, e2⟩ := hlo
        simp [Instr.sliceBounds, e, e2, e3, run_sliceBound hh0 hjh, run_sliceBound (w := w) (P := P) (y := jh.toNat) hh0 (by omega), run_sliceBound (w := w) (P := P) (y := jh.toNat) h0 (by omega)]
theorem rdS.sub {α : Type} {R : List Value → α → Prop} {sz : Nat} {H : Heap} {A : Option Addr} {c : Nat} {xs ys : List α} {jl jh : Int} {m : Nat} (h : rdS R sz H A c xs) (hv : sub? xs jl jh = some ys) (h1 : jh.toNat ≤ m) (h2 : m ≤ c) :
    rdS R sz H (if m = jl.toNat then A else A.map (·.add (jl.toNat * sz))) (m - jl.toNat) ys := by
  obtain ⟨a0, a1, a2, rfl, a4⟩ := sub?_some hv
  exact h.part (by omega) (by omega) h1 h2
theorem Sat.sub {α : Type} {H0 : Rf} {bs : List HP} {e : TypeId} {R : List Value → α → Prop} {sz : Nat} {A : Option Addr} {c : Nat} {xs ys : List α} {jl jh : Int} {m : Nat} (h : Sat w H0 (osl e R sz A c xs :: bs)) (hv : sub? xs jl jh = some ys) (h1 : jh.toNat ≤ m) (h2 : m ≤ c) :
    Sat w H0 (osl e R sz (if m = jl.toNat then A else A.map (·.add (jl.toNat * sz))) (m - jl.toNat) ys :: bs) := by
  obtain ⟨a0, a1, a2, rfl, a4⟩ := sub?_some hv
  refine Sat.upd [] bs (cs := [osl e R sz A c xs]) (cs' := [osl e R sz (if m = jl.toNat then A else A.map (·.add (jl.toNat * sz))) (m - jl.toNat) ((xs.take jh.toNat).drop jl.toNat)]) h ⟨rfl, rfl, rfl⟩ (fun H1 _ hH1 hc => ⟨H1, ?_, hH1, (fun x o hx => .inl (by rw [hx]; exact fun h => by cases h)), fun x o hx _ => hx⟩)
  obtain ⟨J1, J2, _, hJ1, _, hc1, _⟩ := hc
  have := osl.part hc1 (lo := jl.toNat) (hi := jh.toNat) (m := m) (by omega) (by omega) h1 h2
  have h3 := SepL.one this
  exact h3.mono hJ1
end

/-! ### plain words -/
abbrev FU : Nat := 4611686018427387904
abbrev wi (n : Int) : Int := IntKind.wrap .i64 n
def iand (k : IntKind) (a b : Int) : Int := k.wrap (BitVec.toNat (BitVec.ofInt k.bits a &&& BitVec.ofInt k.bits b))
def ior (k : IntKind) (a b : Int) : Int := k.wrap (BitVec.toNat (BitVec.ofInt k.bits a ||| BitVec.ofInt k.bits b))
def ixor (k : IntKind) (a b : Int) : Int := k.wrap (BitVec.toNat (BitVec.ofInt k.bits a ^^^ BitVec.ofInt k.bits b))
def iandn (k : IntKind) (a b : Int) : Int := k.wrap (BitVec.toNat (BitVec.ofInt k.bits a &&& ~~~ BitVec.ofInt k.bits b))
def ishl (k : IntKind) (a b : Int) : Int := k.wrap (a * 2 ^ (min b.toNat k.bits))
def ishr (k : IntKind) (a b : Int) : Int := a.fdiv (2 ^ (min b.toNat k.bits))
def imin (a b : Int) : Int := if b < a then b else a
def imax (a b : Int) : Int := if b > a then b else a
theorem ite_t {α : Type} {c : Bool} {a b : Option α} {r : α} (h : (if c = true then a else b) = some r) (hc : c = true) : a = some r := by rw [if_pos hc] at h; exact h
theorem ite_f {α : Type} {c : Bool} {a b : Option α} {r : α} (h : (if c = true then a else b) = some r) (hc : c = false) : b = some r := by rw [if_neg (by rw [hc]; decide)] at h; exact h
theorem bind_ex {α β : Type} {o : Option α} {f : α → Option β} {r : β} (h : o.bind f = some r) : ∃ x, o = some x ∧ f x = some r := Option.bind_eq_some_iff.mp h
theorem pure_ex {α β : Type} {o : α} {f : α → Option β} {r : β} (h : (some o).bind f = some r) : f o = some r := h
def chk? (b : Bool) : Option Unit := if b = true then some () else none
theorem chk?_some {b : Bool} {u : Unit} (h : chk? b = some u) : b = true := by unfold chk? at h; split at h; · assumption
                                                                               · cases h

/-! ### for the printer -/
section
variable {P : Program} {n : Nat} {ops : Array Oper} {L : SL} {w : World} {i : Nat} {K : Value → World → Prop}
theorem split_at {cs : List HP} {j : Nat} {c : HP} (h : cs[j]? = some c) : cs = cs.take j ++ [c] ++ cs.drop (j + 1) := by
  have hj : j < cs.length := by
    rcases Nat.lt_or_ge j cs.length with h' | h'
    · exact h'
    · simp [List.getElem?_eq_none h'] at h
  have e : cs[j] = c := by simpa [List.getElem?_eq_getElem hj] using h
  rw [List.append_assoc, List.singleton_append, ← e, ← List.drop_eq_getElem_cons hj, List.take_append_drop]
theorem Sat.rdAt {α : Type} {H0 : Rf} {cs : List HP} (j : Nat) {e : TypeId} {R : List Value → α → Prop} {sz : Nat} {A : Option Addr} {c : Nat} {xs : List α} (h : Sat w H0 cs) (hj : cs[j]? = some (osl e R sz A c xs)) : Gol.rdS R sz (hp w) A c xs :=
  Sat.rdS _ _ (split_at hj ▸ h)
theorem Sat.ptsAt {α : Type} {H0 : Rf} {cs : List HP} (j : Nat) {e : TypeId} {fr : Nat × Nat} (R : List Value → α → Prop) (sz : Nat) {b : Nat} {cur : Array Value} (xs : List α) (h : Sat w H0 cs) (hj : cs[j]? = some (pts b (.cells cur e fr))) (hl : Nat.ble xs.length maxLen = true) (hr : rdL R sz cur.toList xs) :
    Gol.rdS R sz (hp w) (some ⟨b, 0, none⟩) xs.length xs := rdS_of_pts _ _ R sz xs (split_at hj ▸ h) (by simpa [Nat.ble_eq] using hl) hr
theorem rdS.nil {α : Type} (R : List Value → α → Prop) (sz : Nat) (H : Heap) : rdS R sz H none 0 [] := ⟨Nat.le_refl _, Nat.zero_le _, rfl⟩
theorem St.append' {α : Type} {t e : TypeId} {sz bytes : Nat} (s x : Operand) (hop : (opAt ops i).op = .call { callee := .builtin .append, args := #[s, x], argTypes := #[t, t] }) (hrd : ready n ops L i = true) (hE : ElemInfo P t e sz bytes)
    {H0 : Rf} {bs : List HP} {R : List Value → α → Prop} (hR1 : ∀ c x, R c x → ∀ v ∈ c, v.oneCell' = true)
    {A A2 : Option Addr} {c c2 : Nat} {xs ys zs : List α} (hS : Sat w H0 (osl e R sz A c xs :: bs)) (hs : rho L s = .slice A xs.length c) (hx : rho L x = .slice A2 ys.length c2) (hr : rdS R sz (hp w) A2 c2 ys)
    (lim : Nat) (hlim : Nat.ble (lim * bytes) 140737488355328 = true) (hlim2 : Nat.ble lim 140737488355328 = true) (hv : app? lim xs ys = some zs)
    (hh : ∀ A' c' w', Sat w' H0 (osl e R sz A' c' zs :: bs) → K (.slice A' zs.length c') w') : St P n ops L i w K :=
  St.append s x hop hrd hE [] bs hR1 hS hs hx hr lim (by simpa [Nat.ble_eq] using hlim) (by simpa [Nat.ble_eq] using hlim2) hv hh
theorem St.make' {α : Type} {t e : TypeId} {sz bytes : Nat} (l c : Operand) (hop : (opAt ops i).op = .makeSlice t l c) (hrd : ready n ops L i = true) (z : Value) (hE : P.underlying t = some (.slice e)) (hE2 : (P.info? e).map (fun i => (i.zero, i.size, i.bytes)) = some (some z, sz, bytes))
    {H0 : Rf} {cs : List HP} {R : List Value → α → Prop} {x0 : α} (hR : R z.cells.toList x0) (hz : Nat.beq z.cells.size sz = true) {k1 k2 : IntKind} {j : Int} {zs : List α} (hS : Sat w H0 cs)
    (hl : rho L l = .int k1 j) (hc : rho L c = .int k2 j) (lim : Nat) (hlim : Nat.ble (lim * bytes) 140737488355328 = true) (hlim2 : Nat.ble lim 140737488355328 = true) (hv : make? lim x0 j = some zs)
    (hh : ∀ A' c' w', Sat w' H0 (osl e R sz A' c' zs :: cs) → K (.slice A' zs.length c') w') : St P n ops L i w K :=
  St.make l c hop hrd z hE hE2 hR (beq_of hz) hS hl hc lim (by simpa [Nat.ble_eq] using hlim) (by simpa [Nat.ble_eq] using hlim2) hv hh
theorem St.storeElem' {α : Type} {t : TypeId} (a x : Operand) (hop : (opAt ops i).op = .store t a x) (hrd : ready n ops L i = true) (hsz : (sizeOf t).run P w = .ok 1 w) {H0 : Rf} {bs : List HP} {e : TypeId} {R : List Value → α → Prop} {A : Option Addr} {c : Nat} {xs ys : List α} {j : Int} {v : α} {u : Value}
    (hS : Sat w H0 (osl e R 1 A c xs :: bs)) (ha : rho L a = .pointer (some (adr A j.toNat 1))) (hx : rho L x = u) (h1 : u.oneCell' = true) (hv : set? xs j v = some ys) (hR : R [u] v)
    (hh : ∀ w', Sat w' H0 (osl e R 1 A c ys :: bs) → K undef w') : St P n ops L i w K :=
  St.storeElem a x hop hrd hsz [] bs hS ha hx h1 hv hR hh
theorem Sat.toOsl' {α : Type} {H0 : Rf} {bs : List HP} {e : TypeId} (R : List Value → α → Prop) (sz : Nat) {b : Nat} {cur : Array Value} (xs : List α) (h : Sat w H0 (pts b (.cells cur e (0, 0)) :: bs)) (hl : Nat.ble xs.length maxLen = true) (hr : rdL R sz cur.toList xs) :
    Sat w H0 (osl e R sz (some ⟨b, 0, none⟩) xs.length xs :: bs) := Sat.toOsl [] bs sz xs h (by simpa [Nat.ble_eq] using hl) hr
theorem set?_len {α : Type} {xs ys : List α} {i : Int} {x : α} (h : set? xs i x = some ys) : ys.length = xs.length := by obtain ⟨_, _, rfl⟩ := set?_some h; simp
/-- a part of a slice: what is known of the whole is known of it -/
structure SubT {α : Type} (sz : Nat) (A : Option Addr) (c : Nat) (xs : List α) (A' : Option Addr) (c' : Nat) (ys : List α) : Prop where
  rd : ∀ (R : List Value → α → Prop) (H : Heap), rdS R sz H A c xs → rdS R sz H A' c' ys
  sat : ∀ (w : World) (H0 : Rf) (bs : List HP) (e : TypeId) (R : List Value → α → Prop), Sat w H0 (osl e R sz A c xs :: bs) → Sat w H0 (osl e R sz A' c' ys :: bs)
/-- an operation that yields a value in all worlds; one that reads -/
def PSt (P : Program) (n : Nat) (ops : Array Oper) (L : SL) (i : Nat) (K : Value → Prop) : Prop := ready n ops L i = true ∧ ∃ v, (∀ w, (execOp (rho L) (opAt ops i)).run P w = .ok (.value v) w) ∧ K v
def RSt (P : Program) (n : Nat) (ops : Array Oper) (L : SL) (i : Nat) (w : World) (K : Value → Prop) : Prop := ready n ops L i = true ∧ ∃ v, (execOp (rho L) (opAt ops i)).run P w = .ok (.value v) w ∧ K v
variable {M : Value → Prop}
theorem St.ofP (h : PSt P n ops L i (fun v => K v w)) : St P n ops L i w K := let ⟨h1, v, hr, hk⟩ := h; St.val h1 (hr w) hk
theorem St.ofR (h : RSt P n ops L i w (fun v => K v w)) : St P n ops L i w K := let ⟨h1, v, hr, hk⟩ := h; St.val h1 hr hk
theorem RSt.run {v : Value} (h : RSt P n ops L i w (fun u => u = v)) : (execOp (rho L) (opAt ops i)).run P w = .ok (.value v) w := by
  obtain ⟨_, u, hr, rfl⟩ := h; exact hr
theorem PSt.idx {α : Type} {t e : TypeId} {sz bytes : Nat} (x ix : Operand) (hop : (opAt ops i).op = .indexAddr t x ix) (hrd : ready n ops L i = true) (hE : ElemInfo P t e sz bytes)
    {A : Option Addr} {c : Nat} {xs : List α} {R : List Value → α → Prop} {k : IntKind} {j : Int} {v : α} (hx : rho L x = .slice A xs.length c) (hi : rho L ix = .int k j) (hr : rdS R sz (hp w) A c xs) (hv : at? xs j = some v)
    (hh : M (.pointer (some (adr A j.toNat sz)))) : PSt P n ops L i M := by
  obtain ⟨h0, _, h2, h3⟩ := at?_some hv
  obtain ⟨hA, _⟩ := hr.cells h2
  refine ⟨hrd, _, fun w' => ?_, hh⟩
  simp only [execOp, hop, hx, hi]
  simp [run_indexAt hE hA h0 h3]
theorem PSt.sub {α : Type} {t e : TypeId} {sz bytes : Nat} (x : Operand) (lo hi mx : Option Operand) (hop : (opAt ops i).op = .slice t x lo hi mx) (hrd : ready n ops L i = true) (hE : ElemInfo P t e sz bytes)
    {A : Option Addr} {c : Nat} {xs ys : List α} {jl jh : Int} (hx : rho L x = .slice A xs.length c) (hxc : xs.length ≤ c) (hv : sub? xs jl jh = some ys)
    (hlo : match lo.map (rho L) with | none => jl = 0 | some v => ∃ k, v = .int k jl) (hhi : match hi.map (rho L) with | none => jh = (xs.length : Int) ∧ mx = none | some v => ∃ k, v = .int k jh)
    (hmx : match mx.map (rho L) with | none => True | some v => ∃ k, v = .int k jh)
    (hh : ∀ A' c', SubT sz A c xs A' c' ys → M (.slice A' ys.length c')) : PSt P n ops L i M := by
  obtain ⟨m, h1, h2, hb⟩ := run_sub (P := P) x lo hi mx hxc hv hlo hhi hmx
  refine ⟨hrd, .slice (if m = jl.toNat then A else A.map (·.add (jl.toNat * sz))) ys.length (m - jl.toNat), fun w' => ?_, hh _ _ ⟨fun _ _ h => h.sub hv h1 h2, fun _ _ _ _ _ h => h.sub hv h1 h2⟩⟩
  simp only [execOp, hop, hx]
  rw [(sub?_some hv).2.2.2.2]
  simp [run_sliceAt hE _ _ _ (hb w')]
theorem PSt.div {k : IntKind} {t t2 : TypeId} (q : BinOp) (hq : q = .quo ∨ q = .rem) (x y : Operand) (hop : (opAt ops i).op = .binOp q t x y t2) (hrd : ready n ops L i = true) {a b : Int} (hx : rho L x = .int k a) (hy : rho L y = .int k b) (hb : b ≠ 0)
    (hh : M (.int k (if q = .quo then k.wrap (a.tdiv b) else a.tmod b))) : PSt P n ops L i M := by
  refine ⟨hrd, _, fun w' => ?_, hh⟩
  rcases hq with rfl | rfl <;> simp [execOp, hop, hx, hy, eqGuard, binOp, Op.intDiv, hb]
theorem PSt.eqNil {t e : TypeId} (q : BinOp) (hq : q = .eql ∨ q = .neq) {t2 : TypeId} (x : Operand) (hop : (opAt ops i).op = .binOp q t x (.const (.slice none 0 0)) t2) (hrd : ready n ops L i = true) (hu : P.underlying t = some (.slice e))
    {A : Option Addr} {m c : Nat} (hx : rho L x = .slice A m c) (hh : M (.bool (if q = .eql then A.isNone else !A.isNone))) : PSt P n ops L i M := by
  refine ⟨hrd, _, fun w => ?_, hh⟩
  have hq' : (Op.equalIn Op.maxDepth t (.slice A m c) (.slice none 0 0)).run P w = .ok A.isNone w := by
    unfold Op.maxDepth
    unfold Op.equalIn
    cases A <;> simp [run_underlying hu]
  have hn : rho L (.const (.slice none 0 0)) = .slice none 0 0 := rfl
  rcases hq with rfl | rfl <;> simp [execOp, hop, hx, hn, eqGuard, binOp, Op.equal, hq']
theorem rdS.isNone {α : Type} {R : List Value → α → Prop} {sz : Nat} {H : Heap} {A : Option Addr} {c : Nat} {xs : List α} (h : rdS R sz H A c xs) (hA : A.isNone = true) : xs = [] := by
  obtain ⟨_, _, h3⟩ := h
  cases A with
  | none => exact h3
  | some a => cases hA
theorem PSt.shift {k k2 : IntKind} {t t2 : TypeId} (q : BinOp) (hq : q = .shl ∨ q = .shr) (x y : Operand) (hop : (opAt ops i).op = .binOp q t x y t2) (hrd : ready n ops L i = true) {a b : Int} (hx : rho L x = .int k a) (hy : rho L y = .int k2 b) (hb : 0 ≤ b)
    (hh : M (.int k (if q = .shl then k.wrap (a * 2 ^ (min b.toNat k.bits)) else a.fdiv (2 ^ (min b.toNat k.bits))))) : PSt P n ops L i M := by
  refine ⟨hrd, _, fun w' => ?_, hh⟩
  have hb' : ¬ b < 0 := by omega
  rcases hq with rfl | rfl <;> simp [execOp, hop, hx, hy, eqGuard, binOp, Op.shift, hb']
theorem RSt.load {t : TypeId} (x : Operand) (a : Addr) {v : Value} (hop : (opAt ops i).op = .load t x) (hrd : ready n ops L i = true) (hagg : (isAgg t).run P w = .ok false w) (hx : rho L x = .pointer (some a))
    (hc : w.cell? a = some v) (hh : M v) : RSt P n ops L i w M := by
  refine ⟨hrd, v, ?_, hh⟩
  simp only [execOp, hop, hx]
  simp [Instr.loadAt, Instr.sureAddr, run_loadVar hagg hc]
theorem RSt.loadInt {t : TypeId} {k : IntKind} (x : Operand) (hop : (opAt ops i).op = .load t x) (hrd : ready n ops L i = true) (hagg : (isAgg t).run P w = .ok false w)
    {A : Option Addr} {c : Nat} {xs : List Int} {j : Int} {v : Int} (hx : rho L x = .pointer (some (adr A j.toNat 1))) (hr : rdS (r0 (.int k)) 1 (hp w) A c xs) (hv : at? xs j = some v)
    (hh : M (.int k v)) : RSt P n ops L i w M := by
  obtain ⟨_, u, hR, hc⟩ := hr.cell1 (at?_some hv).2.2.1
  have e : [u] = [Value.int k v] := hR
  simp only [List.cons.injEq, and_true] at e
  subst e
  exact RSt.load x _ hop hrd hagg hx hc hh
theorem RSt.loadBool {t : TypeId} (x : Operand) (hop : (opAt ops i).op = .load t x) (hrd : ready n ops L i = true) (hagg : (isAgg t).run P w = .ok false w)
    {A : Option Addr} {c : Nat} {xs : List Bool} {j : Int} {v : Bool} (hx : rho L x = .pointer (some (adr A j.toNat 1))) (hr : rdS (r0 .bool) 1 (hp w) A c xs) (hv : at? xs j = some v)
    (hh : M (.bool v)) : RSt P n ops L i w M := by
  obtain ⟨_, u, hR, hc⟩ := hr.cell1 (at?_some hv).2.2.1
  have e : [u] = [Value.bool v] := hR
  simp only [List.cons.injEq, and_true] at e
  subst e
  exact RSt.load x _ hop hrd hagg hx hc hh
/-- an element that is itself a slice: out of a row that stays -/
theorem RSt.loadSl {t e : TypeId} {κ : Ki} {H : Heap} (x : Operand) (hop : (opAt ops i).op = .load t x) (hrd : ready n ops L i = true) (hagg : (isAgg t).run P w = .ok false w)
    {A : Option Addr} {c : Nat} {xs : List (List κ.T)} {j : Int} {v : List κ.T} (hx : rho L x = .pointer (some (adr A j.toNat 1))) (hr : rdS (rd H (.slice e κ)) 1 H A c xs) (hv : at? xs j = some v) (hs : Sub H (hp w))
    (hh : ∀ A' c', rdS (rd H κ) κ.sz H A' c' v → M (.slice A' v.length c')) : RSt P n ops L i w M := by
  obtain ⟨_, u, hR, hc⟩ := (hr.up hs).cell1 (at?_some hv).2.2.1
  obtain ⟨A', c', e1, h1⟩ := hR
  simp only [List.cons.injEq, and_true] at e1
  subst e1
  exact RSt.load x _ hop hrd hagg hx hc (hh A' c' h1)
theorem RSt.toStr {src dst e : TypeId} (x : Operand) (hop : (opAt ops i).op = .convert src dst x) (hrd : ready n ops L i = true) (hs : P.underlying src = some (.slice e)) (he : P.underlying e = some (.int .u8)) (hd : P.underlying dst = some .string)
    {A : Option Addr} {c : Nat} {xs : List Int} (hx : rho L x = .slice A xs.length c) (hr : rdS (r0 (.int .u8)) 1 (hp w) A c xs) (hh : M (.string (bs xs))) : RSt P n ops L i w M := by
  refine ⟨hrd, _, ?_, hh⟩
  simp only [execOp, hop, hx]
  simp [run_toStr hs he hd hr]

/-! ### regions that draw, for the printer -/
variable {Q : Exit → Act → World → Prop} {S : Fl} {done : List Nat} {f : Nat}
theorem WD.ofP (ht : takeB ops done i = true) (h : PSt P n ops L i (fun v => WD P ops Q n S f (done ++ [i]) (upd L (opAt ops i).dst v) w)) : WD P ops Q n S (f + 1) done L w :=
  let ⟨h1, _, hr, hk⟩ := h; WD.pure ht h1 hr hk
theorem WD.ofR (ht : takeB ops done i = true) (h : RSt P n ops L i w (fun v => WD P ops Q n ((i, fun w => (execOp (rho L) (opAt ops i)).run P w = .ok (.value v) w) :: S) f (done ++ [i]) (upd L (opAt ops i).dst v) w)) : WD P ops Q n S (f + 1) done L w :=
  let ⟨h1, _, hr, hk⟩ := h; WD.read ht h1 hr hk
theorem WD.weaken (is : List Nat) {L' : SL} (e : keep is L = L') (h : WD P ops Q n S f done L' w) : WD P ops Q n S f done L w := fun T hT => h T (e ▸ hT.keep is)
theorem WD.split (t : Nat) {b : Bool} (h : lk L t = some (.bool b)) (ht : b = true → WD P ops Q n S f done ((t, .bool true) :: L) w) (hf : b = false → WD P ops Q n S f done ((t, .bool false) :: L) w) : WD P ops Q n S f done L w := by
  cases b with
  | true => exact fun T hT => ht rfl T (hT.know h rfl)
  | false => exact fun T hT => hf rfl T (hT.know h rfl)
theorem WC.drawn {c : Code} (h : isDraw c = true) (hm : P.follows .mixedOrders = true) (m : Nat) (he : (cops c).size = m) (hh : ∀ w', (w'.heap = w.heap ∧ Alike' w w') → WD P (cops c) Q n [] m [] L w') : WC P c Q n L w := WC.draw h hm (he ▸ hh _ ⟨rfl, rfl, rfl, rfl⟩)
theorem asked.nil (j : Nat) (w : World) : asked .any ops [] j w := fun p h => by cases h
theorem asked.cons {p : Nat × (World → Prop)} {j : Nat} (h : p.2 w) (t : asked .any ops S j w) : asked .any ops (p :: S) j w := fun q hq ha => by
  rcases List.mem_cons.1 hq with rfl | hq
  · exact h
  · exact t q hq ha
theorem asked.anc {p : Nat × (World → Prop)} {j : Nat} (h : ancB .any ops ops.size j p.1 = true) (t : asked .any ops S j w) : asked .any ops (p :: S) j w := fun q hq ha => by
  rcases List.mem_cons.1 hq with rfl | hq
  · rw [h] at ha; cases ha
  · exact t q hq ha
end
end Go.Gol
