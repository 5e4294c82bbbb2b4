/-
  Operations that make or change memory, as steps of a walk.
-/
import Derived.Test.YtoonceaeaigkpaaGC
set_option linter.unusedVariables false
set_option linter.unusedSimpArgs false
namespace Go.Gol
open Go

theorem addr_add (g off k : Nat) : (⟨g, off, none⟩ : Addr).add k = ⟨g, off + k, none⟩ := by unfold Addr.add; split <;> simp_all
/-- all cells of what reads are one cell each -/
theorem rd_one {H : Heap} : ∀ (κ : Ki) (cs : List Value) (x : κ.T), rd H κ cs x → ∀ v ∈ cs, v.oneCell' = true
  | .int k, cs, x, h => by have h' : cs = _ := h; subst h'; intro v hv; simp at hv; subst hv; rfl
  | .bool, cs, x, h => by have h' : cs = _ := h; subst h'; intro v hv; simp at hv; subst hv; rfl
  | .str, cs, x, h => by have h' : cs = _ := h; subst h'; intro v hv; simp at hv; subst hv; rfl
  | .unit, cs, x, h => by have h' : cs = _ := h; subst h'; intro v hv; simp at hv
  | .pair a b, cs, x, h => by
    obtain ⟨c1, c2, rfl, _, h1, h2⟩ := h
    intro v hv
    rcases List.mem_append.1 hv with h | h
    · exact rd_one a _ _ h1 v h
    · exact rd_one b _ _ h2 v h
  | .slice _ κ, cs, x, h => by obtain ⟨A, c, rfl, _⟩ := h; intro v hv; simp at hv; subst hv; rfl
  | .ptr t κ, cs, x, h => by
    cases x with
    | none => have h' : cs = _ := h; subst h'; intro v hv; simp at hv; subst hv; rfl
    | some y => obtain ⟨b, cells, fr, rfl, _⟩ := h; intro v hv; simp at hv; subst hv; rfl
  | .arr m κ, cs, x, h => by
    obtain ⟨hm, css, rfl, hl, hs, hr⟩ := h
    intro v hv
    obtain ⟨c, hc, hvc⟩ := List.mem_flatten.1 hv
    obtain ⟨i, hi, rfl⟩ := List.getElem_of_mem hc
    exact rd_one κ _ _ (hr i _ _ (List.getElem?_eq_getElem hi) (List.getElem?_eq_getElem (hl ▸ hi))) v hvc
/-- how many cells a value has -/
theorem rd_len {H : Heap} : ∀ (κ : Ki) (cs : List Value) (x : κ.T), rd H κ cs x → cs.length = κ.sz
  | .int k, cs, x, h => by have h' : cs = _ := h; subst h'; rfl
  | .bool, cs, x, h => by have h' : cs = _ := h; subst h'; rfl
  | .str, cs, x, h => by have h' : cs = _ := h; subst h'; rfl
  | .unit, cs, x, h => by have h' : cs = _ := h; subst h'; rfl
  | .pair a b, cs, x, h => by
    obtain ⟨c1, c2, rfl, _, h1, h2⟩ := h
    simp [Ki.sz, rd_len a _ _ h1, rd_len b _ _ h2]
  | .slice _ κ, cs, x, h => by obtain ⟨A, c, rfl, _⟩ := h; rfl
  | .ptr t κ, cs, x, h => by
    cases x with
    | none => have h' : cs = _ := h; subst h'; rfl
    | some y => obtain ⟨b, cells, fr, rfl, _⟩ := h; rfl
  | .arr m κ, cs, x, h => by obtain ⟨hm, hr⟩ := h; rw [hr.len, hm]; rfl

section
variable {P : Program} {n : Nat} {ops : Array Oper} {L : SL} {w : World} {i : Nat} {K : Value → World → Prop}

theorem rdS.vals {α : Type} {R : List Value → α → Prop} {sz : Nat} {A : Option Addr} {c : Nat} {xs : List α} (h : rdS R sz (hp w) A c xs) :
    ∃ vals, rdL R sz vals xs ∧ (xs = [] ∧ A = none ∧ vals = [] ∨ ∃ a, A = some a ∧ ∀ k v, vals[k]? = some v → w.cell? (a.add k) = some v) := by
  obtain ⟨h1, h2, h3⟩ := h
  cases A with
  | none => simp only at h3; subst h3; exact ⟨[], rdL.nil _ _, .inl ⟨rfl, rfl, rfl⟩⟩
  | some a =>
    by_cases hc0 : c = 0
    · have : xs = [] := List.eq_nil_of_length_eq_zero (by omega)
      subst this
      exact ⟨[], rdL.nil _ _, .inr ⟨a, rfl, fun k v hv => by simp at hv⟩⟩
    obtain ⟨hs, cells, E, fr, hb, ho, hr⟩ := h3.resolve_left hc0
    refine ⟨_, hr, .inr ⟨a, rfl, fun k v hv => ?_⟩⟩
    rw [add_cell hs hb]
    rw [List.getElem?_take] at hv
    split at hv
    · rw [List.getElem?_drop, Array.getElem?_toList] at hv; exact hv
    · cases hv
theorem rdS.first {α : Type} {R : List Value → α → Prop} {sz : Nat} {A : Option Addr} {c : Nat} {xs : List α} (h : rdS R sz (hp w) A c xs) :
    ∃ vals, rdL R sz vals xs ∧ ∀ d, (Builtin.firstCells sz xs.length (.slice A xs.length c)).run P { w with drawn := d } = .ok vals.toArray { w with drawn := d } := by
  obtain ⟨vals, hr, h⟩ := h.vals
  refine ⟨vals, hr, fun d => ?_⟩
  rcases h with ⟨rfl, rfl, rfl⟩ | ⟨a, rfl, hc⟩
  · simp [Builtin.firstCells]
  · exact run_firstCells_some _ sz xs.length a _ c vals hr.len (fun j v hv => by simpa [World.cell?] using hc j v hv)

theorem hp_setRow {g : Nat} {cur cs : Array Value} {e : TypeId} (hg : w.heap[g]? = some (.cells cur e (0, 0))) : hp (w.setRow g cs) g = some (.cells cs e (0, 0)) := setRow_heap w g cur cs e (0, 0) hg
theorem hp_setRow_ne {g k : Nat} (cs : Array Value) (h : k ≠ g) : hp (w.setRow g cs) k = hp w k := setRow_other w g k cs h

set_option maxHeartbeats 1000000 in
/-- append: where there is room -/
theorem run_append_at {t ty e : TypeId} {sz bytes : Nat} (hE : ElemInfo P t e sz bytes) {g off m c k : Nat} {cur : Array Value} (hg : w.heap[g]? = some (.cells cur e (0, 0))) (x : Value) (news : List Value)
    (hlen : (Builtin.lenOf x).run P w = .ok k w) (hl : news.length = k * sz) (hnews : (Builtin.firstCells sz k x).run P w = .ok news.toArray w) (h1 : ∀ u ∈ news, u.oneCell' = true) (hroom : m + k ≤ c) (hfit : off + m * sz + news.length ≤ cur.size) (t2 : TypeId) (ht2 : (∃ e2, P.underlying t2 = some (.slice e2)) ∨ P.underlying t2 = some .string) :
    (Builtin.append_ #[t, t2] ty #[.slice (some ⟨g, off, none⟩) m c, x]).run P w =
      .ok (.slice (some ⟨g, off, none⟩) (m + k) c) (w.setRow g (cur.toList.take (off + m * sz) ++ news ++ cur.toList.drop (off + m * sz + news.length)).toArray) := by
  obtain ⟨hu, inf, z, hi, hz, hsz, hb, hc⟩ := hE
  have hst := run_storeCells_at P g (off + m * sz) e news 0 cur w hg (by simpa using hfit) h1
  simp only [Nat.add_zero] at hst
  subst hsz
  rcases ht2 with ⟨e2, hd⟩ | hd
  · simp [Builtin.append_, run_underlying hu, run_underlying hd, sizeOf, typeInfo, hi, hlen, hroom, hnews, addr_add, hst]
  · simp [Builtin.append_, run_underlying hu, run_underlying hd, sizeOf, typeInfo, hi, hlen, hroom, hnews, addr_add, hst]
set_option maxHeartbeats 1000000 in
theorem run_append_new {t ty e : TypeId} {sz bytes : Nat} (hE : ElemInfo P t e sz bytes) {A : Option Addr} {m c k : Nat} (x : Value) (olds news : List Value)
    (hlen : (Builtin.lenOf x).run P w = .ok k w) (hnews : (Builtin.firstCells sz k x).run P w.drew = .ok news.toArray w.drew) (holds : (Builtin.firstCells sz m (.slice A m c)).run P w.drew = .ok olds.toArray w.drew)
    (hg : c < m + k) (h63 : ((m + k : Nat) : Int) ≤ 9223372036854775807) (hfit : (m + k) * bytes ≤ 140737488355328) (t2 : TypeId) (ht2 : (∃ e2, P.underlying t2 = some (.slice e2)) ∨ P.underlying t2 = some .string) :
    ∃ z : Value, z.cells.size = sz ∧ (Builtin.append_ #[t, t2] ty #[.slice A m c, x]).run P w =
      .ok (.slice (some ⟨w.heap.size, 0, none⟩) (m + k) (grownCap w (m + k) c e)) (w.drew.alloc (.cells (olds.toArray ++ news.toArray ++ Builtin.zeroCells z.cells (grownCap w (m + k) c e - (m + k))) e)) := by
  obtain ⟨hu, inf, z, hi, hz, hsz, hb, hc⟩ := hE
  refine ⟨z, hc, ?_⟩
  subst hsz
  subst hb
  have hn : ¬ (m + k ≤ c) := by omega
  have h63' : ¬ (9223372036854775807 < ((m : Int) + (k : Int))) := by omega
  have h48' : ¬ (281474976710656 < Builtin.nextslicecap (m + k) c * inf.bytes) := by have := growslice_fits hg hfit; omega
  rcases ht2 with ⟨e2, hd⟩ | hd
  · simp [Builtin.append_, run_underlying hu, run_underlying hd, sizeOf, typeInfo, zeroValue, hi, hz, hlen, hn, h63', h48', Question.forced, hnews, holds, newRow, grownCap]
    congr 2
    apply Array.ext'
    simp [List.append_assoc]
  · simp [Builtin.append_, run_underlying hu, run_underlying hd, sizeOf, typeInfo, zeroValue, hi, hz, hlen, hn, h63', h48', Question.forced, hnews, holds, newRow, grownCap]
    congr 2
    apply Array.ext'
    simp [List.append_assoc]

set_option maxHeartbeats 2000000 in
/-- what append leaves, whatever the capacity -/
theorem run_append {α : Type} {t ty e : TypeId} {sz bytes : Nat} (hE : ElemInfo P t e sz bytes) {H0 : Rf} {as bs : List HP} {R : List Value → α → Prop} (hR1 : ∀ c x, R c x → ∀ v ∈ c, v.oneCell' = true)
    {A : Option Addr} {c : Nat} {xs ys zs : List α} (hS : Sat w H0 (as ++ [osl e R sz A c xs] ++ bs)) (x : Value) (news : List Value) (hnr : rdL R sz news ys)
    (hlen : (Builtin.lenOf x).run P w = .ok ys.length w) (hnews : ∀ d, (Builtin.firstCells sz ys.length x).run P { w with drawn := d } = .ok news.toArray { w with drawn := d })
    (lim : Nat) (hlim : lim * bytes ≤ 140737488355328) (hlim2 : lim ≤ 140737488355328) (hv : app? lim xs ys = some zs) (t2 : TypeId) (ht2 : (∃ e2, P.underlying t2 = some (.slice e2)) ∨ P.underlying t2 = some .string) :
    ∃ A' c' w', (Builtin.append_ #[t, t2] ty #[.slice A xs.length c, x]).run P w = .ok (.slice A' zs.length c') w' ∧ Sat w' H0 (as ++ [osl e R sz A' c' zs] ++ bs) := by
  obtain ⟨hle, rfl⟩ := app?_some hv
  have hzl : (xs ++ ys).length = xs.length + ys.length := by simp
  have hone : ∀ u ∈ news, u.oneCell' = true := by
    intro u hu
    obtain ⟨css, rfl, hcl, hcs, hcr⟩ := hnr
    obtain ⟨cc, hcc, hvc⟩ := List.mem_flatten.1 hu
    obtain ⟨j, hj, rfl⟩ := List.getElem_of_mem hcc
    exact hR1 _ _ (hcr j _ _ (List.getElem?_eq_getElem hj) (List.getElem?_eq_getElem (hcl ▸ hj))) u hvc
  have hd0 : ({ w with drawn := w.drawn } : World) = w := rfl
  have hn0 := hnews w.drawn
  rw [hd0] at hn0
  by_cases hroom : xs.length + ys.length ≤ c
  · -- room
    obtain ⟨K, hK, _, hk⟩ := Sat.read as bs hS
    cases A with
    | none =>
      obtain ⟨h1, h2, rfl, rfl⟩ := hk
      have hy : ys = [] := by cases ys with | nil => rfl | cons _ _ => simp at hroom
      subst hy
      have hnl : news = [] := by have := hnr.len; simpa using this
      subst hnl
      refine ⟨none, 0, w, ?_, hS⟩
      obtain ⟨hu, inf, z, hi, hz, hsz, hb, hc⟩ := hE
      subst hsz
      simp only [List.length_nil] at hlen hn0 ⊢
      rcases ht2 with ⟨e2, hd⟩ | hd
      · simp [Builtin.append_, run_underlying hu, run_underlying hd, sizeOf, typeInfo, hi, hlen, hn0]
      · simp [Builtin.append_, run_underlying hu, run_underlying hd, sizeOf, typeInfo, hi, hlen, hn0]
    | some a =>
      obtain ⟨h1, h2, g, off, cur, rfl, hg, ho, hr⟩ := hk
      have hgw : w.heap[g]? = some (.cells cur e (0, 0)) := hK g _ hg
      have hm1 : (xs.length + ys.length) * sz ≤ c * sz := Nat.mul_le_mul_right _ hroom
      rw [Nat.add_mul] at hm1
      have hfit : off + xs.length * sz + news.length ≤ cur.size := by rw [hnr.len]; omega
      have hrun := run_append_at (ty := ty) hE (off := off) (m := xs.length) (c := c) hgw x news hlen hnr.len hn0 hone hroom hfit t2 ht2
      refine ⟨some ⟨g, off, none⟩, c, _, by rw [hzl]; exact hrun, ?_⟩
      refine Sat.upd as bs hS ⟨rfl, rfl, rfl⟩ (fun H1 _ hH1 hc => ?_)
      obtain ⟨J1, J2, _, hJ1, _, hc1, _⟩ := hc
      obtain ⟨_, _, g', off', cur', ee, hg', _, _⟩ := hc1
      simp only [Option.some.injEq, Addr.mk.injEq] at ee
      obtain ⟨rfl, rfl, _⟩ := ee
      have hgd : H1 g = some (.cells cur' e (0, 0)) := hJ1 g _ hg'
      refine ⟨one g (.cells (cur.toList.take (off + xs.length * sz) ++ news ++ cur.toList.drop (off + xs.length * sz + news.length)).toArray e (0, 0)), SepL.one ?_, ?_, ?_, ?_⟩
      · refine ⟨by rw [hzl]; exact hroom, h2, g, off, _, rfl, one_self _ _, ?_, ?_⟩
        · simp; omega
        · have hA : (cur.toList.drop off).take (xs.length * sz) ++ news = ((List.take (off + xs.length * sz) cur.toList ++ news ++ List.drop (off + xs.length * sz + news.length) cur.toList).toArray.toList.drop off).take ((xs ++ ys).length * sz) := by
            have e1 : ((cur.toList.drop off).take (xs.length * sz)).length = xs.length * sz := by rw [hr.len]
            have e2 : List.drop off (List.take (off + xs.length * sz) cur.toList) = (cur.toList.drop off).take (xs.length * sz) := by
              rw [List.drop_take, Nat.add_sub_cancel_left]
            have e3 : off ≤ (List.take (off + xs.length * sz) cur.toList).length := by simp; omega
            simp only []
            rw [List.append_assoc, List.drop_append_of_le_length e3, e2, ← List.append_assoc]
            rw [hzl, Nat.add_mul, ← hnr.len]
            have e4 : xs.length * sz + news.length = ((cur.toList.drop off).take (xs.length * sz) ++ news).length := by rw [List.length_append, e1]
            rw [e4, List.take_left]
          rw [← hA]
          exact hr.append hnr
      · intro b o hb
        obtain ⟨rfl, rfl⟩ := one_inv hb
        exact hp_setRow hgw
      · intro b o hb
        obtain ⟨rfl, rfl⟩ := one_inv hb
        left; rw [hgd]; exact fun h => by cases h
      · intro b o hb hnone
        rw [hp_setRow_ne]
        · exact hb
        · rintro rfl; rw [hgd] at hnone; cases hnone
  · -- a new block
    obtain ⟨K, hK, _, hk⟩ := Sat.read as bs hS
    have hrd : rdS R sz (hp w) A c xs := (osl.read hk).mono hK (fun _ _ h => h)
    obtain ⟨olds, hor, hof⟩ := rdS.first (P := P) hrd
    obtain ⟨z, hz, hrun⟩ := run_append_new (ty := ty) hE (A := A) (m := xs.length) (c := c) x olds news hlen (hnews _) (hof _) (by omega) (by omega) (by
      have : (xs.length + ys.length) * bytes ≤ lim * bytes := Nat.mul_le_mul_right _ hle
      omega) t2 ht2
    refine ⟨some ⟨w.heap.size, 0, none⟩, _, _, by rw [hzl]; exact hrun, ?_⟩
    have hge := grownCap_ge w (xs.length + ys.length) c e
    have hcm := grownCap_le_maxLen w (xs.length + ys.length) c e (by simp only [maxLen]; omega)
    refine Sat.upd as bs hS ⟨rfl, rfl, rfl⟩ (fun H1 _ hH1 _ => ?_)
    refine ⟨one w.heap.size (.cells (olds.toArray ++ news.toArray ++ Builtin.zeroCells z.cells (grownCap w (xs.length + ys.length) c e - (xs.length + ys.length))) e (0, 0)), SepL.one ?_, ?_, ?_, ?_⟩
    · refine ⟨by rw [hzl]; exact hge, hcm, w.heap.size, 0, _, rfl, one_self _ _, ?_, ?_⟩
      · simp only [Array.size_append, List.size_toArray, size_zeroCells, hz, hor.len, hnr.len, ← Nat.add_mul, Nat.zero_add]
        refine Nat.mul_le_mul_right _ ?_
        omega
      · have e4 : (xs ++ ys).length * sz = (olds ++ news).length := by rw [hzl, Nat.add_mul, List.length_append, hor.len, hnr.len]
        simp only [Array.toList_append, List.drop_zero]
        rw [e4, List.take_left]
        exact hor.append hnr
    · intro b o hb
      obtain ⟨rfl, rfl⟩ := one_inv hb
      exact hp_new w.drew _
    · intro b o hb
      obtain ⟨rfl, rfl⟩ := one_inv hb
      right; exact hp_fresh w
    · intro b o hb _
      exact hp_alloc w.drew _ b o hb
/-- append(s, ys...) and append(s, y): s is the call's own -/
theorem St.append {α : Type} {t e : TypeId} {sz bytes : Nat} (s x : Operand) (hop : (opAt ops i).op = .call { callee := .builtin .append, args := #[s, x], argTypes := #[t, t] }) (hrd : ready n ops L i = true) (hE : ElemInfo P t e sz bytes)
    {H0 : Rf} (as bs : List HP) {R : List Value → α → Prop} (hR1 : ∀ c x, R c x → ∀ v ∈ c, v.oneCell' = true)
    {A A2 : Option Addr} {c c2 : Nat} {xs ys zs : List α} (hS : Sat w H0 (as ++ [osl e R sz A c xs] ++ bs)) (hs : rho L s = .slice A xs.length c) (hx : rho L x = .slice A2 ys.length c2) (hr : rdS R sz (hp w) A2 c2 ys)
    (lim : Nat) (hlim : lim * bytes ≤ 140737488355328) (hlim2 : lim ≤ 140737488355328) (hv : app? lim xs ys = some zs)
    (hh : ∀ A' c' w', Sat w' H0 (as ++ [osl e R sz A' c' zs] ++ bs) → K ((.slice A' zs.length c')) w') : St P n ops L i w K := by
  obtain ⟨news, hnr, hnews⟩ := rdS.first (P := P) hr
  obtain ⟨A', c', w', hrun, hS'⟩ := run_append (ty := (opAt ops i).type) hE hR1 hS (.slice A2 ys.length c2) news hnr (by simp [Builtin.lenOf]) hnews lim hlim hlim2 hv t (.inl ⟨_, hE.und⟩)
  refine St.val hrd ?_ (hh A' c' w' hS')
  simp only [execOp, hop, resolve, invoke, builtin, Sem.run_bind, Sem.run_pure, Result.andThen_ok, List.map_toArray, List.map_cons, List.map_nil, hs, hx, hrun]

theorem madeCells_flat (z : Array Value) (sz : Nat) (hz : z.size = sz) (m : Nat) : (madeCells z (m * sz)).toList = (List.replicate m z.toList).flatten := by
  apply List.ext_getElem?
  intro k
  subst hz
  have hl : (List.replicate m z.toList).flatten.length = m * z.size := by simp
  by_cases hk : k < m * z.size
  · have hpos : 0 < z.size := by
      rcases Nat.eq_zero_or_pos z.size with h | h
      · simp [h] at hk
      · exact h
    have hmod : k % z.size < z.size := Nat.mod_lt _ hpos
    have hdiv : k / z.size < m := Nat.div_lt_of_lt_mul (by rwa [Nat.mul_comm] at hk)
    have h1 : (madeCells z (m * z.size)).toList[k]? = some (z[k % z.size]!) := by simp [madeCells, hk]
    have hs : ∀ c ∈ List.replicate m z.toList, c.length = z.size := fun c hc => by rw [(List.mem_replicate.1 hc).2]; simp
    have hrl : rdL (fun c (_ : Unit) => c = z.toList) z.size (List.replicate m z.toList).flatten (List.replicate m ()) := by
      refine ⟨_, rfl, by simp, hs, fun j c x hc _ => ?_⟩
      rw [List.getElem?_replicate] at hc
      split at hc
      · simpa using hc.symm
      · cases hc
    obtain ⟨c, hc, hcl, rfl⟩ := hrl.at (i := k / z.size) (x := ()) (by rw [List.getElem?_replicate, if_pos hdiv])
    have h3 : (List.replicate m z.toList).flatten[k]? = z.toList[k % z.size]? := by
      have e : (List.take z.size (List.drop (k / z.size * z.size) (List.replicate m z.toList).flatten))[k % z.size]? = z.toList[k % z.size]? := by rw [hc]
      rw [List.getElem?_take, if_pos hmod, List.getElem?_drop, Nat.mul_comm, Nat.div_add_mod] at e
      exact e
    rw [h1, h3]
    simp [hmod]
  · rw [List.getElem?_eq_none (by simp [size_madeCells]; omega), List.getElem?_eq_none (by rw [hl]; omega)]

/-- make([]T, m) -/
theorem St.make {α : Type} {t e : TypeId} {sz bytes : Nat} (l c : Operand) (hop : (opAt ops i).op = .makeSlice t l c) (hrd : ready n ops L i = true) (z : Value) (hE : P.underlying t = some (.slice e)) (hE2 : (P.info? e).map (fun i => (i.zero, i.size, i.bytes)) = some (some z, sz, bytes))
    {H0 : Rf} {cs : List HP} {R : List Value → α → Prop} {x0 : α} (hR : R z.cells.toList x0) (hz : z.cells.size = sz) {k1 k2 : IntKind} {j : Int} {zs : List α} (hS : Sat w H0 cs)
    (hl : rho L l = .int k1 j) (hc : rho L c = .int k2 j) (lim : Nat) (hlim : lim * bytes ≤ 140737488355328) (hlim2 : lim ≤ 140737488355328) (hv : make? lim x0 j = some zs)
    (hh : ∀ A' c' w', Sat w' H0 (osl e R sz A' c' zs :: cs) → K ((.slice A' zs.length c')) w') : St P n ops L i w K := by
  obtain ⟨h0, h1, rfl⟩ := make?_some hv
  cases hi : P.info? e with
  | none => simp [hi] at hE2
  | some inf =>
    simp only [hi, Option.map_some, Option.some.injEq, Prod.mk.injEq] at hE2
    obtain ⟨hz0, hsz, hby⟩ := hE2
    subst hsz; subst hby
    have hj : j = (j.toNat : Int) := by omega
    have hb : (inf.bytes : Int) * j ≤ 281474976710656 := by
      rw [hj]
      have : inf.bytes * j.toNat ≤ inf.bytes * lim := Nat.mul_le_mul_left _ (by omega)
      have h2 : inf.bytes * lim = lim * inf.bytes := Nat.mul_comm _ _
      have h3 : (inf.bytes : Int) * (j.toNat : Int) = ((inf.bytes * j.toNat : Nat) : Int) := by simp
      rw [h3]; omega
    have hrun := run_make (P := P) w t e inf z hE hi hz0 k1 k2 j j h0 (Int.le_refl _) hb (by omega)
    refine St.val hrd (v := .slice (some ⟨w.heap.size, 0, none⟩) j.toNat j.toNat) (w' := w.alloc (.cells (madeCells z.cells (j.toNat * inf.size)) e)) ?_ ?_
    · simp only [execOp, hop, hl, hc]
      simp [hrun]
    · have hlen : (List.replicate j.toNat x0).length = j.toNat := by simp
      have := hh (some ⟨w.heap.size, 0, none⟩) j.toNat (w.alloc (.cells (madeCells z.cells (j.toNat * inf.size)) e)) ?_
      · rwa [hlen] at this
      · have h := hS.alloc (.cells (madeCells z.cells (j.toNat * inf.size)) e)
        refine Sat.upd [] cs (cs := [pts w.heap.size (.cells (madeCells z.cells (j.toNat * inf.size)) e)]) (cs' := [osl e R inf.size (some ⟨w.heap.size, 0, none⟩) j.toNat (List.replicate j.toNat x0)]) h ⟨rfl, rfl, rfl⟩ (fun H1 _ hH1 hc => ?_)
        obtain ⟨J1, J2, _, hJ1, _, hc1, _⟩ := hc
        refine ⟨H1, SepL.one ?_, hH1, (fun b o hb => .inl (by rw [hb]; exact fun h => by cases h)), fun b o hb _ => hb⟩
        refine ⟨by simp, by simp only [maxLen]; omega, w.heap.size, 0, _, rfl, hJ1 _ _ hc1, by simp [size_madeCells], ?_⟩
        simp only [hlen, List.drop_zero]
        refine ⟨List.replicate j.toNat z.cells.toList, ?_, by simp, fun c hc => by rw [(List.mem_replicate.1 hc).2]; simpa using hz, fun q c x hc hx => ?_⟩
        · rw [List.take_of_length_le (by simp [size_madeCells])]
          exact madeCells_flat z.cells inf.size hz j.toNat
        · rw [List.getElem?_replicate] at hc hx
          split at hc
          · rw [if_pos ‹_›] at hx; simp only [Option.some.injEq] at hc hx; subst hc; subst hx; exact hR
          · cases hc
end
end Go.Gol
