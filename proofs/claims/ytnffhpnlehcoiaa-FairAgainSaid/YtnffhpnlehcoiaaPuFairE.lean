/-
  Who is asked again tells the same; what is held or taken out is told no more: in plain words. No condition.
-/
import Derived.Test.YtnffhpnlehcoiaaPuFairB
import Derived.Test.YtnffhpnlehcoiaaGFairAgain
namespace Go.Proofs.Ytnffhpnlehcoiaa
open Go Go.Gol
set_option linter.unusedVariables false
set_option linter.unusedSimpArgs false
set_option linter.unnecessarySimpa false
set_option maxRecDepth 100000
namespace FairA
open Fair
theorem first_f : colophonlaw23_first.f = some true := by decide +kernel
theorem tmod_eq {a b : Int} (ha : 0 ≤ a) : Int.tmod a b = a % b := Int.tmod_eq_emod_of_nonneg ha
theorem at_d {l : List Int} {i : Nat} (h : i < l.length) : at? l (i : Int) = some (l.getD i 0) := by
  rw [at?_nat, List.getElem?_eq_getElem h]; simp [List.getD_eq_getElem?_getD, List.getElem?_eq_getElem h]
theorem getD_set_i {l : List Int} {i j : Nat} {x : Int} : (l.set i x).getD j 0 = if i = j ∧ j < l.length then x else l.getD j 0 := by
  simp only [List.getD_eq_getElem?_getD, List.getElem?_set]
  by_cases h : i = j
  · subst h
    by_cases h2 : i < l.length
    · simp [h2]
    · simp [h2]
  · simp [h]
/-- a line is told anew -/
theorem Inv.set {C C' q : Int} {L : List Line} {t : Nat} {o : Bool} (hI : Fair.Inv C q L t o) {s : Nat} {l' : Line} (hC : C ≤ C') (hC2 : C' ≤ 1000000) (h1 : l'.1 = (L.getD s l0).1) (h2 : l'.2.1 ≤ (L.getD s l0).2.1) (h3 : -C' ≤ l'.2.1) (h4 : l'.2.2.2.length ≤ 1000000) : Fair.Inv C' q (L.set s l') t o := by
  have hg : ∀ j, (L.set s l').getD j l0 = if s = j ∧ j < L.length then l' else L.getD j l0 := fun j => getD_set
  refine ⟨⟨hI.ok.q1, hI.ok.q2, by rw [List.length_set]; exact hI.ok.len, fun j => ?_, fun j hj => ?_, fun j => ?_⟩, by rw [List.length_set]; exact hI.ht, fun j hj => ?_, fun ho => ?_, fun j => ?_, ?_⟩
  · rw [hg]; split
    · exact h4
    · exact hI.ok.jobs j
  · rw [List.length_set] at hj
    rw [hg]; split
    · rename_i e; rw [h1, e.1]; exact hI.ok.wt j hj
    · exact hI.ok.wt j hj
  · have := hI.ok.cr j
    rw [hg]; split
    · rename_i e; rw [e.1] at h2; omega
    · exact this
  · have := hI.oth j hj
    rw [hg]; split
    · rename_i e; rw [e.1] at h2; omega
    · exact this
  · have := hI.opn ho
    rw [hg]; split
    · rename_i e; rw [e.1] at h2; omega
    · exact this
  · have := hI.low j
    rw [hg]; split
    · exact h3
    · omega
  · have := hI.top
    rw [hg]; split
    · rename_i e; rw [h1, e.1]; rw [e.1] at h2; omega
    · exact this
/-! ### lists of jobs of which the numbers are unlike -/
theorem spl {J : List Job} {i : Nat} {x : Job} (h : J[i]? = some x) : J = J.take i ++ x :: J.drop (i + 1) := by
  have hi : i < J.length := by
    rcases Nat.lt_or_ge i J.length with h' | h'
    · exact h'
    · rw [List.getElem?_eq_none h'] at h; cases h
  have e : J[i] = x := by rw [List.getElem?_eq_getElem hi] at h; exact Option.some.inj h
  rw [← e, ← List.drop_eq_getElem_cons hi, List.take_append_drop]
theorem nd_out {J : List Job} (hn : (J.map (·.1)).Nodup) {i : Nat} {x : Job} (h : J[i]? = some x) : ∀ y ∈ J.take i ++ J.drop (i + 1), y.1 ≠ x.1 := by
  rw [spl h, List.map_append, List.map_cons] at hn
  have h1 := List.nodup_append.1 hn
  have h2 := List.nodup_cons.1 h1.2.1
  intro y hy e
  rcases List.mem_append.1 hy with hy | hy
  · exact h1.2.2 y.1 (List.mem_map.2 ⟨y, hy, rfl⟩) x.1 List.mem_cons_self e
  · exact h2.1 (by rw [← e]; exact List.mem_map.2 ⟨y, hy, rfl⟩)
theorem mem_out {J : List Job} (hn : (J.map (·.1)).Nodup) {i : Nat} {x : Job} (h : J[i]? = some x) (y : Job) : y ∈ J.take i ++ J.drop (i + 1) ↔ y ∈ J ∧ y.1 ≠ x.1 := by
  constructor
  · intro hy
    refine ⟨?_, nd_out hn h y hy⟩
    rcases List.mem_append.1 hy with hy | hy
    · exact List.mem_of_mem_take hy
    · exact List.mem_of_mem_drop hy
  · rintro ⟨hy, hne⟩
    rw [spl h] at hy
    rcases List.mem_append.1 hy with hy | hy
    · exact List.mem_append_left _ hy
    · rcases List.mem_cons.1 hy with rfl | hy
      · exact absurd rfl hne
      · exact List.mem_append_right _ hy
theorem nd_out' {J : List Job} (hn : (J.map (·.1)).Nodup) {i : Nat} {x : Job} (h : J[i]? = some x) : ((J.take i ++ J.drop (i + 1)).map (·.1)).Nodup := by
  rw [spl h, List.map_append, List.map_cons] at hn
  have h1 := List.nodup_append.1 hn
  have h2 := List.nodup_cons.1 h1.2.1
  rw [List.map_append]
  exact List.nodup_append.2 ⟨h1.1, h2.2, fun a ha b hb => h1.2.2 a ha b (List.mem_cons_of_mem _ hb)⟩
theorem mem_set' {J : List Job} (hn : (J.map (·.1)).Nodup) {i : Nat} {x : Job} {b : Bool} (h : J[i]? = some x) (y : Job) : y ∈ J.set i (x.1, b) ↔ y = (x.1, b) ∨ (y ∈ J ∧ y.1 ≠ x.1) := by
  have hi : i < J.length := by
    rcases Nat.lt_or_ge i J.length with h' | h'
    · exact h'
    · rw [List.getElem?_eq_none h'] at h; cases h
  rw [← mem_out hn h, List.set_eq_take_append_cons_drop, if_pos hi]
  simp only [List.mem_append, List.mem_cons]
  constructor
  · rintro (h | h | h)
    · exact .inr (.inl h)
    · exact .inl h
    · exact .inr (.inr h)
  · rintro (h | h | h)
    · exact .inr (.inl h)
    · exact .inl h
    · exact .inr (.inr h)
theorem map_set' {J : List Job} {i : Nat} {x : Job} {b : Bool} (h : J[i]? = some x) : (J.set i (x.1, b)).map (·.1) = J.map (·.1) := by
  rw [List.map_set]
  apply List.ext_getElem?
  intro k
  rw [List.getElem?_set, List.getElem?_map]
  by_cases e : i = k
  · subst e
    rw [if_pos rfl, h]
    by_cases hl : i < (J.map (·.1)).length
    · rw [if_pos hl]; rfl
    · rw [List.getElem?_eq_none (by simpa using hl)] at h; cases h
  · rw [if_neg e]
/-- the ring and the law's own book -/
structure Ag (L : List Line) (G : List Int) : Prop where
  len : L.length = 3
  gl : G.length = 9
  nd : ∀ t, t < 3 → ((L.getD t l0).2.2.2.map (·.1)).Nodup
  own : ∀ t, t < 3 → ∀ j ∈ (L.getD t l0).2.2.2, 0 ≤ j.1 ∧ j.1 ≤ 8 ∧ j.1 % 3 = (t : Int) ∧ G.getD j.1.toNat 0 = if j.2 then 1 else 0
  all : ∀ id : Nat, id < 9 → G.getD id 0 ≠ 2 → ∃ b, ((id : Int), b) ∈ (L.getD (id % 3) l0).2.2.2
  val : ∀ id : Nat, id < 9 → G.getD id 0 = 0 ∨ G.getD id 0 = 1 ∨ G.getD id 0 = 2
theorem Ag.find {L : List Line} {G : List Int} (h : Ag L G) {id : Nat} (hid : id < 9) : (G.getD id 0 = 2 ∧ Fair.find (has (id : Int)) L = none) ∨ (G.getD id 0 ≠ 2 ∧ ∃ i b, Fair.find (has (id : Int)) L = some (id % 3, i) ∧ (L.getD (id % 3) l0).2.2.2[i]? = some ((id : Int), b)) := by
  cases hf : Fair.find (has (id : Int)) L with
  | none =>
    left
    refine ⟨?_, rfl⟩
    rcases h.val id hid with e | e | e
    · obtain ⟨b, hb⟩ := h.all id hid (by omega)
      have hl : id % 3 < L.length := by rw [h.len]; omega
      rw [getD_lt hl] at hb
      have := fix_none (find_none hf _ (List.getElem_mem hl)) _ hb
      simp [has] at this
    · obtain ⟨b, hb⟩ := h.all id hid (by omega)
      have hl : id % 3 < L.length := by rw [h.len]; omega
      rw [getD_lt hl] at hb
      have := fix_none (find_none hf _ (List.getElem_mem hl)) _ hb
      simp [has] at this
    · exact e
  | some x =>
    right
    obtain ⟨l, h1, h2, _⟩ := find_some hf
    obtain ⟨j, h3, h4, _⟩ := fix_some h2
    have hx : x.1 < L.length := by
      rcases Nat.lt_or_ge x.1 L.length with h' | h'
      · exact h'
      · rw [List.getElem?_eq_none h'] at h1; cases h1
    have hg : L.getD x.1 l0 = l := by rw [List.getD_eq_getElem?_getD, h1]; rfl
    have hj : j.1 = (id : Int) := by simpa [has] using h4
    have hm : j ∈ (L.getD x.1 l0).2.2.2 := by rw [hg]; exact List.mem_of_getElem? h3
    obtain ⟨o1, o2, o3, o4⟩ := h.own x.1 (by rw [h.len] at hx; exact hx) j hm
    rw [hj] at o3 o4
    have hs : x.1 = id % 3 := by omega
    rw [Int.toNat_natCast] at o4
    refine ⟨by rw [o4]; split <;> omega, x.2, j.2, by rw [← hs], ?_⟩
    rw [← hs, hg, h3]
    show some j = some ((id : Int), j.2)
    rw [← hj]
/-- one line's jobs are told anew, and the book with them -/
theorem Ag.put {L : List Line} {G : List Int} (h : Ag L G) {id : Nat} (hid : id < 9) {l' : Line} {v : Int} (hv : v = 0 ∨ v = 1 ∨ v = 2) (hn : (l'.2.2.2.map (·.1)).Nodup)
    (hm : ∀ y, y ∈ l'.2.2.2 ↔ (y ∈ (L.getD (id % 3) l0).2.2.2 ∧ y.1 ≠ (id : Int)) ∨ (v ≠ 2 ∧ y = ((id : Int), decide (v = 1)))) : Ag (L.set (id % 3) l') (G.set id v) := by
  have hg : ∀ t, (L.set (id % 3) l').getD t l0 = if id % 3 = t ∧ t < L.length then l' else L.getD t l0 := fun t => getD_set
  have hG : ∀ i, (G.set id v).getD i 0 = if id = i ∧ i < G.length then v else G.getD i 0 := fun i => getD_set_i
  have hlen := h.len
  have hgl := h.gl
  refine ⟨by rw [List.length_set]; exact h.len, by rw [List.length_set]; exact h.gl, fun t ht => ?_, fun t ht j hj => ?_, fun i hi hne => ?_, fun i hi => ?_⟩
  · rw [hg]; split
    · exact hn
    · exact h.nd t ht
  · rw [hG]
    rw [hg] at hj
    split at hj
    · rename_i e
      rcases (hm j).1 hj with ⟨h1, h2⟩ | ⟨h1, rfl⟩
      · rw [e.1] at h1
        obtain ⟨o1, o2, o3, o4⟩ := h.own t ht j h1
        rw [if_neg (by omega)]; exact ⟨o1, o2, o3, o4⟩
      · rw [Int.toNat_natCast, if_pos ⟨rfl, by omega⟩]
        refine ⟨by simp only []; omega, by simp only []; omega, by simp only []; omega, ?_⟩
        rcases hv with rfl | rfl | rfl
        · rfl
        · rfl
        · exact absurd rfl h1
    · rename_i e
      obtain ⟨o1, o2, o3, o4⟩ := h.own t ht j hj
      rw [if_neg (by omega)]; exact ⟨o1, o2, o3, o4⟩
  · rw [hG] at hne
    rw [hg]
    by_cases e : id = i
    · subst e
      rw [if_pos ⟨rfl, by omega⟩] at hne
      rw [if_pos ⟨rfl, by omega⟩]
      exact ⟨_, (hm _).2 (.inr ⟨hne, rfl⟩)⟩
    · rw [if_neg (fun q => e q.1)] at hne
      obtain ⟨b, hb⟩ := h.all i hi hne
      split
      · rename_i e2
        exact ⟨b, (hm _).2 (.inl ⟨by rw [e2.1]; exact hb, by simp only []; omega⟩)⟩
      · exact ⟨b, hb⟩
  · rw [hG]; split
    · exact hv
    · exact h.val i hi
/-- the same jobs in another order -/
theorem Ag.perm {L : List Line} {G : List Int} (h : Ag L G) {s : Nat} (hs : s < 3) {l' : Line} (hp : l'.2.2.2.Perm (L.getD s l0).2.2.2) : Ag (L.set s l') G := by
  have hg : ∀ t, (L.set s l').getD t l0 = if s = t ∧ t < L.length then l' else L.getD t l0 := fun t => getD_set
  refine ⟨by rw [List.length_set]; exact h.len, h.gl, fun t ht => ?_, fun t ht j hj => ?_, fun i hi hne => ?_, h.val⟩
  · rw [hg]; split
    · exact ((hp.map (·.1)).nodup_iff).2 (h.nd s hs)
    · exact h.nd t ht
  · rw [hg] at hj
    split at hj
    · rename_i e; rw [← e.1]; exact h.own s hs j (hp.mem_iff.1 hj)
    · exact h.own t ht j hj
  · obtain ⟨b, hb⟩ := h.all i hi hne
    rw [hg]; split
    · rename_i e; exact ⟨b, hp.mem_iff.2 (by rw [e.1]; exact hb)⟩
    · exact ⟨b, hb⟩
theorem Ag.same {L L' : List Line} {G : List Int} (h : Ag L G) (hl : L'.length = L.length) (hs : ∀ j, Fair.same (L.getD j l0) (L'.getD j l0)) : Ag L' G :=
  ⟨hl.trans h.len, h.gl, fun t ht => by rw [(hs t).2.2]; exact h.nd t ht, fun t ht => by rw [(hs t).2.2]; exact h.own t ht, fun i hi hne => by rw [(hs _).2.2]; exact h.all i hi hne, h.val⟩
theorem stay {q : Int} {L L' : List Line} {t t' : Nat} {o o' : Bool} (h : Fair.Steps q L t o L' t' o') (hs : stop (L.getD t l0) o = true) : L' = L ∧ t' = t ∧ o' = o := by
  cases h with
  | refl => exact ⟨rfl, rfl, rfl⟩
  | step h1 _ => rw [hs] at h1; cases h1
/-- what the ring remembers of who was told -/
structure Told (told told' : Int) (hh : Bool) (G : List Int) : Prop where
  no : hh = false → told = -1
  yes : hh = true → ∃ id : Nat, id < 9 ∧ told = (id : Int) ∧ told' = (id : Int) ∧ G.getD id 0 ≠ 2
theorem hold_ag {L : List Line} {G : List Int} (hA : Ag L G) {id : Nat} (hid : id < 9) {i : Nat} {b b' : Bool} (hf : Fair.find (has (id : Int)) L = some (id % 3, i)) (hj : (L.getD (id % 3) l0).2.2.2[i]? = some ((id : Int), b)) :
    Ag (L.set (id % 3) (holdJ (L.getD (id % 3) l0) i b')) (G.set id (if b' then 1 else 0)) := by
  have hn := hA.nd (id % 3) (by omega)
  have hgd : ((L.getD (id % 3) l0).2.2.2.getD i (0, false)).1 = (id : Int) := by rw [List.getD_eq_getElem?_getD, hj]; rfl
  have hJ : (holdJ (L.getD (id % 3) l0) i b').2.2.2 = (L.getD (id % 3) l0).2.2.2.set i ((id : Int), b') := by unfold holdJ; rw [hgd]
  refine hA.put hid (by cases b' <;> simp) ?_ (fun y => ?_)
  · rw [hJ]
    have := map_set' (b := b') hj
    simp only [] at this
    rw [this]; exact hn
  · rw [hJ]
    have := mem_set' (b := b') hn hj y
    simp only [] at this
    rw [this]
    cases b' <;> simp <;> constructor <;> (rintro (h | h) <;> first | exact .inr h | exact .inl h)
theorem take_ag {L : List Line} {G : List Int} (hA : Ag L G) {id : Nat} (hid : id < 9) {i : Nat} {b : Bool} (hj : (L.getD (id % 3) l0).2.2.2[i]? = some ((id : Int), b)) :
    Ag (L.set (id % 3) (outJ (L.getD (id % 3) l0) i)) (G.set id 2) := by
  have hn := hA.nd (id % 3) (by omega)
  refine hA.put hid (by simp) (nd_out' hn hj) (fun y => ?_)
  have := mem_out hn hj y
  show y ∈ (L.getD (id % 3) l0).2.2.2.take i ++ (L.getD (id % 3) l0).2.2.2.drop (i + 1) ↔ _
  rw [this]; simp
theorem gone_ag {L : List Line} {G : List Int} (hA : Ag L G) {id : Nat} (hid : id < 9) (h2 : G.getD id 0 = 2) : G.set id 2 = G := by
  apply List.ext_getElem?
  intro k
  rw [List.getElem?_set]
  by_cases e : id = k
  · subst e
    have hl : id < G.length := by rw [hA.gl]; exact hid
    rw [if_pos rfl, if_pos hl, ← h2, List.getD_eq_getElem?_getD, List.getElem?_eq_getElem hl]; rfl
  · rw [if_neg e]
theorem main (l : List Int) (hl : ∀ c ∈ l, 0 ≤ c ∧ c ≤ 255) {q : Int} : ∀ (μ k i : Nat) (L : List Line) (t : Nat) (o : Bool) (told told' : Int) (hh : Bool) (G : List Int), 100 - i = μ → μ < k → i ≤ 100 →
    Fair.Inv (3 * i) q L t o → Ag L G → Told told told' hh G → (∀ j, 0 ≤ (L.getD j l0).2.2.1 ∧ (L.getD j l0).2.2.1 ≤ 3 * i) →
    ∃ z, colophonlaw23_FairAgain.l2 l k told (i : Int) (rg q L (t : Int) o told' hh) G = some (.inl z) := by
  intro μ
  induction μ with
  | zero => intro k i L t o told told' hh G hm hk hi hI hA hT hsp; cases k with
    | zero => omega
    | succ k =>
      rw [colophonlaw23_FairAgain.l2]
      by_cases hil : i < l.length
      · rw [if_pos (by rw [decide_eq_true_eq]; omega), colophonlaw23_FairAgain.j1, at?_nat, List.getElem?_eq_getElem hil, Option.bind_some, if_pos (by rw [decide_eq_true_eq]; omega), Option.bind_some]; exact ⟨_, rfl⟩
      · rw [if_neg (by rw [decide_eq_true_eq]; omega)]; exact ⟨_, rfl⟩
  | succ μ ih => intro k i L t o told told' hh G hm hk hi hI hA hT hsp; cases k with
    | zero => omega
    | succ k =>
      rw [colophonlaw23_FairAgain.l2]
      by_cases hil : ¬ i < l.length
      · rw [if_neg (by rw [decide_eq_true_eq]; omega)]; exact ⟨_, rfl⟩
      replace hil : i < l.length := by omega
      have hv := hl _ (List.getElem_mem hil)
      generalize hve : l[i] = v at hv
      rw [if_pos (by rw [decide_eq_true_eq]; omega), wi_eq (n := (i : Int) + 1) (by omega) (by omega), show ((i : Int) + 1) = ((i + 1 : Nat) : Int) by omega]
      -- the state behind the two questions
      have key : ∃ (L' : List Line) (t' : Nat) (o' : Bool) (told2 told2' : Int) (hh' c : Bool) (r : Int × Int),
          fair_Ring_Next.f (rg q L (t : Int) o told' hh) = some (r.1, r.2, c, rg q L' (t' : Int) o' told2' hh') ∧
          fair_Ring_Next.f (rg q L' (t' : Int) o' told2' hh') = some (r.1, r.2, c, rg q L' (t' : Int) o' told2' hh') ∧
          Fair.Inv (3 * i) q L' t' o' ∧ Ag L' G ∧ Told told2 told2' hh' G ∧ (∀ j, 0 ≤ (L'.getD j l0).2.2.1 ∧ (L'.getD j l0).2.2.1 ≤ 3 * i) ∧
          (c = true → ∃ id : Nat, id < 9 ∧ r.2 = (id : Int) ∧ r.1 = ((id % 3 : Nat) : Int) ∧ G.getD id 0 = 0) ∧ told2 = (if c then r.2 else told) := by
        by_cases hany : ∃ s, s < L.length ∧ (rdy (L.getD s l0)).isSome = true
        · obtain ⟨s, hs, hr⟩ := hany
          obtain ⟨L', t', o', m, s1, s2, s3, s4, s5⟩ := next_yes (told := told') (h := hh) (by omega) (by omega) hI hs hr
          have hA' : Ag L' G := hA.same s1.len s1.same
          obtain ⟨j, hj, hj2, _⟩ := fix_some s4
          have ht3 : t' < 3 := by have := s3.ht; rw [hA'.len] at this; exact this
          obtain ⟨o1, o2, o3, o4⟩ := hA'.own t' ht3 j (List.mem_of_getElem? hj)
          have hjd : ((L'.getD t' l0).2.2.2.getD m (0, false)).1 = j.1 := by rw [List.getD_eq_getElem?_getD, hj]; rfl
          rw [hjd] at s5
          obtain ⟨id, hid⟩ : ∃ id : Nat, j.1 = (id : Int) := ⟨j.1.toNat, by omega⟩
          have hheld : j.2 = false := by simpa using hj2
          rw [hheld, hid, Int.toNat_natCast] at o4
          have hst2 : (rdy (L'.getD t' l0)).isSome = true := by rw [s4]; rfl
          obtain ⟨L2, t2, o2', m2, u1, u2, u3, u4, u5⟩ := next_yes (told := j.1) (h := true) (by omega) (by omega) s3 s3.ht hst2
          obtain ⟨rfl, rfl, rfl⟩ := stay u1 s2
          rw [s4] at u4
          obtain rfl : m = m2 := by simpa using u4
          rw [hjd] at u5
          refine ⟨L2, t2, o2', j.1, j.1, true, true, ((t2 : Int), j.1), s5, u5, s3, hA', ⟨fun h => by (cases h), fun _ => ⟨id, by omega, hid, hid, by omega⟩⟩, fun x => by rw [(s1.same x).2.1]; exact hsp x, fun _ => ⟨id, by omega, hid, ?_, o4⟩, rfl⟩
          simp only []; omega
        · have hno : ∀ s, s < L.length → (rdy (L.getD s l0)).isSome = false := fun s hs => by
            cases h : (rdy (L.getD s l0)).isSome with
            | false => rfl
            | true => exact absurd ⟨s, hs, h⟩ hany
          have e := next_no (q := q) (t := (t : Int)) (o := o) (told := told') (h := hh) hI.ok.sm hno
          exact ⟨L, t, o, told, told', hh, false, (-1, -1), e, e, hI, hA, hT, hsp, fun h => by (cases h), rfl⟩
      obtain ⟨L', t', o', told2, told2', hh', c, r, e1, e2, hI', hA', hT', hsp', hc, htold⟩ := key
      have hj4 : colophonlaw23_FairAgain.j4 told (r.1, r.2, c, rg q L' (t' : Int) o' told2' hh') = some told2 := by
        unfold colophonlaw23_FairAgain.j4
        rw [htold]; cases c <;> rfl
      have hgl := hA'.gl
      have hj2 : ∃ z : Int × Int × Bool × Bool × Bool × Bool × Bool × Bool, colophonlaw23_FairAgain.j2 G (r.1, r.2, c, rg q L' (t' : Int) o' told2' hh') (r.1, r.2, c, rg q L' (t' : Int) o' told2' hh') = some (.inr z) := by
        unfold colophonlaw23_FairAgain.j2
        rw [if_neg (by simp), if_neg (by simp), if_neg (by simp)]
        cases hcc : c with
        | false => rw [if_neg (by simp)]; exact ⟨_, rfl⟩
        | true =>
          obtain ⟨id, hid, h1, h2, h3⟩ := hc hcc
          rw [if_pos rfl]
          simp only [h1, h2]
          rw [if_neg (by rw [decide_eq_true_eq]; omega), if_neg (by rw [decide_eq_true_eq]; omega), at_d (by omega), Option.bind_some, h3, if_neg (by simp), tmod_eq (by omega), if_neg (by simp)]
          exact ⟨_, rfl⟩
      obtain ⟨z, hz⟩ := hj2
      obtain ⟨jd, hjd⟩ : ∃ jd : Nat, wi (Int.tmod v 9) = (jd : Int) := ⟨(v % 9).toNat, by rw [tmod_eq hv.1, wi_eq (by omega) (by omega)]; omega⟩
      have hjd9 : jd < 9 := by rw [tmod_eq hv.1, wi_eq (by omega) (by omega)] at hjd; omega
      have hfin : ∀ (x : Int) (z' : Int × Int × Bool × Bool × Bool × Bool × Bool) L'' told'' told3 hh'' G' (hI2 : Fair.Inv (3 * ((i + 1 : Nat) : Int)) q L'' t' o') (hA2 : Ag L'' G') (hT2 : Told told3 told'' hh'' G') (hs2 : ∀ j, 0 ≤ (L''.getD j l0).2.2.1 ∧ (L''.getD j l0).2.2.1 ≤ 3 * ((i + 1 : Nat) : Int)), ∃ z, colophonlaw23_FairAgain.l2 l k told3 ((i + 1 : Nat) : Int) (rg q L'' (t' : Int) o' told'' hh'') G' = some (.inl z) := fun x z' L'' told'' told3 hh'' G' hI2 hA2 hT2 hs2 => ih k (i + 1) L'' t' o' told3 told'' hh'' G' (by omega) (by omega) (by omega) hI2 hA2 hT2 hs2
      have hup : ∀ {L'' : List Line}, Fair.Inv (3 * i) q L'' t' o' → Fair.Inv (3 * ((i + 1 : Nat) : Int)) q L'' t' o' := fun h => ⟨h.ok, h.ht, h.oth, h.opn, fun j => by have := h.low j; omega, h.top⟩
      have hsu : ∀ {L'' : List Line}, (∀ j, 0 ≤ (L''.getD j l0).2.2.1 ∧ (L''.getD j l0).2.2.1 ≤ 3 * i) → ∀ j, 0 ≤ (L''.getD j l0).2.2.1 ∧ (L''.getD j l0).2.2.1 ≤ 3 * ((i + 1 : Nat) : Int) := fun h j => by have := h j; omega
      have hset : ∀ {s : Nat} {l' : Line}, l'.1 = (L'.getD s l0).1 → l'.2.1 = (L'.getD s l0).2.1 → l'.2.2.1 = (L'.getD s l0).2.2.1 → l'.2.2.2.length ≤ 1000000 → Fair.Inv (3 * i) q (L'.set s l') t' o' ∧ ∀ j, 0 ≤ ((L'.set s l').getD j l0).2.2.1 ∧ ((L'.set s l').getD j l0).2.2.1 ≤ 3 * i := fun {s l'} a1 a2 a3 a4 => by
        have hlow := hI'.low s
        refine ⟨Inv.set hI' (Int.le_refl _) (by omega) a1 (by omega) (by omega) a4, fun j => ?_⟩
        rw [getD_set]; split
        · rw [a3]; exact hsp' s
        · exact hsp' j
      have hat : at? G (jd : Int) = some (G.getD jd 0) := at_d (by omega)
      have hstt : ∀ x, set? G (jd : Int) x = some (G.set jd x) := fun x => set?_nat x (by omega)
      have hTset : ∀ {x : Int}, (G.getD jd 0 ≠ 2 → x ≠ 2) → Told told2 told2' hh' (G.set jd x) := fun {x} hx => ⟨hT'.no, fun h => by
        obtain ⟨id, a1, a2, a3, a4⟩ := hT'.yes h
        refine ⟨id, a1, a2, a3, ?_⟩
        rw [getD_set_i]; split
        · rename_i e; exact hx (by rw [e.1]; exact a4)
        · exact a4⟩
      rw [colophonlaw23_FairAgain.j1, at?_nat, List.getElem?_eq_getElem hil, Option.bind_some, hve, if_neg (by rw [decide_eq_true_eq]; omega), e1, Option.bind_some, e2, Option.bind_some, hz, Option.bind_some]
      simp only []
      rw [hj4, Option.bind_some, hjd]
      have hjl : ∀ s, (L'.getD s l0).2.2.2.length ≤ 1000000 := hI'.ok.jobs
      by_cases hk0 : (Int.tmod (IntKind.wrap .u8 (Int.tdiv v 9)) 6 == 0) = true
      · rw [if_pos hk0, hat, Option.bind_some, hold_eq hI'.ok.sm, Option.bind_some]
        rcases hA'.find hjd9 with ⟨g2, hf⟩ | ⟨g2, m, b, hf, hj⟩
        · rw [hf]
          simp only []
          rw [g2, if_neg (by simp), Option.bind_some, Option.bind_some, hstt, Option.bind_some, Option.bind_some]
          simp only []
          rw [show imax 2 1 = 2 from rfl, gone_ag hA' hjd9 g2]
          exact hfin 0 ⟨0, 0, true, true, true, true, true⟩ _ _ _ _ _ (hup hI') hA' hT' (hsu hsp')
        · rw [hf]
          simp only []
          rw [if_neg (show ¬ (true != (G.getD jd 0 != 2)) = true by rw [show (G.getD jd 0 != 2) = true from by simpa using g2]; decide), Option.bind_some, Option.bind_some, hstt, Option.bind_some, Option.bind_some]
          simp only []
          have hv1 : imax (G.getD jd 0) 1 = 1 := by
            rcases hA'.val jd hjd9 with e | e | e
            · rw [e]; rfl
            · rw [e]; rfl
            · exact absurd e g2
          rw [hv1]
          have := hset (s := jd % 3) (l' := holdJ (L'.getD (jd % 3) l0) m true) rfl rfl rfl (by unfold holdJ; simp only [List.length_set]; exact hjl _)
          exact hfin 0 ⟨0, 0, true, true, true, true, true⟩ _ _ _ _ _ (hup this.1) (hold_ag hA' hjd9 hf hj (b' := true)) (hTset (fun _ => by decide)) (hsu this.2)
      rw [if_neg hk0]
      by_cases hk1 : (Int.tmod (IntKind.wrap .u8 (Int.tdiv v 9)) 6 == 1) = true
      · rw [if_pos hk1, hold_eq hI'.ok.sm, Option.bind_some, hat, Option.bind_some]
        rcases hA'.find hjd9 with ⟨g2, hf⟩ | ⟨g2, m, b, hf, hj⟩
        · rw [hf]
          simp only []
          rw [g2, if_neg (by simp), Option.bind_some]
          simp only []
          exact hfin 0 ⟨0, 0, true, true, true, true, true⟩ _ _ _ _ _ (hup hI') hA' hT' (hsu hsp')
        · rw [hf]
          simp only []
          have := hset (s := jd % 3) (l' := holdJ (L'.getD (jd % 3) l0) m false) rfl rfl rfl (by unfold holdJ; simp only [List.length_set]; exact hjl _)
          have hag := hold_ag hA' hjd9 hf hj (b' := false)
          by_cases g1 : G.getD jd 0 = 1
          · rw [if_pos (show (G.getD jd 0 == 1) = true by rw [g1]; rfl), Option.bind_some, hstt, Option.bind_some, Option.bind_some]
            simp only []
            exact hfin 0 ⟨0, 0, true, true, true, true, true⟩ _ _ _ _ _ (hup this.1) hag (hTset (fun _ => by decide)) (hsu this.2)
          · rw [if_neg (show ¬ (G.getD jd 0 == 1) = true by simpa using g1), Option.bind_some]
            simp only []
            have g0 : G.getD jd 0 = 0 := by rcases hA'.val jd hjd9 with e | e | e; exact e; exact absurd e g1; exact absurd e g2
            have hGe : G.set jd (if false = true then 1 else 0) = G := by
              apply List.ext_getElem?
              intro x
              rw [List.getElem?_set]
              by_cases e : jd = x
              · subst e
                have hlt : jd < G.length := by omega
                rw [if_pos rfl, if_pos hlt]
                rw [List.getD_eq_getElem?_getD, List.getElem?_eq_getElem hlt] at g0
                rw [List.getElem?_eq_getElem hlt]
                simpa using g0.symm
              · rw [if_neg e]
            rw [hGe] at hag
            exact hfin 0 ⟨0, 0, true, true, true, true, true⟩ _ _ _ _ _ (hup this.1) hag hT' (hsu this.2)
      rw [if_neg hk1]
      by_cases hk2 : (Int.tmod (IntKind.wrap .u8 (Int.tdiv v 9)) 6 == 2) = true
      · rw [if_pos hk2, hat, Option.bind_some, take_eq hI'.ok.sm, Option.bind_some]
        rcases hA'.find hjd9 with ⟨g2, hf⟩ | ⟨g2, m, b, hf, hj⟩
        · rw [hf]
          simp only []
          rw [g2, if_neg (by simp), Option.bind_some, hstt, Option.bind_some, gone_ag hA' hjd9 g2]
          have hne : (told2 == (jd : Int)) = false := by
            cases hhh : hh' with
            | false => have := hT'.no hhh; rw [this]; simp
            | true =>
              obtain ⟨id, a1, a2, a3, a4⟩ := hT'.yes hhh
              rw [a2]; simp; intro e; have e' : id = jd := by omega
              subst e'; exact a4 g2
          rw [hne]
          simp only [Bool.false_eq_true, if_false, ite_false, Option.bind_some]
          exact hfin 0 ⟨0, 0, true, true, true, true, true⟩ _ _ _ _ _ (hup hI') hA' hT' (hsu hsp')
        · rw [hf]
          simp only []
          rw [if_neg (show ¬ (true != (G.getD jd 0 != 2)) = true by rw [show (G.getD jd 0 != 2) = true from by simpa using g2]; decide), Option.bind_some, hstt, Option.bind_some]
          have := hset (s := jd % 3) (l' := outJ (L'.getD (jd % 3) l0) m) rfl rfl rfl (by unfold outJ; simp only [List.length_append, List.length_take, List.length_drop]; have := hjl (jd % 3); omega)
          have hag := take_ag hA' hjd9 hj
          by_cases hte : told2 = (jd : Int)
          · rw [if_pos (by simpa using hte), Option.bind_some]
            simp only []
            refine hfin 0 ⟨0, 0, true, true, true, true, true⟩ _ _ _ _ _ (hup this.1) hag ⟨fun _ => rfl, fun h => ?_⟩ (hsu this.2)
            exfalso
            by_cases h2 : (told2' == (jd : Int)) = true
            · rw [if_pos h2] at h; cases h
            · rw [if_neg h2] at h
              obtain ⟨id, a1, a2, a3, a4⟩ := hT'.yes h
              exact h2 (by rw [a3, ← a2, hte]; simp)
          · rw [if_neg (by simpa using hte), Option.bind_some]
            simp only []
            refine hfin 0 ⟨0, 0, true, true, true, true, true⟩ _ _ _ _ _ (hup this.1) hag ⟨fun h => ?_, fun h => ?_⟩ (hsu this.2)
            · by_cases h2 : (told2' == (jd : Int)) = true
              · cases hhh : hh' with
                | false => exact hT'.no hhh
                | true =>
                  obtain ⟨id, a1, a2, a3, a4⟩ := hT'.yes hhh
                  exact absurd (by rw [a2, ← a3]; simpa using h2) hte
              · rw [if_neg h2] at h; exact hT'.no h
            · by_cases h2 : (told2' == (jd : Int)) = true
              · rw [if_pos h2] at h; cases h
              · rw [if_neg h2] at h
                obtain ⟨id, a1, a2, a3, a4⟩ := hT'.yes h
                refine ⟨id, a1, a2, a3, ?_⟩
                rw [getD_set_i, if_neg (by rintro ⟨e, _⟩; subst e; exact hte a2)]
                exact a4
      rw [if_neg hk2]
      have hcc : 0 ≤ wi (Int.tmod v 4) ∧ wi (Int.tmod v 4) ≤ 3 := by rw [tmod_eq hv.1, wi_eq (by omega) (by omega)]; omega
      cases hhh : hh' with
      | false =>
        have ht := hT'.no hhh
        rw [charge_no, Option.bind_some]
        simp only []
        rw [ht, if_neg (by decide), Option.bind_some]
        simp only []
        exact hfin 0 ⟨0, 0, true, true, true, true, true⟩ _ _ _ _ _ (hup hI') hA' ⟨fun _ => rfl, fun h => by (cases h)⟩ (hsu hsp')
      | true =>
        obtain ⟨id, a1, a2, a3, a4⟩ := hT'.yes hhh
        rcases hA'.find a1 with ⟨g2, hf⟩ | ⟨g2, m, b, hf, hj⟩
        · exact absurd g2 a4
        · have hs3 : id % 3 < L'.length := by rw [hA'.len]; omega
          have hch := charge_eq (q := q) (L := L') (t := (t' : Int)) (o := o') (told := told2') (c := wi (Int.tmod v 4)) hI'.ok.sm hcc.1 hcc.2 (x := (id % 3, m)) (by rw [a3]; exact hf) (fun l hl => by
            obtain ⟨j, hj, rfl⟩ := List.getElem_of_mem hl
            have h1 := hI'.ok.cr j
            have h2 := hsp' j
            rw [getD_lt hj] at h1 h2
            omega)
          rw [hch, Option.bind_some]
          simp only []
          rw [a2, decide_eq_true (show ((id : Int)) ≥ 0 by omega), if_neg (by simp), Option.bind_some]
          simp only []
          have hlow := hI'.low (id % 3)
          have hml : m < (L'.getD (id % 3) l0).2.2.2.length := by
            rcases Nat.lt_or_ge m (L'.getD (id % 3) l0).2.2.2.length with h | h
            · exact h
            · rw [List.getElem?_eq_none h] at hj; cases hj
          have hlen : (chargeJ (L'.getD (id % 3) l0) m (wi (Int.tmod v 4))).2.2.2.length ≤ 1000000 := by
            have := hjl (id % 3)
            show ((L'.getD (id % 3) l0).2.2.2.take m ++ (L'.getD (id % 3) l0).2.2.2.drop (m + 1) ++ [(L'.getD (id % 3) l0).2.2.2.getD m (0, false)]).length ≤ _
            simp only [List.length_append, List.length_take, List.length_drop, List.length_cons, List.length_nil]; omega
          have hI2 := Inv.set (C' := 3 * ((i + 1 : Nat) : Int)) hI' (s := id % 3) (l' := chargeJ (L'.getD (id % 3) l0) m (wi (Int.tmod v 4))) (by omega) (by omega) rfl (by show (L'.getD (id % 3) l0).2.1 - _ ≤ _; omega) (by show _ ≤ (L'.getD (id % 3) l0).2.1 - _; omega) hlen
          have hp : (chargeJ (L'.getD (id % 3) l0) m (wi (Int.tmod v 4))).2.2.2.Perm (L'.getD (id % 3) l0).2.2.2 := by
            show ((L'.getD (id % 3) l0).2.2.2.take m ++ (L'.getD (id % 3) l0).2.2.2.drop (m + 1) ++ [(L'.getD (id % 3) l0).2.2.2.getD m (0, false)]).Perm _
            have hgd : (L'.getD (id % 3) l0).2.2.2.getD m (0, false) = ((id : Int), b) := by rw [List.getD_eq_getElem?_getD, hj]; rfl
            rw [hgd]
            conv => rhs; rw [spl hj]
            rw [List.append_assoc]
            refine List.Perm.append_left _ ?_
            exact List.perm_append_comm
          refine hfin 0 ⟨0, 0, true, true, true, true, true⟩ _ _ _ _ _ hI2 (hA'.perm (by omega) hp) ⟨fun _ => rfl, fun h => by (cases h)⟩ (fun j => ?_)
          have h1 := hsp' j
          have h2 := hsp' (id % 3)
          rw [getD_set]; split
          · show 0 ≤ (L'.getD (id % 3) l0).2.2.1 + wi (Int.tmod v 4) ∧ (L'.getD (id % 3) l0).2.2.1 + wi (Int.tmod v 4) ≤ _
            omega
          · omega
def L9 : List Line := [(1, 0, 0, [(0, false), (3, false), (6, false)]), (2, 0, 0, [(1, false), (4, false), (7, false)]), (3, 0, 0, [(2, false), (5, false), (8, false)])]
theorem add_step (l : List Int) (q : Int) (k i : Nat) (L L' : List Line) (hi : i < 9) (hS : Sm L) (hl : i % 3 < L.length) (hf : Fair.find (has (i : Int)) L = none) (he : L.set (i % 3) (addJ (L[i % 3]'hl) (i : Int)) = L') :
    colophonlaw23_FairAgain.l1 l (k + 1) (i : Int) (rg q L 2 false 0 false) = colophonlaw23_FairAgain.l1 l k ((i + 1 : Nat) : Int) (rg q L' 2 false 0 false) := by
  rw [colophonlaw23_FairAgain.l1, if_pos (by rw [decide_eq_true_eq]; omega), tmod_eq (by omega), show (i : Int) % 3 = ((i % 3 : Nat) : Int) by omega, add_eq hS hl, hf, Option.bind_some, wi_eq (by omega) (by omega), ← he]; rfl
theorem sm_of {L : List Line} (h1 : L.length = 3) (h2 : ∀ l ∈ L, l.2.2.2.length ≤ 3) : Sm L := ⟨by omega, fun l hl => by have := h2 l hl; omega⟩
def La (a b c : List Job) : List Line := [(1, 0, 0, a), (2, 0, 0, b), (3, 0, 0, c)]
theorem adds (l : List Int) (q : Int) : colophonlaw23_FairAgain.l1 l FU 0 (rg q [(1, 0, 0, []), (2, 0, 0, []), (3, 0, 0, [])] 2 false 0 false) = some (rg q L9 2 false 0 false) := by
  show colophonlaw23_FairAgain.l1 l (4611686018427387894 + 10) ((0 : Nat) : Int) (rg q (La [] [] []) 2 false 0 false) = _
  rw [add_step l q _ 0 _ (La [(0, false)] [] []) (by omega) (sm_of rfl (by decide)) (by decide) (by decide) rfl]
  rw [add_step l q _ 1 _ (La [(0, false)] [(1, false)] []) (by omega) (sm_of rfl (by decide)) (by decide) (by decide) rfl]
  rw [add_step l q _ 2 _ (La [(0, false)] [(1, false)] [(2, false)]) (by omega) (sm_of rfl (by decide)) (by decide) (by decide) rfl]
  rw [add_step l q _ 3 _ (La [(0, false), (3, false)] [(1, false)] [(2, false)]) (by omega) (sm_of rfl (by decide)) (by decide) (by decide) rfl]
  rw [add_step l q _ 4 _ (La [(0, false), (3, false)] [(1, false), (4, false)] [(2, false)]) (by omega) (sm_of rfl (by decide)) (by decide) (by decide) rfl]
  rw [add_step l q _ 5 _ (La [(0, false), (3, false)] [(1, false), (4, false)] [(2, false), (5, false)]) (by omega) (sm_of rfl (by decide)) (by decide) (by decide) rfl]
  rw [add_step l q _ 6 _ (La [(0, false), (3, false), (6, false)] [(1, false), (4, false)] [(2, false), (5, false)]) (by omega) (sm_of rfl (by decide)) (by decide) (by decide) rfl]
  rw [add_step l q _ 7 _ (La [(0, false), (3, false), (6, false)] [(1, false), (4, false), (7, false)] [(2, false), (5, false)]) (by omega) (sm_of rfl (by decide)) (by decide) (by decide) rfl]
  rw [add_step l q _ 8 _ (La [(0, false), (3, false), (6, false)] [(1, false), (4, false), (7, false)] [(2, false), (5, false), (8, false)]) (by omega) (sm_of rfl (by decide)) (by decide) (by decide) rfl]
  rw [colophonlaw23_FairAgain.l1, if_neg (by decide)]; rfl
end FairA
open Fair FairA
theorem pure_FairAgain (a0 : Int) (F0 : Fits (.int .i64) a0) (l1 : List Int) (F1 : Fits (.slice 5 (.int .u8)) l1) : colophonlaw23_FairAgain.f a0 l1 = some true := by
  have hl1 : ∀ c ∈ l1, 0 ≤ c ∧ c ≤ 255 := fun c hc => by have := fits_u8 (F1.2 c hc); omega
  unfold colophonlaw23_FairAgain.f
  rw [FairA.first_f, Option.bind_some, if_neg (by simp)]
  have hq0 : 0 ≤ IntKind.wrap .u64 a0 := by rw [wrap_u64_eq]; omega
  rw [FairA.tmod_eq hq0, wi_eq (n := IntKind.wrap .u64 a0 % 9) (by omega) (by omega), wi_eq (by omega) (by omega)]
  generalize hqe : 1 + IntKind.wrap .u64 a0 % 9 = q
  have hq : 1 ≤ q ∧ q ≤ 9 := by omega
  rw [new_eq (by omega) (fun w hw => by simp at hw; omega) (by simp), Option.bind_some, Option.bind_some]
  show (colophonlaw23_FairAgain.l1 l1 FU 0 (rg q [(1, 0, 0, []), (2, 0, 0, []), (3, 0, 0, [])] 2 false 0 false)).bind _ = _
  rw [FairA.adds, Option.bind_some]
  have hg : ∀ t, L9.getD t l0 = if t = 0 then (1, 0, 0, [(0, false), (3, false), (6, false)]) else if t = 1 then (2, 0, 0, [(1, false), (4, false), (7, false)]) else if t = 2 then (3, 0, 0, [(2, false), (5, false), (8, false)]) else l0 := fun t => by
    match t with
    | 0 => rfl
    | 1 => rfl
    | 2 => rfl
    | t + 3 => simp [L9, List.getD_eq_getElem?_getD]
  have hcr : ∀ t, (L9.getD t l0).2.1 = 0 := fun t => by rw [hg]; (repeat' split) <;> rfl
  have hI : Fair.Inv (3 * ((0 : Nat) : Int)) q L9 2 false := by
    refine ⟨⟨by omega, by omega, by decide, fun j => ?_, fun j hj => ?_, fun j => by rw [hcr]; omega⟩, by decide, fun j _ => by rw [hcr]; omega, fun _ => by rw [hcr]; omega, fun j => by rw [hcr]; omega, ?_⟩
    · rw [hg]; (repeat' split) <;> simp
    · have : j < 3 := hj
      rw [hg]; (repeat' split) <;> (first | (simp only []; omega) | omega)
    · rw [hcr, hg]; simp; omega
  have hA : Ag L9 (List.replicate 9 (0 : Int)) := by
    refine ⟨rfl, by simp, fun t ht => ?_, fun t ht j hj => ?_, fun id hid _ => ?_, fun id hid => ?_⟩
    · rw [hg]; (repeat' split) <;> decide
    · rw [hg] at hj
      have h0 : ∀ n : Nat, (List.replicate 9 (0 : Int)).getD n 0 = 0 := fun n => by
        rw [List.getD_eq_getElem?_getD, List.getElem?_replicate]; split <;> rfl
      rw [h0]
      (repeat' split at hj) <;> (simp at hj) <;> (first | (rcases hj with rfl | rfl | rfl <;> (subst_vars; simp)) | skip)
    · have : id = 0 ∨ id = 1 ∨ id = 2 ∨ id = 3 ∨ id = 4 ∨ id = 5 ∨ id = 6 ∨ id = 7 ∨ id = 8 := by omega
      refine ⟨false, ?_⟩
      rcases this with rfl | rfl | rfl | rfl | rfl | rfl | rfl | rfl | rfl <;> (rw [hg]; simp)
    · left; rw [List.getD_eq_getElem?_getD, List.getElem?_replicate]; split <;> rfl
  obtain ⟨z, e⟩ := FairA.main l1 hl1 100 FU 0 L9 2 false (-1) 0 false _ (by omega) (by show 100 < 4611686018427387904; omega) (by omega) hI hA ⟨fun _ => rfl, fun h => by (cases h)⟩ (fun j => by
    have : (L9.getD j l0).2.2.1 = 0 := by rw [hg]; (repeat' split) <;> rfl
    rw [this]; omega)
  rw [show ((0 : Nat) : Int) = 0 from rfl, show ((2 : Nat) : Int) = 2 from rfl] at e
  rw [e]; rfl
end Go.Proofs.Ytnffhpnlehcoiaa
