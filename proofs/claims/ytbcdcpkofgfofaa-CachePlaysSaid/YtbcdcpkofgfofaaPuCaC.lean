/-
  Caches in plain words: what Hold, Drop, Has and Stats do, and that the document's do the same. No condition.
-/
import Derived.Test.YtbcdcpkofgfofaaPuCaB
namespace Go.Proofs.Ytbcdcpkofgfofaa
open Go Go.Gol
set_option linter.unusedVariables false
set_option linter.unusedSimpArgs false
set_option maxRecDepth 100000
namespace Ca
open Crc Page Img
abbrev Ex := Int × List Int × Int
def es (c : Cx) : List Ex := c.2.1.map er
def prj (N1 : Int) (c : Cx) : Rx := (N1, c.2.1.map pr, c.2.2.1, c.2.2.2.1, c.2.2.2.2)
structure Inv (N K T : Nat) (c : Cx) : Prop where
  len : c.2.1.length = K
  k1 : 0 < K
  k2 : K ≤ 4096
  pg : PgOk c.1 N
  hh : ∃ h : Nat, c.2.2.1 = (h : Int) ∧ h < K
  ok : ∀ e ∈ es c, (e.1 = -1 ∧ e.2.2 = 0) ∨ (0 ≤ e.1 ∧ e.1 ≤ (N : Int) ∧ image_Image_Page.f c.1 e.1 = some (e.2.1, 0))
  hd : ∀ e ∈ es c, 0 ≤ e.2.2 ∧ e.2.2 ≤ (T : Int)
  un : ∀ (i j : Nat) (e g : Ex), (es c)[i]? = some e → (es c)[j]? = some g → e.1 = g.1 → 0 ≤ e.1 → i = j
  ha : 0 ≤ c.2.2.2.1 ∧ c.2.2.2.1 ≤ (T : Int)
  hb : 0 ≤ c.2.2.2.2 ∧ c.2.2.2.2 ≤ (T : Int)
theorem Inv.up {N K T : Nat} {c : Cx} (I : Inv N K T c) : Inv N K (T + 1) c :=
  ⟨I.len, I.k1, I.k2, I.pg, I.hh, I.ok, fun e he => ⟨(I.hd e he).1, by have := (I.hd e he).2; omega⟩, I.un, ⟨I.ha.1, by have := I.ha.2; omega⟩, ⟨I.hb.1, by have := I.hb.2; omega⟩⟩
theorem es_len (c : Cx) : (es c).length = c.2.1.length := List.length_map _
/-- one page is laid in a frame, or its frame is told anew -/
theorem Inv.put {N K T : Nat} {c c' : Cx} (I : Inv N K T c) (hm : c'.1 = c.1) (hl : c'.2.1.length = c.2.1.length) (hh : ∃ h : Nat, c'.2.2.1 = (h : Int) ∧ h < K) {i : Nat} {n hn : Int} {b : List Int} (he : es c' = (es c).set i (n, b, hn)) (h0 : 0 ≤ n) (h1 : n ≤ (N : Int)) (hp : image_Image_Page.f c.1 n = some (b, 0))
    (hn0 : 0 ≤ hn) (hn1 : hn ≤ ((T + 1 : Nat) : Int)) (hu : ∀ (j : Nat) (e : Ex), (es c)[j]? = some e → e.1 = n → j = i) (ha : 0 ≤ c'.2.2.2.1 ∧ c'.2.2.2.1 ≤ ((T + 1 : Nat) : Int)) (hb : 0 ≤ c'.2.2.2.2 ∧ c'.2.2.2.2 ≤ ((T + 1 : Nat) : Int)) : Inv N K (T + 1) c' := by
  refine ⟨hl.trans I.len, I.k1, I.k2, by rw [hm]; exact I.pg, hh, fun e hee => ?_, fun e hee => ?_, fun p q e g h2 h3 h4 h5 => ?_, ha, hb⟩
  · rw [he] at hee
    rw [hm]
    rcases List.mem_or_eq_of_mem_set hee with h | h
    · exact I.ok e h
    · rw [h]; exact .inr ⟨h0, h1, hp⟩
  · rw [he] at hee
    rcases List.mem_or_eq_of_mem_set hee with h | h
    · have := I.hd e h; omega
    · rw [h]; exact ⟨hn0, hn1⟩
  · rw [he, List.getElem?_set] at h2 h3
    by_cases p1 : i = p
    · by_cases q1 : i = q
      · omega
      · rw [if_neg q1] at h3
        rw [if_pos p1] at h2
        split at h2
        · obtain rfl := Option.some.inj h2
          have := hu q g h3 h4.symm
          omega
        · cases h2
    · rw [if_neg p1] at h2
      by_cases q1 : i = q
      · rw [if_pos q1] at h3
        split at h3
        · obtain rfl := Option.some.inj h3
          have := hu p e h2 h4
          omega
        · cases h3
      · rw [if_neg q1] at h3
        exact I.un p q e g h2 h3 h4 h5
theorem es_at {c : Cx} {i : Nat} {f : Fr} (h : c.2.1[i]? = some f) : (es c)[i]? = some (er f) := by unfold es; rw [List.getElem?_map, h]; rfl
theorem es_mem {c : Cx} {f : Fr} (h : f ∈ c.2.1) : er f ∈ es c := List.mem_map_of_mem h
theorem lt_of_get {α : Type} {l : List α} {i : Nat} {x : α} (h : l[i]? = some x) : i < l.length := by
  rcases Nat.lt_or_ge i l.length with q | q
  · exact q
  · rw [List.getElem?_eq_none q] at h; cases h
theorem mem_es {c : Cx} {e : Ex} (h : e ∈ es c) : ∃ f ∈ c.2.1, er f = e := List.mem_map.1 h
theorem at_spec {N K T : Nat} {c : Cx} (I : Inv N K T c) (n : Int) : (∃ i f, c.2.1[i]? = some f ∧ f.1 = n ∧ fidx (fun f => f.1 == n) c.2.1 0 = some i ∧ cache_Cache_at.f (some c) n = some (i : Int)) ∨ ((∀ f ∈ c.2.1, f.1 ≠ n) ∧ fidx (fun f => f.1 == n) c.2.1 0 = none ∧ cache_Cache_at.f (some c) n = some (-1)) := by
  have hk := I.k2
  have hl := I.len
  rw [at_f n c (by omega)]
  cases h : fidx (fun f : Fr => f.1 == n) c.2.1 0 with
  | some i =>
    obtain ⟨d, h1, f, h2, h3⟩ := fidx_some h
    exact .inl ⟨i, f, by rw [h1, Nat.zero_add]; exact h2, by simpa using h3, rfl, rfl⟩
  | none => exact .inr ⟨fun f hf => by have := fidx_none h f hf; simpa using this, rfl, rfl⟩
theorem rat_spec {N K T : Nat} {c : Cx} (I : Inv N K T c) (N1 n : Int) : colophonref07_Cache_at.f (some (prj N1 c)) n = some (atI (fidx (fun f => f.1 == n) c.2.1 0)) := rat_pr n N1 c.2.1 _ _ _ (by have := I.k2; have := I.len; omega)
theorem free_spec {N K T : Nat} {c : Cx} (I : Inv N K T c) :
    (∃ i f, c.2.1[i]? = some f ∧ f.1 = -1 ∧ fidx (fun f => f.1 == -1) c.2.1 0 = some i ∧ cache_Cache_free.f c = some ((i : Int), c)) ∨
    ((∀ f ∈ c.2.1, f.1 ≠ -1) ∧ fidx (fun f => f.1 == -1) c.2.1 0 = none ∧ (∀ f ∈ c.2.1, f.2.2.2 ≠ 0) ∧ cache_Cache_free.f c = some (-1, c)) ∨
    ((∀ f ∈ c.2.1, f.1 ≠ -1) ∧ fidx (fun f => f.1 == -1) c.2.1 0 = none ∧ ∃ (h s : Nat) (r : Nat × List Fr × Nat), c.2.2.1 = (h : Int) ∧ h < K ∧ s ≤ 2 * K ∧ clk s c.2.1 h = some r ∧ cache_Cache_free.f c = some ((r.1 : Int), (c.1, r.2.1, (r.2.2 : Int), c.2.2.2.1, c.2.2.2.2))) := by
  have hk := I.k2
  have hl := I.len
  unfold cache_Cache_free.f
  rcases at_spec I (-1) with ⟨i, f, h1, h2, h3, h4⟩ | ⟨h1, h2, h3⟩
  · left
    refine ⟨i, f, h1, h2, h3, ?_⟩
    rw [h4, Option.bind_some, if_pos (by rw [decide_eq_true_eq]; omega)]
  · right
    have hf := free_l1 c (by omega) c.2.1.length FU 0 (by omega) (by show c.2.1.length < 4611686018427387904; omega) (by omega)
    rw [show ((0 : Nat) : Int) = 0 from rfl, List.drop_zero] at hf
    rw [h3, Option.bind_some, if_neg (by decide), hf, Option.bind_some]
    cases hx : fidx (fun f : Fr => f.2.2.2 == 0) c.2.1 0 with
    | none =>
      left
      refine ⟨h1, h2, fun f hf' => by have := fidx_none hx f hf'; simpa using this, ?_⟩
      simp only []
      rw [if_pos (by decide)]
    | some j =>
      right
      obtain ⟨d, e1, f, e2, e3⟩ := fidx_some hx
      obtain ⟨h, hh1, hh2⟩ := I.hh
      have e3' : f.2.2.2 = 0 := by simpa using e3
      obtain ⟨s, r, g1, g2⟩ := clk_ex (fs := c.2.1) (h := h) (by omega) e2 (by omega)
      refine ⟨h1, h2, h, s, r, hh1, hh2, by omega, g2, ?_⟩
      have hsF : s ≤ FU := by
        show s ≤ 4611686018427387904; omega
      have hcl := clk_l cache_Cache_free.l2 (fun k q => rfl) c.1 c.2.2.2.1 c.2.2.2.2 s c.2.1 h r (by omega) (by omega) g2 FU hsF
      have hc : (c.1, c.2.1, (h : Int), c.2.2.2.1, c.2.2.2.2) = c := by rw [← hh1]
      rw [hc] at hcl
      simp only []
      rw [if_neg (by simp), hcl, Option.bind_some]
/-- what a Hold that comes to something does -/
def Put (c c' : Cx) (n : Int) (hit : Bool) : Prop := ∃ (i : Nat) (b : List Int) (hn : Int), i < c.2.1.length ∧ es c' = (es c).set i (n, b, hn) ∧
  ((hit = true ∧ (∃ e, (es c)[i]? = some e ∧ e.1 = n ∧ hn = e.2.2 + 1) ∧ c'.2.2.2.1 = c.2.2.2.1 + 1 ∧ c'.2.2.2.2 = c.2.2.2.2) ∨
   (hit = false ∧ hn = 1 ∧ (∀ e ∈ es c, e.1 ≠ n) ∧ (∃ e, (es c)[i]? = some e ∧ e.2.2 = 0 ∧ (e.1 = -1 ∨ ∀ g ∈ es c, g.1 ≠ -1)) ∧ c'.2.2.2.1 = c.2.2.2.1 ∧ c'.2.2.2.2 = c.2.2.2.2 + 1))
def Held (N K T : Nat) (c : Cx) (n : Int) (b : List Int) (hit : Bool) (e : Int) (c' : Cx) : Prop := Inv N K (T + 1) c' ∧ c'.1 = c.1 ∧
  ((e = 222 ∧ (n < 0 ∨ (N : Int) < n) ∧ b = [] ∧ hit = false ∧ c' = c) ∨
   (e = 70 ∧ 0 ≤ n ∧ n ≤ (N : Int) ∧ b = [] ∧ hit = false ∧ c' = c ∧ (∀ g ∈ es c, g.1 ≠ n) ∧ ∀ g ∈ es c, g.2.2 ≠ 0) ∨
   (e = 0 ∧ 0 ≤ n ∧ n ≤ (N : Int) ∧ b.length = 256 ∧ (0 < n → b[0]? = some n) ∧ Put c c' n hit))
theorem hold_spec {N K T : Nat} {c : Cx} (I : Inv N K T c) (hT : T ≤ 1000000) (hN : N ≤ 5000) (n : Int) :
    ∃ b hit e c', cache_Cache_Hold.f c n = some (b, hit, e, c') ∧ colophonref07_Cache_Hold.f (prj ((N : Int) + 1) c) n = some (hit, e, prj ((N : Int) + 1) c') ∧ Held N K T c n b hit e c' := by
  have hk := I.k2
  have hl := I.len
  have hk1 := I.k1
  obtain ⟨ha0, ha1⟩ := I.ha
  obtain ⟨hb0, hb1⟩ := I.hb
  by_cases hr : n < 0 ∨ (N : Int) < n
  · -- there is no such page
    have hpg := I.pg.2 n hr
    refine ⟨[], false, 222, c, ?_, ?_, I.up, rfl, .inl ⟨rfl, hr, rfl, rfl, rfl⟩⟩
    · unfold cache_Cache_Hold.f
      by_cases h0 : n ≥ 0
      · have hno : ∀ f ∈ c.2.1, f.1 ≠ n := fun f hf e => by
          rcases I.ok _ (es_mem hf) with ⟨q, _⟩ | ⟨q1, q2, _⟩
          · have : f.1 = -1 := q
            omega
          · have : f.1 ≤ (N : Int) := q2
            omega
        rcases at_spec I n with ⟨i, f, h1, h2, _⟩ | ⟨_, _, h3⟩
        · exact absurd h2 (hno f (List.mem_of_getElem? h1))
        · rw [if_pos (by rw [decide_eq_true_eq]; exact h0), h3, Option.bind_some, if_neg (by decide), hpg, Option.bind_some, if_pos (by decide)]
      · rw [if_neg (by rw [decide_eq_true_eq]; exact h0), hpg, Option.bind_some, if_pos (by decide)]
    · unfold colophonref07_Cache_Hold.f
      by_cases h0 : n < 0
      · rw [if_pos (by rw [decide_eq_true_eq]; exact h0)]
      · rw [if_neg (by rw [decide_eq_true_eq]; exact h0), if_pos (by rw [decide_eq_true_eq]; show n ≥ (N : Int) + 1; omega)]
  · have h0 : 0 ≤ n := by omega
    have h1 : n ≤ (N : Int) := by omega
    obtain ⟨b, hb, hbl, hbn⟩ := I.pg.1 n h0 h1
    have hcl : slices_Clone.f b = some b := clone_f b (by omega)
    have ref0 : ∀ {r : Bool × Int × Rx}, ((colophonref07_Cache_at.f (some (prj ((N : Int) + 1) c)) n).bind fun r5 => (if decide (r5 ≥ 0) then ((at? (c.2.1.map pr) r5).bind fun v15 => ((at? (List.set (c.2.1.map pr) r5.toNat (v15.1, wi (v15.2.1 + 1), v15.2.2)) r5).bind fun v19 => some (true, (0 : Int), (((N : Int) + 1, (List.set (List.set (c.2.1.map pr) r5.toNat (v15.1, wi (v15.2.1 + 1), v15.2.2)) r5.toNat (v19.1, v19.2.1, true)), c.2.2.1, wi (c.2.2.2.1 + 1), c.2.2.2.2) : Rx)))) else ((colophonref07_Cache_at.f (some (prj ((N : Int) + 1) c)) (-1)).bind fun r24 => (if decide (r24 < 0) then ((app? 5864062014805 (([] : List (Int × Int × Bool)) : List (Int × Int × Bool)) (c.2.1.map pr)).bind fun y37 => ((colophonref07_Cache_Hold.l1 y37 FU r24 0 (prj ((N : Int) + 1) c)).bind fun o78 => (if decide (o78.1 < 0) then some (false, 70, (o78.2.1, y37, c.2.2.1, o78.2.2.2.2.1, o78.2.2.2.2.2)) else ((at? o78.2.2.1 o78.1).bind fun v91 => ((set? o78.2.2.1 o78.1 (n, 1, true)).bind fun y93 => some (false, 0, (o78.2.1, y93, o78.2.2.2.1, o78.2.2.2.2.1, wi (o78.2.2.2.2.2 + 1)))))))) else ((at? (c.2.1.map pr) r24).bind fun v98 => ((set? (c.2.1.map pr) r24 (n, 1, true)).bind fun y100 => some (false, 0, (((N : Int) + 1, y100, c.2.2.1, c.2.2.2.1, wi (c.2.2.2.2 + 1)) : Rx)))))))) = some r → colophonref07_Cache_Hold.f (prj ((N : Int) + 1) c) n = some r := fun h => by
      unfold colophonref07_Cache_Hold.f
      rw [if_neg (by rw [decide_eq_true_eq]; omega), if_neg (by rw [decide_eq_true_eq]; show ¬ n ≥ (N : Int) + 1; omega)]
      exact h
    rcases at_spec I n with ⟨i, f, a1, a2, a3, a4⟩ | ⟨a1, a3, a4⟩
    · -- it is there
      have hil := lt_of_get a1
      have hfm : f ∈ c.2.1 := List.mem_of_getElem? a1
      have hfd := I.hd _ (es_mem hfm)
      have hfd1 : 0 ≤ f.2.2.2 := hfd.1
      have hfd2 : f.2.2.2 ≤ (T : Int) := hfd.2
      have hpf : image_Image_Page.f c.1 f.1 = some (f.2.1, 0) := by
        rcases I.ok _ (es_mem hfm) with ⟨q, _⟩ | ⟨_, _, q⟩
        · have : f.1 = -1 := q
          omega
        · exact q
      rw [a2, hb] at hpf
      have hbb : b = f.2.1 := congrArg (fun x => (x.getD ([], 0)).1) hpf
      have hat : at? c.2.1 (i : Int) = some f := by rw [at?_nat]; exact a1
      have hatr : at? (c.2.1.map pr) (i : Int) = some (pr f) := by rw [at?_nat, List.getElem?_map, a1]; rfl
      let c' : Cx := (c.1, c.2.1.set i (f.1, f.2.1, true, f.2.2.2 + 1), c.2.2.1, c.2.2.2.1 + 1, c.2.2.2.2)
      have hes : es c' = (es c).set i (n, b, f.2.2.2 + 1) := by
        show (c.2.1.set i (f.1, f.2.1, true, f.2.2.2 + 1)).map er = (c.2.1.map er).set i (n, b, f.2.2.2 + 1)
        rw [List.map_set, ← a2, hbb]; rfl
      refine ⟨b, true, 0, c', ?_, ref0 ?_, ?_, rfl, .inr (.inr ⟨rfl, h0, h1, hbl, hbn, i, b, f.2.2.2 + 1, hil, hes, .inl ⟨rfl, ⟨er f, es_at a1, a2, rfl⟩, rfl, rfl⟩⟩)⟩
      · unfold cache_Cache_Hold.f
        rw [if_pos (by rw [decide_eq_true_eq]; exact h0), a4, Option.bind_some, if_pos (by rw [decide_eq_true_eq]; omega), hat, Option.bind_some]
        simp only []
        rw [← hbb, hcl, Option.bind_some, Int.toNat_natCast, List.set_set, wi_eq (n := f.2.2.2 + 1) (by omega) (by omega), wi_eq (by omega) (by omega), hbb]
      · rw [rat_spec I, a3]
        show ((some ((i : Nat) : Int)).bind _) = _
        have hat2 : at? (List.set (c.2.1.map pr) i ((pr f).1, wi ((pr f).2.1 + 1), (pr f).2.2)) (i : Int) = some ((pr f).1, wi ((pr f).2.1 + 1), (pr f).2.2) := by
          rw [at?_nat, List.getElem?_set, if_pos rfl, if_pos (by rw [List.length_map]; exact hil)]
        rw [Option.bind_some, if_pos (by rw [decide_eq_true_eq]; omega), hatr, Option.bind_some, Int.toNat_natCast, hat2, Option.bind_some, List.set_set]
        show some (true, (0 : Int), (((N : Int) + 1, (c.2.1.map pr).set i (f.1, wi (f.2.2.2 + 1), true), c.2.2.1, wi (c.2.2.2.1 + 1), c.2.2.2.2) : Rx)) = some (true, 0, ((N : Int) + 1, (c.2.1.set i (f.1, f.2.1, true, f.2.2.2 + 1)).map pr, c.2.2.1, c.2.2.2.1 + 1, c.2.2.2.2))
        rw [wi_eq (n := f.2.2.2 + 1) (by omega) (by omega), wi_eq (by omega) (by omega), List.map_set]; rfl
      · refine I.put (c' := c') rfl (List.length_set) I.hh hes h0 h1 hb (by omega) (by omega) (fun j e g1 g2 => ?_) ⟨by show 0 ≤ c.2.2.2.1 + 1; omega, by show c.2.2.2.1 + 1 ≤ _; omega⟩ ⟨hb0, by show c.2.2.2.2 ≤ _; omega⟩
        exact (I.un j i e (er f) g1 (es_at a1) (by rw [g2]; exact a2.symm) (by omega))
    · -- it isn't
      have hno : ∀ e ∈ es c, e.1 ≠ n := fun e he => by
        obtain ⟨f, hf, rfl⟩ := mem_es he
        exact a1 f hf
      have hu : ∀ (j : Nat) (e : Ex) (i : Nat), (es c)[j]? = some e → e.1 = n → j = i := fun j e i g1 g2 => absurd g2 (hno e (List.mem_of_getElem? g1))
      have cache0 : ∀ {r : List Int × Bool × Int × Cx}, ((cache_Cache_free.f c).bind fun r59 => (if decide (r59.1 < 0) then some (([] : List Int), false, (70 : Int), r59.2) else ((at? r59.2.2.1 r59.1).bind fun v76 => ((slices_Clone.f b).bind fun r86 => some (r86, false, 0, (r59.2.1, (List.set r59.2.2.1 (r59.1).toNat (n, b, true, 1)), r59.2.2.2.1, r59.2.2.2.2.1, wi (r59.2.2.2.2.2 + 1))))))) = some r → cache_Cache_Hold.f c n = some r := fun h => by
        unfold cache_Cache_Hold.f
        rw [if_pos (by rw [decide_eq_true_eq]; exact h0), a4, Option.bind_some, if_neg (by decide), hb, Option.bind_some, if_neg (by simp)]
        exact h
      rcases free_spec I with ⟨i, f, f1, f2, f3, f4⟩ | ⟨f1, f2, f3, f4⟩ | ⟨f1, f2, h, s, r, f3, f4, f5, f6, f7⟩
      · -- an empty frame
        have hil := lt_of_get f1
        have hfm : f ∈ c.2.1 := List.mem_of_getElem? f1
        have hz : f.2.2.2 = 0 := by
          rcases I.ok _ (es_mem hfm) with ⟨_, q⟩ | ⟨q, _⟩
          · exact q
          · have : 0 ≤ f.1 := q
            omega
        let c' : Cx := (c.1, c.2.1.set i (n, b, true, 1), c.2.2.1, c.2.2.2.1, c.2.2.2.2 + 1)
        have hes : es c' = (es c).set i (n, b, 1) := by
          show (c.2.1.set i (n, b, true, 1)).map er = (c.2.1.map er).set i (n, b, 1)
          rw [List.map_set]; rfl
        refine ⟨b, false, 0, c', cache0 ?_, ref0 ?_, ?_, rfl, .inr (.inr ⟨rfl, h0, h1, hbl, hbn, i, b, 1, hil, hes, .inr ⟨rfl, rfl, hno, ⟨er f, es_at f1, hz, .inl f2⟩, rfl, rfl⟩⟩)⟩
        · rw [f4, Option.bind_some, if_neg (by rw [decide_eq_true_eq]; omega)]
          simp only []
          rw [at_nat hil, Option.bind_some, hcl, Option.bind_some, Int.toNat_natCast, wi_eq (by omega) (by omega)]
        · rw [rat_spec I, a3]
          show ((some (-1 : Int)).bind _) = _
          rw [Option.bind_some, if_neg (by decide), rat_spec I, f3]
          show ((some ((i : Nat) : Int)).bind _) = _
          rw [Option.bind_some, if_neg (by rw [decide_eq_true_eq]; omega), at_nat (by rw [List.length_map]; exact hil), Option.bind_some, set?_nat _ (by rw [List.length_map]; exact hil), Option.bind_some, wi_eq (by omega) (by omega)]
          show some (false, (0 : Int), (((N : Int) + 1, (c.2.1.map pr).set i (n, 1, true), c.2.2.1, c.2.2.2.1, c.2.2.2.2 + 1) : Rx)) = some (false, 0, ((N : Int) + 1, (c.2.1.set i (n, b, true, 1)).map pr, c.2.2.1, c.2.2.2.1, c.2.2.2.2 + 1))
          rw [List.map_set]; rfl
        · exact I.put (c' := c') rfl (List.length_set) I.hh hes h0 h1 hb (by omega) (by omega) (fun j e g1 g2 => hu j e i g1 g2) ⟨ha0, by show c.2.2.2.1 ≤ _; omega⟩ ⟨by show 0 ≤ c.2.2.2.2 + 1; omega, by show c.2.2.2.2 + 1 ≤ _; omega⟩
      · -- all are held
        obtain ⟨h, hh1, hh2⟩ := I.hh
        refine ⟨[], false, 70, c, cache0 ?_, ref0 ?_, I.up, rfl, .inr (.inl ⟨rfl, h0, h1, rfl, rfl, rfl, hno, fun g hg => ?_⟩)⟩
        · rw [f4, Option.bind_some, if_pos (by simp)]
        · rw [rat_spec I, a3]
          show ((some (-1 : Int)).bind _) = _
          rw [Option.bind_some, if_neg (by decide), rat_spec I, f2]
          show ((some (-1 : Int)).bind _) = _
          have hml : (c.2.1.map pr).length = K := by rw [List.length_map]; exact hl
          rw [Option.bind_some, if_pos (by decide), app?_eq (by rw [hml]; simp; omega), Option.bind_some, List.nil_append]
          have hsF : 2 * c.2.1.length < FU := by
            show 2 * c.2.1.length < 4611686018427387904; omega
          obtain ⟨h', g⟩ := ref_full (c.2.1.map pr) ((N : Int) + 1) c.2.2.2.1 c.2.2.2.2 c.2.1 (by omega) (by rw [hml, hl]) f3 (2 * c.2.1.length) 0 FU h (by omega) hsF (by omega)
          rw [show ((0 : Nat) : Int) = 0 from rfl, ← hh1] at g
          have g' : colophonref07_Cache_Hold.l1 (c.2.1.map pr) FU (-1) 0 (prj ((N : Int) + 1) c) = some (-1, ((N : Int) + 1, c.2.1.map pr, h', c.2.2.2.1, c.2.2.2.2)) := g
          rw [g', Option.bind_some, if_pos (by simp)]; rfl
        · obtain ⟨f, hf, rfl⟩ := mem_es hg
          exact f3 f hf
      · -- the hand comes to one
        obtain ⟨g1, g2, g3, g4, f, g5, g6, g7⟩ := clk_good s c.2.1 h r (by omega) (fun f hf => (I.hd _ (es_mem hf)).1) f6
        have hil : r.1 < r.2.1.length := by omega
        let c' : Cx := (c.1, r.2.1.set r.1 (n, b, true, 1), (r.2.2 : Int), c.2.2.2.1, c.2.2.2.2 + 1)
        have hes : es c' = (es c).set r.1 (n, b, 1) := by
          show (r.2.1.set r.1 (n, b, true, 1)).map er = (c.2.1.map er).set r.1 (n, b, 1)
          rw [List.map_set, g4]; rfl
        have hef : (es c)[r.1]? = some (er f) := by
          show (c.2.1.map er)[r.1]? = _
          rw [← g4, List.getElem?_map, g5]; rfl
        refine ⟨b, false, 0, c', cache0 ?_, ref0 ?_, ?_, rfl, .inr (.inr ⟨rfl, h0, h1, hbl, hbn, r.1, b, 1, g1, hes, .inr ⟨rfl, rfl, hno, ⟨er f, hef, g6, .inr (fun g hg => ?_)⟩, rfl, rfl⟩⟩)⟩
        · rw [f7, Option.bind_some, if_neg (by rw [decide_eq_true_eq]; simp only []; omega)]
          simp only []
          rw [at_nat hil, Option.bind_some, hcl, Option.bind_some, Int.toNat_natCast, wi_eq (by omega) (by omega)]
        · rw [rat_spec I, a3]
          show ((some (-1 : Int)).bind _) = _
          rw [Option.bind_some, if_neg (by decide), rat_spec I, f2]
          show ((some (-1 : Int)).bind _) = _
          have hml : (c.2.1.map pr).length = K := by rw [List.length_map]; exact hl
          rw [Option.bind_some, if_pos (by decide), app?_eq (by rw [hml]; simp; omega), Option.bind_some, List.nil_append]
          have hsF : s < FU := by
            show s < 4611686018427387904; omega
          have q := ref_clk (c.2.1.map pr) ((N : Int) + 1) c.2.2.2.1 c.2.2.2.2 s c.2.1 h r (by omega) (by omega) (by rw [hml, hl]) (fun f hf => (I.hd _ (es_mem hf)).1) f6 FU 0 hsF (by omega)
          rw [show ((0 : Nat) : Int) = 0 from rfl, ← f3] at q
          have q' : colophonref07_Cache_Hold.l1 (c.2.1.map pr) FU (-1) 0 (prj ((N : Int) + 1) c) = some ((r.1 : Int), ((N : Int) + 1, r.2.1.map pr, (r.2.2 : Int), c.2.2.2.1, c.2.2.2.2)) := q
          rw [q', Option.bind_some, if_neg (by rw [decide_eq_true_eq]; simp only []; omega)]
          simp only []
          rw [at_nat (by rw [List.length_map]; exact hil), Option.bind_some, set?_nat _ (by rw [List.length_map]; exact hil), Option.bind_some, wi_eq (by omega) (by omega)]
          show some (false, (0 : Int), (((N : Int) + 1, (r.2.1.map pr).set r.1 (n, 1, true), (r.2.2 : Int), c.2.2.2.1, c.2.2.2.2 + 1) : Rx)) = some (false, 0, ((N : Int) + 1, (r.2.1.set r.1 (n, b, true, 1)).map pr, (r.2.2 : Int), c.2.2.2.1, c.2.2.2.2 + 1))
          rw [List.map_set]; rfl
        · exact I.put (c' := c') rfl (by show (r.2.1.set _ _).length = _; rw [List.length_set]; exact g3) ⟨r.2.2, rfl, by omega⟩ hes h0 h1 hb (by omega) (by omega) (fun j e g1 g2 => hu j e r.1 g1 g2) ⟨ha0, by show c.2.2.2.1 ≤ _; omega⟩ ⟨by show 0 ≤ c.2.2.2.2 + 1; omega, by show c.2.2.2.2 + 1 ≤ _; omega⟩
        · obtain ⟨f', hf', rfl⟩ := mem_es hg
          exact f1 f' hf'
end Ca
end Go.Proofs.Ytbcdcpkofgfofaa
