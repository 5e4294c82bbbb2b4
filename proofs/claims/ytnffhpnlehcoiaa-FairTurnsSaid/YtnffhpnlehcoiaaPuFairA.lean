/-
  Rings of tenants in plain words: what each call finds, adds, holds, takes, tells, charges. No condition.
-/
import Derived.Test.YtnffhpnlehcoiaaGP1c
import Derived.Test.YtnffhpnlehcoiaaGI
namespace Go.Proofs.Ytnffhpnlehcoiaa
open Go Go.Gol
set_option linter.unusedVariables false
set_option linter.unusedSimpArgs false
set_option linter.unnecessarySimpa false
set_option maxRecDepth 100000
namespace Fair
abbrev Job := Int × Bool
abbrev Line := Int × Int × Int × List Job
abbrev Ring := Int × List (Option Line) × Int × Bool × Int × Bool
def rg (q : Int) (L : List Line) (t : Int) (o : Bool) (told : Int) (h : Bool) : Ring := (q, L.map some, t, o, told, h)
/-- the first place that fits -/
def fix (p : Job → Bool) : List Job → Option Nat
  | [] => none
  | j :: l => if p j then some 0 else (fix p l).map (· + 1)
theorem fix_some {p : Job → Bool} : ∀ {l : List Job} {m : Nat}, fix p l = some m → ∃ j, l[m]? = some j ∧ p j = true ∧ ∀ i j', i < m → l[i]? = some j' → p j' = false
  | [], m, h => by cases h
  | j :: l, m, h => by
    unfold fix at h
    by_cases hp : p j = true
    · rw [if_pos hp] at h; cases h
      exact ⟨j, rfl, hp, fun i j' hi => by omega⟩
    · rw [if_neg hp] at h
      cases hm : fix p l with
      | none => simp [hm] at h
      | some m' =>
        simp only [hm, Option.map_some, Option.some.injEq] at h
        subst h
        obtain ⟨j0, h1, h2, h3⟩ := fix_some hm
        refine ⟨j0, by simpa using h1, h2, fun i j' hi hj' => ?_⟩
        cases i with
        | zero => simp at hj'; subst hj'; simpa using hp
        | succ i => exact h3 i j' (by omega) (by simpa using hj')
theorem fix_none {p : Job → Bool} : ∀ {l : List Job}, fix p l = none → ∀ j ∈ l, p j = false
  | [], _, j, h => by cases h
  | a :: l, h, j, hj => by
    unfold fix at h
    by_cases hp : p a = true
    · rw [if_pos hp] at h; cases h
    · rw [if_neg hp] at h
      have hm : fix p l = none := by simpa using h
      rcases List.mem_cons.1 hj with rfl | hj
      · simpa using hp
      · exact fix_none hm j hj
theorem fix_of {p : Job → Bool} : ∀ {l : List Job} {m : Nat} {j : Job}, l[m]? = some j → p j = true → (∀ i j', i < m → l[i]? = some j' → p j' = false) → fix p l = some m
  | [], m, j, h, _, _ => by simp at h
  | a :: l, 0, j, h, hp, _ => by simp at h; subst h; unfold fix; rw [if_pos hp]
  | a :: l, m + 1, j, h, hp, hn => by
    have ha : p a = false := hn 0 a (by omega) rfl
    unfold fix
    rw [if_neg (by simp [ha]), fix_of (l := l) (m := m) (by simpa using h) hp (fun i j' hi hj' => hn (i + 1) j' (by omega) (by simpa using hj'))]; rfl
theorem fix_lt {p : Job → Bool} {l : List Job} {m : Nat} (h : fix p l = some m) : m < l.length := by
  obtain ⟨j, hj, _⟩ := fix_some h
  rcases Nat.lt_or_ge m l.length with h' | h'
  · exact h'
  · rw [List.getElem?_eq_none h'] at hj; cases hj
/-- a walk through a list of jobs -/
theorem scan {g : Nat → Int → Option (Sum Int Unit)} {l : List Job} {p : Job → Bool} (hs : ∀ (k i : Nat) (h : i < l.length), g (k + 1) (i : Int) = if p l[i] = true then some (.inl (i : Int)) else g k ((i + 1 : Nat) : Int)) (he : ∀ k, g (k + 1) (l.length : Int) = some (.inr ())) :
    ∀ (m k i : Nat), l.length - i = m → m < k → i ≤ l.length → g k (i : Int) = some (match fix p (l.drop i) with | some m => .inl ((i + m : Nat) : Int) | none => .inr ()) := by
  intro m
  induction m with
  | zero => intro k i hm hk hi; cases k with
    | zero => omega
    | succ k =>
      have e : i = l.length := by omega
      subst e
      rw [he, List.drop_length]; rfl
  | succ m ih => intro k i hm hk hi; cases k with
    | zero => omega
    | succ k =>
      have hil : i < l.length := by omega
      rw [hs k i hil, List.drop_eq_getElem_cons hil]
      unfold fix
      by_cases hp : p l[i] = true
      · rw [if_pos hp, if_pos hp]; rfl
      · rw [if_neg hp, if_neg hp, ih k (i + 1) (by omega) (by omega) (by omega)]
        cases fix p (l.drop (i + 1)) with
        | none => rfl
        | some x => simp only [Option.map_some]; congr 2; omega
theorem scan0 {g : Nat → Int → Option (Sum Int Unit)} {l : List Job} {p : Job → Bool} (hs : ∀ (k i : Nat) (h : i < l.length), g (k + 1) (i : Int) = if p l[i] = true then some (.inl (i : Int)) else g k ((i + 1 : Nat) : Int)) (he : ∀ k, g (k + 1) (l.length : Int) = some (.inr ())) (hl : l.length ≤ 1000000) :
    g FU 0 = some (match fix p l with | some m => .inl (m : Int) | none => .inr ()) := by
  have := scan hs he l.length FU 0 (by omega) (by show l.length < 4611686018427387904; omega) (by omega)
  rw [show ((0 : Nat) : Int) = 0 from rfl, List.drop_zero] at this
  rw [this]; cases fix p l <;> simp
/-- which line has a job, and where -/
def find (p : Job → Bool) : List Line → Option (Nat × Nat)
  | [] => none
  | l :: L => match fix p l.2.2.2 with | some m => some (0, m) | none => (find p L).map fun x => (x.1 + 1, x.2)
theorem find_some {p : Job → Bool} : ∀ {L : List Line} {x : Nat × Nat}, find p L = some x → ∃ l, L[x.1]? = some l ∧ fix p l.2.2.2 = some x.2 ∧ ∀ s l', s < x.1 → L[s]? = some l' → fix p l'.2.2.2 = none
  | [], x, h => by cases h
  | l :: L, x, h => by
    unfold find at h
    cases hf : fix p l.2.2.2 with
    | some m =>
      rw [hf] at h; simp only [Option.some.injEq] at h; subst h
      exact ⟨l, rfl, hf, fun s l' hs => by simp at hs⟩
    | none =>
      rw [hf] at h
      cases hm : find p L with
      | none => simp [hm] at h
      | some y =>
        simp only [hm, Option.map_some, Option.some.injEq] at h
        subst h
        obtain ⟨l0, h1, h2, h3⟩ := find_some hm
        refine ⟨l0, by simpa using h1, h2, fun s l' hs hl' => ?_⟩
        cases s with
        | zero => simp at hl'; subst hl'; exact hf
        | succ s => exact h3 s l' (by simpa using hs) (by simpa using hl')
theorem find_none {p : Job → Bool} : ∀ {L : List Line}, find p L = none → ∀ l ∈ L, fix p l.2.2.2 = none
  | [], _, l, h => by cases h
  | a :: L, h, l, hl => by
    unfold find at h
    cases hf : fix p a.2.2.2 with
    | some m => rw [hf] at h; cases h
    | none =>
      rw [hf] at h
      have hm : find p L = none := by simpa using h
      rcases List.mem_cons.1 hl with rfl | hl
      · exact hf
      · exact find_none hm l hl
theorem scanL {g : Nat → Int → Option (Sum (Int × Int) Unit)} {L : List Line} {p : Job → Bool} (hs : ∀ (k i : Nat) (h : i < L.length), g (k + 1) (i : Int) = match fix p (L[i]).2.2.2 with | some m => some (.inl ((i : Int), (m : Int))) | none => g k ((i + 1 : Nat) : Int)) (he : ∀ k, g (k + 1) (L.length : Int) = some (.inr ())) :
    ∀ (m k i : Nat), L.length - i = m → m < k → i ≤ L.length → g k (i : Int) = some (match find p (L.drop i) with | some x => .inl (((i + x.1 : Nat) : Int), (x.2 : Int)) | none => .inr ()) := by
  intro m
  induction m with
  | zero => intro k i hm hk hi; cases k with
    | zero => omega
    | succ k =>
      have e : i = L.length := by omega
      subst e
      rw [he, List.drop_length]; rfl
  | succ m ih => intro k i hm hk hi; cases k with
    | zero => omega
    | succ k =>
      have hil : i < L.length := by omega
      rw [hs k i hil, List.drop_eq_getElem_cons hil]
      unfold find
      cases hf : fix p (L[i]).2.2.2 with
      | some m => rfl
      | none =>
        simp only []
        rw [ih k (i + 1) (by omega) (by omega) (by omega)]
        cases find p (L.drop (i + 1)) with
        | none => rfl
        | some x => simp only [Option.map_some]; congr 3; omega
theorem scanL0 {g : Nat → Int → Option (Sum (Int × Int) Unit)} {L : List Line} {p : Job → Bool} (hs : ∀ (k i : Nat) (h : i < L.length), g (k + 1) (i : Int) = match fix p (L[i]).2.2.2 with | some m => some (.inl ((i : Int), (m : Int))) | none => g k ((i + 1 : Nat) : Int)) (he : ∀ k, g (k + 1) (L.length : Int) = some (.inr ())) (hL : L.length ≤ 1000000) :
    g FU 0 = some (match find p L with | some x => .inl ((x.1 : Int), (x.2 : Int)) | none => .inr ()) := by
  have := scanL hs he L.length FU 0 (by omega) (by show L.length < 4611686018427387904; omega) (by omega)
  rw [show ((0 : Nat) : Int) = 0 from rfl, List.drop_zero] at this
  rw [this]; cases find p L <;> simp
/-- nothing is too large -/
structure Sm (L : List Line) : Prop where
  len : L.length ≤ 1000000
  jobs : ∀ l ∈ L, l.2.2.2.length ≤ 1000000
theorem at_map {L : List Line} {i : Nat} (h : i < L.length) : at? (L.map some) (i : Int) = some (some L[i]) := by
  rw [at?_nat, List.getElem?_map, List.getElem?_eq_getElem h]; rfl
theorem at_jobs {l : List Job} {i : Nat} (h : i < l.length) : at? l (i : Int) = some l[i] := by
  rw [at?_nat, List.getElem?_eq_getElem h]
theorem at_some {α : Type} {l : List α} {i : Nat} {j : α} (h : l[i]? = some j) : at? l (i : Int) = some j := by rw [at?_nat, h]
theorem wi1 {i n : Nat} (h : i ≤ 1000000) : wi ((i : Int) + 1) = ((i + 1 : Nat) : Int) := by rw [wi_eq (by omega) (by omega)]; omega
/-- the first of a line that isn't held -/
def rdy (l : Line) : Option Nat := fix (fun j => !j.2) l.2.2.2
def rdyI (l : Line) : Int := match rdy l with | some m => (m : Int) | none => -1
theorem ready_eq {l : Line} (hl : l.2.2.2.length ≤ 1000000) : fair_line_ready.f (some l) = some (rdyI l) := by
  unfold fair_line_ready.f
  rw [Option.bind_some, scan0 (g := fair_line_ready.l1 l) (l := l.2.2.2) (p := fun j => !j.2) (fun k i h => by
      rw [fair_line_ready.l1, if_pos (by rw [decide_eq_true_eq]; omega), at_jobs h, Option.bind_some]
      unfold fair_line_ready_1.f
      rw [Option.bind_some]
      simp only []
      rw [wi1 (n := 0) (by omega)]) (fun k => by rw [fair_line_ready.l1, if_neg (by rw [decide_eq_true_eq]; omega)]) hl]
  unfold rdyI rdy
  cases fix (fun j => !j.2) l.2.2.2 <;> rfl
theorem ready_ge (l : Line) : decide (rdyI l ≥ 0) = (rdy l).isSome := by
  unfold rdyI; cases rdy l with
  | none => simp
  | some m => simp
/-! ### who has a job -/
abbrev has (id : Int) : Job → Bool := fun j => j.1 == id
theorem fix_of_loop {g : Nat → Int → Option (Sum Int Unit)} {l : List Job} {id : Int} (hg : ∀ k x, g (k + 1) x = if decide (x < (l.length : Int)) then (at? l x).bind fun v => if (v.1 == id) then some (.inl x) else g k (wi (x + 1)) else some (.inr ())) (hl : l.length ≤ 1000000) :
    g FU 0 = some (match fix (has id) l with | some m => .inl (m : Int) | none => .inr ()) :=
  scan0 (g := g) (l := l) (p := has id) (fun k i h => by rw [hg, if_pos (by rw [decide_eq_true_eq]; omega), at_jobs h, Option.bind_some, wi1 (n := 0) (by omega)]) (fun k => by rw [hg, if_neg (by rw [decide_eq_true_eq]; omega)]) hl
theorem find_of_loop {g : Nat → Int → Option (Sum (Int × Int) Unit)} {G : Line → Nat → Int → Option (Sum Int Unit)} {L : List Line} {id : Int} (hS : Sm L)
    (hG : ∀ y k x, G y (k + 1) x = if decide (x < (y.2.2.2.length : Int)) then (at? y.2.2.2 x).bind fun v => if (v.1 == id) then some (.inl x) else G y k (wi (x + 1)) else some (.inr ()))
    (hg : ∀ k x, g (k + 1) x = if decide (x < ((L.map some).length : Int)) then (at? (L.map some) x).bind fun v => v.bind fun y => (G y FU 0).bind fun o => match o with | .inl a => if decide (a ≥ 0) then some (.inl (x, a)) else g k (wi (x + 1)) | .inr _ => if decide ((-1 : Int) ≥ 0) then some (.inl (x, (-1))) else g k (wi (x + 1)) else some (.inr ())) :
    g FU 0 = some (match find (has id) L with | some x => .inl ((x.1 : Int), (x.2 : Int)) | none => .inr ()) :=
  scanL0 (g := g) (L := L) (p := has id) (fun k i h => by
    have := hS.len
    rw [hg, if_pos (by rw [decide_eq_true_eq, List.length_map]; omega), at_map h, Option.bind_some, Option.bind_some, fix_of_loop (hG L[i]) (hS.jobs _ (List.getElem_mem h)), Option.bind_some]
    cases fix (has id) (L[i]).2.2.2 with
    | none => simp only []; rw [if_neg (by simp), wi1 (n := 0) (by omega)]
    | some m => simp only []; rw [if_pos (by simp)]) (fun k => by rw [hg, if_neg (by rw [decide_eq_true_eq, List.length_map]; omega)]) hS.len
theorem set_map (L : List Line) (k : Nat) (y : Line) : List.set (L.map some) k (some y) = (L.set k y).map some := by rw [List.map_set]
def addJ (l : Line) (id : Int) : Line := (l.1, l.2.1, l.2.2.1, l.2.2.2 ++ [(id, false)])
theorem add_eq {q : Int} {L : List Line} {t : Int} {o : Bool} {told : Int} {h : Bool} {a : Nat} {id : Int} (hS : Sm L) (ha : a < L.length) :
    fair_Ring_Add.f (rg q L t o told h) (a : Int) id = some (match find (has id) L with | some _ => (false, rg q L t o told h) | none => (true, rg q (L.set a (addJ L[a] id)) t o told h)) := by
  unfold fair_Ring_Add.f
  have e5 : fair_Ring_Add.l5 (rg q L t o told h) id FU 0 = _ := find_of_loop (g := fair_Ring_Add.l5 (rg q L t o told h) id) (G := fair_Ring_Add.l6 id) (L := L) (id := id) hS (fun y k x => rfl) (fun k x => rfl)
  rw [if_neg (by simp), if_neg (by simp [rg]; exact ha)]
  show (at? (L.map some) (a : Int)).bind _ = _
  rw [at_map ha, Option.bind_some, e5, Option.bind_some]
  cases find (has id) L with
  | some x => simp only []; rw [if_pos (by simp)]
  | none =>
    simp only []
    have := hS.jobs _ (List.getElem_mem ha)
    rw [if_neg (by simp), app?_eq (by simp; omega), Option.bind_some]
    show some (true, q, List.set (L.map some) ((a : Int)).toNat (some (addJ L[a] id)), t, o, told, h) = _
    rw [set_map, Int.toNat_natCast]; rfl
def holdJ (l : Line) (i : Nat) (b : Bool) : Line := (l.1, l.2.1, l.2.2.1, l.2.2.2.set i ((l.2.2.2.getD i (0, false)).1, b))
theorem hold_eq {q : Int} {L : List Line} {t : Int} {o : Bool} {told : Int} {h : Bool} {id : Int} {b : Bool} (hS : Sm L) :
    fair_Ring_Hold.f (rg q L t o told h) id b = some (match find (has id) L with | some x => (true, rg q (L.set x.1 (holdJ (L.getD x.1 (0, 0, 0, [])) x.2 b)) t o told h) | none => (false, rg q L t o told h)) := by
  unfold fair_Ring_Hold.f
  have e1 : fair_Ring_Hold.l1 (rg q L t o told h) id FU 0 = _ := find_of_loop (g := fair_Ring_Hold.l1 (rg q L t o told h) id) (G := fair_Ring_Hold.l2 id) (L := L) (id := id) hS (fun y k x => rfl) (fun k x => rfl)
  rw [e1, Option.bind_some]
  cases hf : find (has id) L with
  | none => rfl
  | some x =>
    obtain ⟨l, h1, h2, _⟩ := find_some hf
    obtain ⟨j, h3, h4, _⟩ := fix_some h2
    simp only []
    rw [if_pos (by simp)]
    show (at? (L.map some) (x.1 : Int)).bind _ = _
    rw [at_some (j := some l) (by rw [List.getElem?_map, h1]; rfl), Option.bind_some, Option.bind_some, at_some h3, Option.bind_some]
    show some (decide ((x.2 : Int) ≥ 0), q, List.set (L.map some) ((x.1 : Int)).toNat (some (l.1, l.2.1, l.2.2.1, List.set l.2.2.2 ((x.2 : Int)).toNat (j.1, b))), t, o, told, h) = _
    rw [set_map, Int.toNat_natCast, Int.toNat_natCast, decide_eq_true (by omega)]
    unfold holdJ rg
    rw [List.getD_eq_getElem?_getD, List.getD_eq_getElem?_getD, h1]
    simp only [Option.getD_some]
    rw [h3]; rfl
def outJ (l : Line) (i : Nat) : Line := (l.1, l.2.1, l.2.2.1, l.2.2.2.take i ++ l.2.2.2.drop (i + 1))
theorem del_eq {l : List Job} {i : Nat} (h : i < l.length) (hl : l.length ≤ 1000000) : slices_Delete.f l (i : Int) (wi ((i : Int) + 1)) = some (l.take i ++ l.drop (i + 1)) := by
  unfold slices_Delete.f
  rw [wi1 (n := 0) (by omega), if_pos (by omega), Int.toNat_natCast, Int.toNat_natCast]
theorem take_eq {q : Int} {L : List Line} {t : Int} {o : Bool} {told : Int} {h : Bool} {id : Int} (hS : Sm L) :
    fair_Ring_Take.f (rg q L t o told h) id = some (match find (has id) L with | some x => (true, rg q (L.set x.1 (outJ (L.getD x.1 (0, 0, 0, [])) x.2)) t o told (if told == id then false else h)) | none => (false, rg q L t o told h)) := by
  unfold fair_Ring_Take.f
  have e1 : fair_Ring_Take.l1 (rg q L t o told h) id FU 0 = _ := find_of_loop (g := fair_Ring_Take.l1 (rg q L t o told h) id) (G := fair_Ring_Take.l2 id) (L := L) (id := id) hS (fun y k x => rfl) (fun k x => rfl)
  rw [e1, Option.bind_some]
  cases hf : find (has id) L with
  | none => rfl
  | some x =>
    obtain ⟨l, h1, h2, _⟩ := find_some hf
    have h3 := fix_lt h2
    simp only []
    rw [if_neg (by simp)]
    show (at? (L.map some) (x.1 : Int)).bind _ = _
    rw [at_some (j := some l) (by rw [List.getElem?_map, h1]; rfl), Option.bind_some, Option.bind_some, del_eq h3 (hS.jobs _ (List.mem_of_getElem? h1)), Option.bind_some]
    have e : ∀ h', (true, q, List.set (L.map some) ((x.1 : Int)).toNat (some (l.1, l.2.1, l.2.2.1, l.2.2.2.take x.2 ++ l.2.2.2.drop (x.2 + 1))), t, o, told, h') = (true, rg q (L.set x.1 (outJ (L.getD x.1 (0, 0, 0, [])) x.2)) t o told h') := fun h' => by
      rw [set_map, Int.toNat_natCast]
      unfold outJ rg
      rw [List.getD_eq_getElem?_getD, h1]; rfl
    show (if (told == id) = true then some (true, q, List.set (L.map some) ((x.1 : Int)).toNat (some (l.1, l.2.1, l.2.2.1, l.2.2.2.take x.2 ++ l.2.2.2.drop (x.2 + 1))), t, o, told, false) else some (true, q, List.set (L.map some) ((x.1 : Int)).toNat (some (l.1, l.2.1, l.2.2.1, l.2.2.2.take x.2 ++ l.2.2.2.drop (x.2 + 1))), t, o, told, h)) = _
    rw [e, e]
    by_cases hti : (told == id) = true
    · rw [if_pos hti, if_pos hti]
    · rw [if_neg hti, if_neg hti]
def chargeJ (l : Line) (i : Nat) (c : Int) : Line := (l.1, l.2.1 - c, l.2.2.1 + c, (l.2.2.2.take i ++ l.2.2.2.drop (i + 1)) ++ [l.2.2.2.getD i (0, false)])
theorem charge_no {q : Int} {L : List Line} {t : Int} {o : Bool} {told : Int} {c : Int} : fair_Ring_Charge.f (rg q L t o told false) c = some (false, rg q L t o told false) := by
  unfold fair_Ring_Charge.f; rfl
theorem charge_eq {q : Int} {L : List Line} {t : Int} {o : Bool} {told : Int} {c : Int} (hS : Sm L) (hc0 : 0 ≤ c) (hc3 : c ≤ 3) {x : Nat × Nat} (hf : find (has told) L = some x)
    (hb : ∀ l ∈ L, -1000000 ≤ l.2.1 ∧ l.2.1 ≤ 1000000 ∧ -1000000 ≤ l.2.2.1 ∧ l.2.2.1 ≤ 1000000) :
    fair_Ring_Charge.f (rg q L t o told true) c = some (true, rg q (L.set x.1 (chargeJ (L.getD x.1 (0, 0, 0, [])) x.2 c)) t o told false) := by
  unfold fair_Ring_Charge.f
  have e1 : fair_Ring_Charge.l1 (rg q L t o told true) FU 0 = _ := find_of_loop (g := fair_Ring_Charge.l1 (rg q L t o told true)) (G := fair_Ring_Charge.l2 (rg q L t o told true)) (L := L) (id := told) hS (fun y k x => rfl) (fun k x => rfl)
  rw [if_neg (by simp [rg]), if_neg (by rw [decide_eq_true_eq]; omega), if_neg (by rw [decide_eq_true_eq]; omega), e1, Option.bind_some, hf]
  obtain ⟨l, h1, h2, _⟩ := find_some hf
  obtain ⟨j, h3, h4, _⟩ := fix_some h2
  have h5 := fix_lt h2
  have hm := List.mem_of_getElem? h1
  have hjl := hS.jobs _ hm
  obtain ⟨b1, b2, b3, b4⟩ := hb l hm
  simp only []
  show (at? (L.map some) (x.1 : Int)).bind _ = _
  rw [at_some (j := some l) (by rw [List.getElem?_map, h1]; rfl), Option.bind_some, Option.bind_some, at_some h3, Option.bind_some, del_eq h5 hjl, Option.bind_some, app?_eq (by simp; omega), Option.bind_some, wi_eq (by omega) (by omega), wi_eq (by omega) (by omega)]
  show some (true, q, List.set (L.map some) ((x.1 : Int)).toNat (some (l.1, l.2.1 - c, l.2.2.1 + c, (l.2.2.2.take x.2 ++ l.2.2.2.drop (x.2 + 1)) ++ [(j.1, j.2)])), t, o, told, false) = _
  rw [set_map, Int.toNat_natCast]
  unfold chargeJ rg
  rw [List.getD_eq_getElem?_getD, List.getD_eq_getElem?_getD, h1]
  simp only [Option.getD_some]
  rw [h3]; rfl
theorem spent_eq {q : Int} {L : List Line} {t : Int} {o : Bool} {told : Int} {h : Bool} {a : Nat} (ha : a < L.length) : fair_Ring_Spent.f (some (rg q L t o told h)) (a : Int) = some (L[a].2.2.1) := by
  unfold fair_Ring_Spent.f
  simp only []
  rw [if_neg (by simp), if_neg (by simp [rg]; exact ha)]
  show (at? (L.map some) (a : Int)).bind _ = _
  rw [at_map ha]; rfl
theorem new_loop (q : Int) (ws : List Int) (hw : ∀ w ∈ ws, 1 ≤ w ∧ w ≤ 16) (hl : ws.length ≤ 16) (t : Int) (o : Bool) (told : Int) (h : Bool) : ∀ (m k i : Nat), ws.length - i = m → m < k → i ≤ ws.length → fair_New.l1 ws k (i : Int) (rg q ((ws.take i).map fun w => (w, 0, 0, [])) t o told h) = some (.inr (rg q (ws.map fun w => (w, 0, 0, [])) t o told h)) := by
  intro m
  induction m with
  | zero => intro k i hm hk hi; cases k with
    | zero => omega
    | succ k =>
      rw [fair_New.l1, if_neg (by rw [decide_eq_true_eq]; omega), List.take_of_length_le (by omega)]
  | succ m ih => intro k i hm hk hi; cases k with
    | zero => omega
    | succ k =>
      have hil : i < ws.length := by omega
      have hwi := hw _ (List.getElem_mem hil)
      rw [fair_New.l1, if_pos (by rw [decide_eq_true_eq]; omega), at?_nat, List.getElem?_eq_getElem hil, Option.bind_some, if_neg (by rw [decide_eq_true_eq]; omega), if_neg (by rw [decide_eq_true_eq]; omega)]
      show (app? 17592186044416 (((ws.take i).map fun w => ((w, 0, 0, []) : Line)).map some) [some (ws[i], 0, 0, [])]).bind _ = _
      rw [app?_eq (by simp; omega), Option.bind_some, wi_eq (by omega) (by omega), show ((i : Int) + 1) = ((i + 1 : Nat) : Int) by omega]
      have := ih k (i + 1) (by omega) (by omega) (by omega)
      rw [← this]
      congr 1
      unfold rg
      rw [List.take_add_one, List.getElem?_eq_getElem hil]
      simp only [Option.toList_some, List.map_append, List.map_cons, List.map_nil]
theorem new_eq {q : Int} {ws : List Int} (hq : 1 ≤ q ∧ q ≤ 4096) (hw : ∀ w ∈ ws, 1 ≤ w ∧ w ≤ 16) (hl : 1 ≤ ws.length ∧ ws.length ≤ 16) : fair_New.f q ws = some (some (rg q (ws.map fun w => (w, 0, 0, [])) ((ws.length - 1 : Nat) : Int) false 0 false), 0) := by
  unfold fair_New.f
  rw [if_neg (by rw [decide_eq_true_eq]; omega), if_neg (by rw [decide_eq_true_eq]; omega), if_neg (by rw [decide_eq_true_eq]; omega), if_neg (by rw [decide_eq_true_eq]; omega), wi_eq (by omega) (by omega)]
  have := new_loop q ws hw hl.2 ((ws.length : Int) - 1) false 0 false ws.length FU 0 (by omega) (by show ws.length < 4611686018427387904; omega) (by omega)
  rw [show ((0 : Nat) : Int) = 0 from rfl, List.take_zero] at this
  show (fair_New.l1 ws FU 0 (rg q (([] : List Int).map fun w => (w, 0, 0, [])) ((ws.length : Int) - 1) false 0 false)).bind _ = _
  rw [this, Option.bind_some]
  simp only []
  rw [show ((ws.length : Int) - 1) = ((ws.length - 1 : Nat) : Int) by omega]
end Fair
end Go.Proofs.Ytnffhpnlehcoiaa
