/-
  One tenant's jobs are told in turn, in plain words. No condition.
-/
import Derived.Test.YtnffhpnlehcoiaaPuFairB
import Derived.Test.YtnffhpnlehcoiaaGFairOne
namespace Go.Proofs.Ytnffhpnlehcoiaa
open Go Go.Gol
set_option linter.unusedVariables false
set_option linter.unusedSimpArgs false
set_option linter.unnecessarySimpa false
set_option maxRecDepth 100000
namespace Fair
theorem first_f : colophonlaw23_first.f = some true := by decide +kernel
theorem tmod_eq {a b : Int} (ha : 0 ≤ a) : Int.tmod a b = a % b := Int.tmod_eq_emod_of_nonneg ha
theorem wu64 (a : Int) : IntKind.wrap .u64 a = a % 18446744073709551616 := wrap_u64_eq a
def rot (n i : Nat) : List Job := (List.range n).map fun p => (((100 + (i + p) % n : Nat) : Int), false)
theorem rot_len (n i : Nat) : (rot n i).length = n := by simp [rot]
theorem rot_get {n i p : Nat} (h : p < n) : (rot n i)[p]? = some (((100 + (i + p) % n : Nat) : Int), false) := by
  unfold rot; rw [List.getElem?_map, List.getElem?_range h]; rfl
theorem rot_next {n i : Nat} (hn : 0 < n) : ((rot n i).take 0 ++ (rot n i).drop 1) ++ [(((100 + i % n : Nat) : Int), false)] = rot n (i + 1) := by
  rw [List.take_zero, List.nil_append]
  apply List.ext_getElem?
  intro p
  by_cases h1 : p < n - 1
  · rw [List.getElem?_append_left (by rw [List.length_drop, rot_len]; omega), List.getElem?_drop, rot_get (by omega), rot_get (by omega)]
    rw [show i + (1 + p) = i + 1 + p by omega]
  · by_cases h2 : p = n - 1
    · rw [List.getElem?_append_right (by rw [List.length_drop, rot_len]; omega), List.length_drop, rot_len, rot_get (by omega), h2, Nat.sub_self]
      have : (i + 1 + (n - 1)) % n = i % n := by rw [show i + 1 + (n - 1) = i + n by omega, Nat.add_mod_right]
      rw [this]; rfl
    · rw [List.getElem?_eq_none (by rw [List.length_append, List.length_drop, rot_len]; simp; omega), List.getElem?_eq_none (by rw [rot_len]; omega)]
theorem rot_rdy {n i : Nat} (hn : 0 < n) {w c s : Int} : rdy (w, c, s, rot n i) = some 0 := by
  refine fix_of (m := 0) (rot_get hn) rfl (fun i j' hi => by omega)
theorem rot_find {n i : Nat} (hn : 0 < n) {w c s : Int} : find (has ((100 + i % n : Nat) : Int)) [(w, c, s, rot n i)] = some (0, 0) := by
  unfold find
  rw [fix_of (l := rot n i) (m := 0) (j := (((100 + (i + 0) % n : Nat) : Int), false)) (rot_get hn) (by simp [has]) (fun i j' hi => by omega)]
def one (w c s : Int) (J : List Job) : List Line := [(w, c, s, J)]
theorem one_inv {L : List Line} {w c s : Int} {J : List Job} (hl : L.length = 1) (h : same (w, c, s, J) (L.getD 0 l0)) : L = one w (L.getD 0 l0).2.1 s J := by
  match L, hl with
  | [(w', c', s', J')], _ =>
    obtain ⟨h1, h2, h3⟩ := h
    simp only [List.getD_cons_zero] at h1 h2 h3
    simp only [one, List.getD_cons_zero]
    rw [h1, h2, h3]
theorem inv_one {q w c s : Int} {J : List Job} {o : Bool} (hq : 1 ≤ q ∧ q ≤ 4096) (hw : 1 ≤ w ∧ w ≤ 16) (hJ : J.length ≤ 1000000) (h1 : -2 ≤ c) (h2 : c ≤ q * w) (h3 : o = false → c ≤ 0) : Inv 2 q (one w c s J) 0 o := by
  have hqw : q * w ≤ 4096 * 16 := Int.mul_le_mul hq.2 hw.2 (by omega) (by omega)
  have hg : ∀ j, (one w c s J).getD j l0 = if j = 0 then (w, c, s, J) else l0 := fun j => by
    cases j with
    | zero => rfl
    | succ j => simp [one, List.getD_eq_getElem?_getD]
  refine ⟨⟨hq.1, hq.2, by simp [one], fun j => ?_, fun j hj => ?_, fun j => ?_⟩, by simp [one], fun j hj => ?_, fun h => ?_, fun j => ?_, ?_⟩
  · rw [hg]; split
    · exact hJ
    · simp
  · have : j = 0 := by simp [one] at hj; exact hj
    rw [hg, if_pos this]; exact hw
  · rw [hg]; split
    · show -1000000 ≤ c ∧ c ≤ 65536; omega
    · show (-1000000 : Int) ≤ 0 ∧ (0 : Int) ≤ 65536; omega
  · rw [hg, if_neg hj]; exact Int.le_refl _
  · rw [hg, if_pos rfl]; exact h3 h
  · rw [hg]; split
    · exact h1
    · show (-2 : Int) ≤ 0; omega
  · rw [hg, if_pos rfl]; exact h2
theorem add_one_loop (a1 : Int) (ha : 0 ≤ a1) {q w : Int} (hq : 1 ≤ q ∧ q ≤ 4096) (hw : 1 ≤ w ∧ w ≤ 16) (n : Nat) (hn : wi (1 + wi (Int.tmod a1 20)) = (n : Int)) (hn2 : n ≤ 20) : ∀ (m k i : Nat), n - i = m → m < k → i ≤ n →
    colophonlaw23_FairOne.l1 a1 k (i : Int) (rg q (one w 0 0 ((List.range i).map fun p => (((100 + p : Nat) : Int), false))) 0 false 0 false) = some (rg q (one w 0 0 ((List.range n).map fun p => (((100 + p : Nat) : Int), false))) 0 false 0 false) := by
  intro m
  induction m with
  | zero => intro k i hm hk hi; cases k with
    | zero => omega
    | succ k =>
      have e : i = n := by omega
      rw [colophonlaw23_FairOne.l1, hn, if_neg (by rw [decide_eq_true_eq]; omega), e]
  | succ m ih => intro k i hm hk hi; cases k with
    | zero => omega
    | succ k =>
      rw [colophonlaw23_FairOne.l1, hn, if_pos (by rw [decide_eq_true_eq]; omega), wi_eq (n := 100 + (i : Int)) (by omega) (by omega)]
      have hS : Sm (one w 0 0 ((List.range i).map fun p => (((100 + p : Nat) : Int), false))) := ⟨by simp [one], fun l hl => by simp [one] at hl; subst hl; simp; omega⟩
      have hf : find (has (100 + (i : Int))) (one w 0 0 ((List.range i).map fun p => (((100 + p : Nat) : Int), false))) = none := by
        cases hx : find (has (100 + (i : Int))) (one w 0 0 ((List.range i).map fun p => (((100 + p : Nat) : Int), false))) with
        | none => rfl
        | some x =>
          obtain ⟨l, h1, h2, _⟩ := find_some hx
          obtain ⟨j, h3, h4, _⟩ := fix_some h2
          have hm := List.mem_of_getElem? h1
          simp [one] at hm
          subst hm
          have hj := List.mem_of_getElem? h3
          simp at hj
          obtain ⟨p, hp, rfl⟩ := hj
          simp [has] at h4; omega
      have he := add_eq (q := q) (L := one w 0 0 ((List.range i).map fun p => (((100 + p : Nat) : Int), false))) (t := 0) (o := false) (told := 0) (h := false) (a := 0) (id := 100 + (i : Int)) hS (by simp [one])
      rw [hf] at he
      rw [show ((0 : Nat) : Int) = 0 from rfl] at he
      rw [he, Option.bind_some]
      simp only []
      rw [wi_eq (by omega) (by omega), show ((i : Int) + 1) = ((i + 1 : Nat) : Int) by omega]
      have := ih k (i + 1) (by omega) (by omega) (by omega)
      rw [← this]
      congr 2
      show [addJ _ _] = _
      unfold addJ one
      rw [List.range_succ, List.map_append]
      simp only [List.map_cons, List.map_nil, List.getElem_cons_zero]
      congr 5
theorem loop_one (a1 : Int) (ha : 0 ≤ a1) (costs : List Int) (hcs : ∀ c ∈ costs, 0 ≤ c ∧ c ≤ 255) {q w : Int} (hq : 1 ≤ q ∧ q ≤ 4096) (hw : 1 ≤ w ∧ w ≤ 16) (n : Nat) (hn : wi (1 + wi (Int.tmod a1 20)) = (n : Int)) (hn2 : 1 ≤ n ∧ n ≤ 20) :
    ∀ (m k i : Nat) (acc c told : Int) (o : Bool), 200 - i = m → m < k → i ≤ 200 → 0 ≤ acc → acc ≤ 3 * i → -2 ≤ c → c ≤ q * w → (o = false → c ≤ 0) →
    ∃ acc' q', colophonlaw23_FairOne.l2 a1 costs k acc (i : Int) (rg q (one w c acc (rot n i)) 0 o told false) = some (.inl (acc', q')) ∧ fair_Ring_Spent.f (some q') 0 = some acc' := by
  intro m
  have hsp : ∀ c acc o told h i, fair_Ring_Spent.f (some (rg q (one w c acc (rot n i)) 0 o told h)) 0 = some acc := fun c acc o told h i => by
    have := spent_eq (q := q) (L := one w c acc (rot n i)) (t := 0) (o := o) (told := told) (h := h) (a := 0) (by simp [one])
    exact this
  induction m with
  | zero => intro k i acc c told o hm hk hi h0 h1 h2 h3 h4; cases k with
    | zero => omega
    | succ k =>
      rw [colophonlaw23_FairOne.l2]
      by_cases hil : i < costs.length
      · rw [if_pos (by rw [decide_eq_true_eq]; omega), at?_nat, List.getElem?_eq_getElem hil, Option.bind_some, if_pos (by rw [decide_eq_true_eq]; omega)]; exact ⟨_, _, rfl, hsp _ _ _ _ _ _⟩
      · rw [if_neg (by rw [decide_eq_true_eq]; omega)]; exact ⟨_, _, rfl, hsp _ _ _ _ _ _⟩
  | succ m ih => intro k i acc c told o hm hk hi h0 h1 h2 h3 h4; cases k with
    | zero => omega
    | succ k =>
      rw [colophonlaw23_FairOne.l2]
      by_cases hil : ¬ i < costs.length
      · rw [if_neg (by rw [decide_eq_true_eq]; omega)]; exact ⟨_, _, rfl, hsp _ _ _ _ _ _⟩
      replace hil : i < costs.length := by omega
      rw [if_pos (by rw [decide_eq_true_eq]; omega), at?_nat, List.getElem?_eq_getElem hil, Option.bind_some, if_neg (by rw [decide_eq_true_eq]; omega)]
      have hI := inv_one (s := acc) (J := rot n i) (o := o) hq hw (by rw [rot_len]; omega) h2 h3 h4
      obtain ⟨L', t', o', m', s1, s2, s3, s4, s5⟩ := next_yes (told := told) (h := false) (by omega) (by omega) hI (s := 0) (by simp [one]) (by show (rdy (w, c, acc, rot n i)).isSome = true; rw [rot_rdy (by omega)]; rfl)
      have hL := one_inv (by rw [s1.len]; rfl) (s1.same 0)
      have ht' : t' = 0 := by have := s3.ht; rw [s1.len] at this; simp [one] at this; exact this
      subst ht'
      generalize hc' : (L'.getD 0 l0).2.1 = c' at hL
      rw [hL] at s2 s4 s5
      have hr : rdy ((one w c' acc (rot n i)).getD 0 l0) = some 0 := rot_rdy (by omega)
      rw [hr] at s4
      obtain rfl : 0 = m' := by simpa using s4
      unfold stop at s2
      simp only [Bool.and_eq_true, decide_eq_true_eq] at s2
      obtain ⟨ho', _, hpos⟩ := s2
      subst ho'
      replace hpos : c' > 0 := hpos
      have htop := s3.top
      rw [hL] at htop
      replace htop : c' ≤ q * w := htop
      have hid : (((one w c' acc (rot n i)).getD 0 l0).2.2.2.getD 0 (0, false)).1 = ((100 + i % n : Nat) : Int) := by
        show ((rot n i).getD 0 (0, false)).1 = _
        rw [List.getD_eq_getElem?_getD, rot_get (by omega)]; rfl
      rw [hid] at s5
      rw [show ((0 : Nat) : Int) = 0 from rfl] at s5
      rw [s5, Option.bind_some]
      have hcc := hcs _ (List.getElem_mem hil)
      have hmod : Int.tmod (i : Int) (n : Int) = ((i % n : Nat) : Int) := by rw [tmod_eq (by omega)]; norm_cast
      have hin : i % n < n := Nat.mod_lt _ (by omega)
      simp only [Bool.not_true, Bool.false_eq_true, if_false, bne_self_eq_false]
      rw [hn, chk?_eq (by rw [decide_eq_true_eq]; omega), Option.bind_some, hmod, wi_eq (n := 100 + _) (by omega) (by omega), if_neg (by simp), tmod_eq hcc.1, wi_eq (n := costs[i] % 4) (by omega) (by omega)]
      have hqw : q * w ≤ 4096 * 16 := Int.mul_le_mul hq.2 hw.2 (by omega) (by omega)
      have hch := charge_eq (q := q) (L := one w c' acc (rot n i)) (t := 0) (o := true) (told := ((100 + i % n : Nat) : Int)) (c := costs[i] % 4) ⟨by simp [one], fun l hl => by simp [one] at hl; subst hl; show (rot n i).length ≤ _; rw [rot_len]; omega⟩ (by omega) (by omega) (rot_find (by omega)) (fun l hl => by simp [one] at hl; subst hl; show -1000000 ≤ c' ∧ c' ≤ 1000000 ∧ -1000000 ≤ acc ∧ acc ≤ 1000000; omega)
      rw [hch, Option.bind_some]
      simp only [Bool.not_true, Bool.false_eq_true, if_false]
      have hnew : (one w c' acc (rot n i)).set 0 (chargeJ ((one w c' acc (rot n i)).getD 0 (0, 0, 0, [])) 0 (costs[i] % 4)) = one w (c' - costs[i] % 4) (acc + costs[i] % 4) (rot n (i + 1)) := by
        show [chargeJ (w, c', acc, rot n i) 0 (costs[i] % 4)] = _
        unfold chargeJ one
        simp only []
        rw [List.getD_eq_getElem?_getD, rot_get (by omega)]
        have := rot_next (n := n) (i := i) (by omega)
        simp only [Option.getD_some, Nat.add_zero, Nat.zero_add]
        rw [this]
      rw [hnew, wi_eq (by omega) (by omega), wi_eq (by omega) (by omega), show ((i : Int) + 1) = ((i + 1 : Nat) : Int) by omega]
      exact ih k (i + 1) (acc + costs[i] % 4) (c' - costs[i] % 4) _ true (by omega) (by omega) (by omega) (by omega) (by omega) (by omega) (by omega) (fun h => by cases h)
end Fair
open Fair
theorem pure_FairOne (a0 : Int) (F0 : Fits (.int .i64) a0) (a1 : Int) (F1 : Fits (.int .u8) a1) (l2 : List Int) (F2 : Fits (.slice 5 (.int .u8)) l2) : colophonlaw23_FairOne.f a0 a1 l2 = some true := by
  have ha1 := fits_u8 F1
  have hcs : ∀ c ∈ l2, 0 ≤ c ∧ c ≤ 255 := fun c hc => by have := fits_u8 (F2.2 c hc); omega
  unfold colophonlaw23_FairOne.f
  rw [Fair.first_f, Option.bind_some, if_neg (by simp)]
  have hq0 : 0 ≤ IntKind.wrap .u64 a0 := by rw [wrap_u64_eq]; omega
  rw [tmod_eq hq0, tmod_eq (show 0 ≤ a1 by omega), wi_eq (n := IntKind.wrap .u64 a0 % 4096) (by omega) (by omega), wi_eq (n := 1 + IntKind.wrap .u64 a0 % 4096) (by omega) (by omega), wi_eq (n := a1 % 16) (by omega) (by omega), wi_eq (n := 1 + a1 % 16) (by omega) (by omega)]
  generalize hqe : 1 + IntKind.wrap .u64 a0 % 4096 = q
  generalize hwe : 1 + a1 % 16 = w
  have hq : 1 ≤ q ∧ q ≤ 4096 := by omega
  have hw : 1 ≤ w ∧ w ≤ 16 := by omega
  rw [new_eq hq (fun x hx => by simp at hx; subst hx; exact hw) (by simp), Option.bind_some, Option.bind_some]
  have hn : wi (1 + wi (Int.tmod a1 20)) = (((1 + a1 % 20).toNat : Nat) : Int) := by
    rw [tmod_eq (show 0 ≤ a1 by omega), wi_eq (n := a1 % 20) (by omega) (by omega), wi_eq (by omega) (by omega)]; omega
  generalize hne : (1 + a1 % 20).toNat = n at hn
  have hn2 : 1 ≤ n ∧ n ≤ 20 := by omega
  have e1 := add_one_loop a1 (by omega) hq hw n hn hn2.2 n FU 0 (by omega) (by show n < 4611686018427387904; omega) (by omega)
  rw [show ((0 : Nat) : Int) = 0 from rfl] at e1
  show (colophonlaw23_FairOne.l1 a1 FU 0 (rg q (one w 0 0 ((List.range 0).map fun p => (((100 + p : Nat) : Int), false))) 0 false 0 false)).bind _ = _
  rw [e1, Option.bind_some]
  have hr : ((List.range n).map fun p => (((100 + p : Nat) : Int), false)) = rot n 0 := by
    unfold rot
    refine List.map_congr_left fun p hp => ?_
    rw [Nat.zero_add, Nat.mod_eq_of_lt (List.mem_range.1 hp)]
  rw [hr]
  have hqw : 0 ≤ q * w := Int.mul_nonneg (by omega) (by omega)
  have hk : ∃ acc' q', colophonlaw23_FairOne.l2 a1 l2 FU 0 0 (rg q (one w 0 0 (rot n 0)) 0 false 0 false) = some (.inl (acc', q')) ∧ fair_Ring_Spent.f (some q') 0 = some acc' := by
    exact loop_one a1 (by omega) l2 hcs hq hw n hn hn2 200 FU 0 0 0 0 false (by omega) (by show 200 < 4611686018427387904; omega) (by omega) (by omega) (by omega) (by omega) hqw (fun _ => by omega)
  obtain ⟨acc', q', e2, e3⟩ := hk
  rw [e2, Option.bind_some]
  simp only []
  rw [e3]; simp
end Go.Proofs.Ytnffhpnlehcoiaa
